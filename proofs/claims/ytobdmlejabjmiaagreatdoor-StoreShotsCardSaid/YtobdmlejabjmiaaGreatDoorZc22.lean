/- Made small by a program. -/
import Derived.Test.YtobdmlejabjmiaaGreatDoorZc21
set_option maxRecDepth 20000
set_option maxHeartbeats 8000000
namespace Go.Proofs.YtobdmlejabjmiaaGreatDoor
open Go.RowKit
theorem zcR{l:List Nm}{D:DSt}(h:(cleanD l D).1=0):(cleanL l D).1=0:=by
 unfold cleanD at h;split at h
 ·rename_i e;subst e;rfl
 ·split at h
  ·assumption
  ·exact h
theorem SR.row{B p g cv co:Nat}{S:Nat->Prop}{w w':World}{s:Sl}{D:DSt}{V O:Option Addr}(h:SR B S w p g s D V cv O co)(m:Mods (fun x=>O.map (·.block)=some x) w w'){l:List Nm}{k:Nat}(hk:k=l.length)(ho:OV w' B 9 O co (l.map encStr))(hl:∀f∈l,f.length<=1000):SR B S (w'.setCell ⟨p,5,none⟩ (.slice O k co)) p g { s with old:=l } D V cv O co:=by
 subst hk;have hp2:=h.blk.mods m (h.old.ne_blk h.blk (by decide));have sv:=h.val.mods m (fun k hk e=>by
  obtain⟨cs,hcs⟩:=h.val.blk k hk;exact h.old.ne_blk (T:=5) hcs (by decide) e)
 have sd:=h.di.mods m (fun x _ hs e=>h.os x e hs);have m2:Mods (·=p) w' (w'.setCell ⟨p,5,none⟩ (.slice O l.length co)):=(Mods.refl (·=p) w').setCell ⟨p,_,none⟩ (.inl rfl) _;exact⟨hp2.setCell 5 _,sd.mods m2 (fun x _ hs e=>h.ps (by rw[<-e];exact hs)),sv.mods m2 (fun k hk e=>sv.ne_blk hp2 (by decide) (by rw[hk,e])),ho.mods m2 (fun k hk e=>ho.ne_blk hp2 (by decide) (by rw[hk,e])),h.ge,h.sge,h.ps,h.vs,h.os,h.bl,hl⟩
def slotAt(b:Nm)(sc:Sc):Sl:=⟨b,sc.last,sc.value,sc.has,sc.old,false⟩
structure OpenAt(B:Nat)(S:Nat->Prop)(w:World)(g p c6 c7:Nat)(b:Nm)(D:DSt)(A:Option Addr)(cA:Nat)(sc:Sc)(wr:World):Prop where
 slot:∃V cv O co,SR B S wr p g (slotAt b sc) D V cv O co/\∀x,O.map (·.block)=some x->w.heap.size<=x/\A.map (·.block)≠some x
 six:Blk wr c6 69 #[.pointer (some ⟨p,0,none⟩)]
 seven:Blk wr c7 23 #[.int .u64 (sc.best:Int)]
 names:OV wr w.heap.size 9 A cA ((namesD D).map encStr)
 bel:Below w.heap.size w wr
 gp:w.heap.size<=p
 g7:w.heap.size<=c7
 sw:∀x,S x->x<w.heap.size
 g6:w.heap.size<=c6
section
variable {B g p c6 c7 cA:Nat} {S:Nat->Prop} {w wr w':World} {b:Nm} {D:DSt} {A:Option Addr} {sc sc':Sc}
theorem OpenAt.below(h:OpenAt B S w g p c6 c7 b D A cA sc wr)(hb:Below wr.heap.size wr w'):OpenAt B S w g p c6 c7 b D A cA sc w':=by
 obtain⟨⟨V,cv,O,co,h1,h1'⟩,h2,h3,h4,h5,h6,h7,h8,h9⟩:=h;exact⟨⟨V,cv,O,co,h1.below hb,h1'⟩,h2.kept hb,h3.kept hb,h4.below hb,h5.trans (hb.mono h5.size),h6,h7,h8,h9⟩
theorem OpenAt.cast(h:OpenAt B S w g p c6 c7 b D A cA sc wr)(e:sc'=sc):OpenAt B S w g p c6 c7 b D A cA sc' wr:=by subst e;exact h
theorem OpenAt.var(h:OpenAt B S w g p c6 c7 b D A cA sc wr)(j:Nat)(v:Value)(hbest:sc'.best=sc.best)
  (hs:∀V cv O co,SR B S wr p g (slotAt b sc) D V cv O co->(∀x,O.map (·.block)=some x->w.heap.size<=x/\A.map (·.block)≠some x)->∃V' cv' O' co',SR B S (wr.setCell ⟨p,j,none⟩ v) p g (slotAt b sc') D V' cv' O' co'/\∀x,O'.map (·.block)=some x->w.heap.size<=x/\A.map (·.block)≠some x) :
  OpenAt B S w g p c6 c7 b D A cA sc' (wr.setCell ⟨p,j,none⟩ v):=by
 obtain⟨⟨V,cv,O,co,h1,h1'⟩,h2,h3,h4,h5,h6,h7,h8,h9⟩:=h;have hp:=h1.blk;have m:Mods (·=p) wr (wr.setCell ⟨p,j,none⟩ v):=(Mods.refl (·=p) wr).setCell ⟨p,_,none⟩ (.inl rfl) _;have n6:c6≠p:=fun e=>by
  have h:=h2;rw[e] at h;have h':wr.heap[p]?=_:=hp;have h'':wr.heap[p]?=_:=h;rw[h'] at h'';injection h'' with h''
  injection h'' with _ ht
  exact absurd ht (by decide)
 have n7:c7≠p:=fun e=>by
  have h:=h3;rw[e] at h;have h':wr.heap[p]?=_:=hp;have h'':wr.heap[p]?=_:=h;rw[h'] at h'';injection h'' with h''
  injection h'' with _ ht
  exact absurd ht (by decide)
 exact⟨hs V cv O co h1 h1',h2.mods m n6,by rw[hbest];exact h3.mods m n7,h4.mods m (fun k hk e=>h4.ne_blk hp (by decide) (by rw[hk,e])),Mods.old h5 m h5.size (fun i _ e=>by subst e;exact h6),h6,h7,h8,h9⟩
theorem OpenAt.setLast(h:OpenAt B S w g p c6 c7 b D A cA sc wr)(m:Nat):OpenAt B S w g p c6 c7 b D A cA ⟨m,sc.best,sc.has,sc.value,sc.old⟩ (wr.setCell ⟨p,2,none⟩ (.int .u64 (m:Int))) :=
 h.var 2 _ rfl fun V cv O co h1 h2=>⟨V,cv,O,co,h1.set 2 _ rfl rfl rfl rfl,h2⟩
theorem OpenAt.setHas(h:OpenAt B S w g p c6 c7 b D A cA sc wr):OpenAt B S w g p c6 c7 b D A cA ⟨sc.last,sc.best,true,sc.value,sc.old⟩ (wr.setCell ⟨p,4,none⟩ (.bool true)) :=
 h.var 4 _ rfl fun V cv O co h1 h2=>⟨V,cv,O,co,h1.set 4 _ rfl rfl rfl rfl,h2⟩
theorem OpenAt.setVal(h:OpenAt B S w g p c6 c7 b D A cA sc wr){V':Option Addr}{cv':Nat}{l:List UInt8}(ho:OB wr B V' cv' l)(hs:∀x,V'.map (·.block)=some x->¬S x):OpenAt B S w g p c6 c7 b D A cA ⟨sc.last,sc.best,sc.has,l,sc.old⟩ (wr.setCell ⟨p,3,none⟩ (.slice V' l.length cv')) :=
 h.var 3 _ rfl fun _V _cv O co h1 h2=>⟨V',cv',O,co,h1.setVal ho hs,h2⟩
theorem OpenAt.setBest(h:OpenAt B S w g p c6 c7 b D A cA sc wr)(n:Nat):OpenAt B S w g p c6 c7 b D A cA ⟨sc.last,n,sc.has,sc.value,sc.old⟩ (wr.setCell ⟨c7,0,none⟩ (.int .u64 (n:Int))):=by
 obtain⟨⟨V,cv,O,co,h1,h1'⟩,h2,h3,h4,h5,h6,h7,h8,h9⟩:=h;have m:Mods (·=c7) wr (wr.setCell ⟨c7,0,none⟩ (.int .u64 (n:Int))):=(Mods.refl (·=c7) wr).setCell ⟨c7,_,none⟩ (.inl rfl) _;have hp:=h1.blk;have n7:p≠c7:=fun e=>by
  have h:=h3;rw[<-e] at h;have h':wr.heap[p]?=_:=hp;have h'':wr.heap[p]?=_:=h;rw[h'] at h'';injection h'' with h''
  injection h'' with _ ht
  exact absurd ht (by decide)
 have n6:c6≠c7:=fun e=>by
  have h:=h2;rw[e] at h;have h':wr.heap[c7]?=_:=h3;have h'':wr.heap[c7]?=_:=h;rw[h'] at h'';injection h'' with h''
  injection h'' with _ ht
  exact absurd ht (by decide)
 have nS:¬S c7:=fun hs=>by have:=h8 _ hs;omega
 exact⟨⟨V,cv,O,co,⟨hp.mods m n7,h1.di.mods m (fun x _ hs e=>nS (by rw[<-e];exact hs)),h1.val.mods m (fun k hk e=>h1.val.ne_blk h3 (by decide) (by rw[hk,e])),h1.old.mods m (fun k hk e=>h1.old.ne_blk h3 (by decide) (by rw[hk,e])),h1.ge,h1.sge,h1.ps,h1.vs,h1.os,h1.bl,h1.on⟩,h1'⟩,h2.mods m n6,h3.setCell 0 _,h4.mods m (fun k hk e=>h4.ne_blk h3 (by decide) (by rw[hk,e])),Mods.old h5 m h5.size (fun i _ e=>by subst e;exact h7),h6,h7,h8,h9⟩
theorem OB.ne_ov{w:World}{B B' c c':Nat}{e:TypeId}{V O:Option Addr}{l:List UInt8}{xs:List Value}(h:OB w B V c l)(k:OV w B' e O c' xs)(hne:5≠e):∀x,V.map (·.block)=some x->O.map (·.block)≠some x:=by
 intro x hx;obtain⟨cs,hcs⟩:=h.blk x hx;exact k.ne_blk hcs hne
theorem OpenAt.grow{V O A':Option Addr}{cv co c' m:Nat}{w2:World}{f:Nm}(h:OpenAt B S w g p c6 c7 b D A cA sc wr)(h1:SR B S wr p g (slotAt b sc) D V cv O co)(h1':∀x,O.map (·.block)=some x->w.heap.size<=x/\A.map (·.block)≠some x)(hf:f.length<=1000)
  (ho:OV w2 B 9 A' c' ((sc.old++[f]).map encStr)) (hg:wr.grownBy w2 (O.map (·.block))) (hat:A'.map (·.block)=O.map (·.block)\/A'.map (·.block)=some wr.heap.size) (hm:m=(sc.old++[f]).length) :
  OpenAt B S w g p c6 c7 b D A cA ⟨sc.last,sc.best,sc.has,sc.value,sc.old++[f]⟩ (w2.setCell ⟨p,5,none⟩ (.slice A' m c')):=by
 subst hm;obtain⟨_,h2,h3,h4,h5,h6,h7,h8,h9⟩:=h;have m1:Mods (fun x=>O.map (·.block)=some x) wr w2:=Mods.of_grown hg (fun k hk=>hk);have hp:=h1.blk;have np:∀x cs T,Blk wr x T cs->T≠9->¬O.map (·.block)=some x:=fun x cs T hb hT=>h1.old.ne_blk hb hT
 have hp2:=hp.mods m1 (np _ _ _ hp (by decide));have m2:Mods (·=p) w2 (w2.setCell ⟨p,5,none⟩ (.slice A' (sc.old++[f]).length c')):=(Mods.refl (·=p) w2).setCell ⟨p,_,none⟩ (.inl rfl) _;have s2:=h2.mods m1 (np _ _ _ h2 (by decide));have s3:=h3.mods m1 (np _ _ _ h3 (by decide));have s4:=h4.mods m1 (fun k hk e=>(h1' k e).2 hk);have sv:=h1.val.mods m1 (fun k hk e=>(h1.val.ne_ov h1.old (by decide)) k hk e);have sd:=h1.di.mods m1 (fun x _ hs e=>h1.os x e hs);have n6:c6≠p:=fun e=>by
  have h:=h2;rw[e] at h;have h':wr.heap[p]?=_:=hp;have h'':wr.heap[p]?=_:=h;rw[h'] at h'';injection h'' with h''
  injection h'' with _ ht
  exact absurd ht (by decide)
 have n7:c7≠p:=fun e=>by
  have h:=h3;rw[e] at h;have h':wr.heap[p]?=_:=hp;have h'':wr.heap[p]?=_:=h;rw[h'] at h'';injection h'' with h''
  injection h'' with _ ht
  exact absurd ht (by decide)
 have hbel:Below w.heap.size w w2:=Mods.old h5 m1 h5.size (fun i _ e=>(h1' i e).1);have hat2:∀x,A'.map (·.block)=some x->(w.heap.size<=x/\A.map (·.block)≠some x)/\¬S x:=by
  intro x hx
  rcases hat with e | e
  ·rw[e] at hx;exact⟨h1' x hx,h1.os x hx⟩
  ·rw[e] at hx;injection hx with hx
   have:=h5.size;refine⟨⟨by omega,fun hA=>?_⟩,fun hs=>?_⟩
   ·have:=(h4.blk_lt x hA).2;omega
   ·have:=h8 x hs;omega
 refine⟨⟨V,cv,A',c',⟨hp2.setCell 5 _,sd.mods m2 (fun x _ hs e=>h1.ps (by rw[<-e];exact hs)),sv.mods m2 (fun k hk e=>sv.ne_blk hp2 (by decide) (by rw[hk,e])),ho.mods m2 (fun k hk e=>ho.ne_blk hp2 (by decide) (by rw[hk,e])),h1.ge,h1.sge,h1.ps,h1.vs,fun x hx=>(hat2 x hx).2,h1.bl,fun y hy=>?_⟩,fun x hx=>(hat2 x hx).1⟩,s2.mods m2 n6,s3.mods m2 n7,s4.mods m2 (fun k hk e=>s4.ne_blk hp2 (by decide) (by rw[hk,e])),Mods.old hbel m2 hbel.size (fun i _ e=>by subst e;exact h6),h6,h7,h8,h9⟩
 rcases List.mem_append.1 hy with hy | hy
 ·exact h1.on y hy
 ·rw[List.mem_singleton.1 hy];exact hf
end
end Go.Proofs.YtobdmlejabjmiaaGreatDoor
