/- Made small by a program. -/
import Derived.Test.YtobdmlejabjmiaaGreatDoorZd20
set_option maxRecDepth 20000
set_option maxHeartbeats 8000000
namespace Go.Proofs.YtobdmlejabjmiaaGreatDoor
open Go.RowKit
abbrev slotV(g:Nat)(s:Sl)(V:Option Addr)(cv:Nat)(O:Option Addr)(co:Nat):Array Value :=
 #[.pointer (some ⟨g,0,none⟩),.string ⟨s.base.toArray⟩,.int .u64 (s.last:Int),.slice V s.value.length cv,.bool s.has,.slice O s.old.length co,.bool s.down]
structure SR(B:Nat)(S:Nat->Prop)(w:World)(p g:Nat)(s:Sl)(D:DSt)(V:Option Addr)(cv:Nat)(O:Option Addr)(co:Nat):Prop where
 blk:Blk w p TS (slotV g s V cv O co)
 di:DI S w g D
 val:OB w B V cv s.value
 old:OV w B 9 O co (s.old.map encStr)
 ge:B<=p
 sge:∀b,S b->B<=b
 ps:¬S p
 vs:∀b,V.map (·.block)=some b->¬S b
 os:∀b,O.map (·.block)=some b->¬S b
 bl:s.base.length<=8
 on:∀f∈s.old,f.length<=1000
section
variable {B p g cv co:Nat} {S:Nat->Prop} {w w':World} {s s':Sl} {D D':DSt} {V O:Option Addr}
theorem SR.below(h:SR B S w p g s D V cv O co)(hb:Below w.heap.size w w'):SR B S w' p g s D V cv O co :=
 ⟨h.blk.kept hb,h.di.below hb,h.val.below hb,h.old.below hb,h.ge,h.sge,h.ps,h.vs,h.os,h.bl,h.on⟩
theorem SR.disk(h:SR B S w p g s D V cv O co)(hB:B<=w.heap.size)(hd:DI (Sx S w w') w' g D')(m:Mods S w w'):SR B (Sx S w w') w' p g s D' V cv O co :=
 ⟨h.blk.mods m h.ps,hd,h.val.mods m h.vs,h.old.mods m h.os,h.ge,fun b hb=>by
  rcases hb with hb | hb
  ·exact h.sge b hb
  ·have:=hb.1;omega,fun hb=>by
  rcases hb with hb | hb
  ·exact h.ps hb
  ·have:=hb.1;have:=h.blk.lt;omega,fun b hb hs=>by
  rcases hs with hs | hs
  ·exact h.vs b hb hs
  ·have:=hs.1;have:=(h.val.blk_in b hb).2;omega,fun b hb hs=>by
  rcases hs with hs | hs
  ·exact h.os b hb hs
  ·have:=hs.1;have:=(h.old.blk_lt b hb).2;omega,h.bl,h.on⟩
theorem SR.set(h:SR B S w p g s D V cv O co)(j:Nat)(v:Value)(hrow:(slotV g s V cv O co).setIfInBounds j v=slotV g s' V cv O co)(e1:s'.value=s.value)(e2:s'.old=s.old)(e3:s'.base=s.base):SR B S (w.setCell ⟨p,j,none⟩ v) p g s' D V cv O co:=by
 have m:Mods (·=p) w (w.setCell ⟨p,j,none⟩ v):=(Mods.refl (·=p) w).setCell ⟨p,_,none⟩ (.inl rfl) _
 have hb:=h.blk.setCell j v
 rw[hrow] at hb
 exact⟨hb,h.di.mods m (fun b _ hs e=>h.ps (by rw[<-e];exact hs)),by rw[e1];exact h.val.mods m (fun k hk e=>h.val.ne_blk h.blk (by decide) (by rw[hk,e])),by rw[e2];exact h.old.mods m (fun k hk e=>h.old.ne_blk h.blk (by decide) (by rw[hk,e])),h.ge,h.sge,h.ps,h.vs,h.os,by rw[e3];exact h.bl,by rw[e2];exact h.on⟩
theorem SR.setOld(h:SR B S w p g s D V cv O co){O':Option Addr}{co':Nat}{l:List Nm}(ho:OV w B 9 O' co' (l.map encStr))(hs:∀b,O'.map (·.block)=some b->¬S b)(hl:∀f∈l,f.length<=1000):SR B S (w.setCell ⟨p,5,none⟩ (.slice O' l.length co')) p g { s with old:=l } D V cv O' co':=by
 have m:Mods (·=p) w (w.setCell ⟨p,5,none⟩ (.slice O' l.length co')):=(Mods.refl (·=p) w).setCell ⟨p,_,none⟩ (.inl rfl) _
 exact⟨h.blk.setCell 5 _,h.di.mods m (fun b _ hs e=>h.ps (by rw[<-e];exact hs)),h.val.mods m (fun k hk e=>h.val.ne_blk h.blk (by decide) (by rw[hk,e])),ho.mods m (fun k hk e=>ho.ne_blk h.blk (by decide) (by rw[hk,e])),h.ge,h.sge,h.ps,h.vs,hs,h.bl,hl⟩
theorem SR.setVal(h:SR B S w p g s D V cv O co){V':Option Addr}{cv':Nat}{l:List UInt8}(ho:OB w B V' cv' l)(hs:∀b,V'.map (·.block)=some b->¬S b):SR B S (w.setCell ⟨p,3,none⟩ (.slice V' l.length cv')) p g { s with value:=l } D V' cv' O co:=by
 have m:Mods (·=p) w (w.setCell ⟨p,3,none⟩ (.slice V' l.length cv')):=(Mods.refl (·=p) w).setCell ⟨p,_,none⟩ (.inl rfl) _
 exact⟨h.blk.setCell 3 _,h.di.mods m (fun b _ hs e=>h.ps (by rw[<-e];exact hs)),ho.mods m (fun k hk e=>ho.ne_blk h.blk (by decide) (by rw[hk,e])),h.old.mods m (fun k hk e=>h.old.ne_blk h.blk (by decide) (by rw[hk,e])),h.ge,h.sge,h.ps,hs,h.os,h.bl,h.on⟩
def SDone(B:Nat)(S:Nat->Prop)(w:World)(V0:Option Addr)(p g:Nat)(v:Value)(s':Sl)(D':DSt)(e:Ending)(w':World):Prop :=
 e=.returned v/\∃(S':Nat->Prop) (V:Option Addr) (cv:Nat) (O:Option Addr) (co:Nat),SR B S' w' p g s' D' V cv O co/\(∀b,S' b->S b\/w.heap.size<=b)/\Mods (fun b=>S b\/b=p) w w'/\∀b,V.map (·.block)=some b->V0.map (·.block)=some b\/w.heap.size<=b
theorem change_cnt(D:DSt)(c:Wr)(off:Int):(changeD D c off).2.cnt<=D.cnt+1:=by
 unfold changeD
 split
 ·exact Nat.le_succ _
 ·split
  ·simp only[DSt.cnt,burnD_sure,burnD_unsure];omega
  ·simp only[DSt.cnt,burnD_sure,burnD_unsure,List.length_append,List.length_cons,List.length_nil];omega
theorem do_len(F:FS)(c:Wr):(doF F c).length<=F.length+1:=by
 unfold doF
 split
 ·exact fset_len _ _ _
 ·split
  ·exact fset_len _ _ _
  ·split
   ·unfold fdel;have:=List.length_filter_le (fun p:Nm × List UInt8=>decide (p.1≠c.name)) F;omega
   ·omega
theorem change_files(D:DSt)(c:Wr)(off:Int):(changeD D c off).2.files.length<=D.files.length+1:=by
 unfold changeD
 split
 ·exact Nat.le_succ _
 ·split
  ·rw[burnD_files];omega
  ·have e:({ burnD D with unsure:=(burnD D).unsure++[c] }:DSt).files=doF D.files c:=by
    unfold DSt.files
    simp only[burnD_sure,burnD_unsure,List.foldl_append,List.foldl_cons,List.foldl_nil]
   rw[e]
   exact do_len _ _
theorem sync_cnt(D:DSt):(syncD D).2.cnt<=D.cnt+D.files.length:=by
 unfold syncD
 split
 ·exact Nat.le_add_right _ _
 ·split
  ·simp only[DSt.cnt,burnD_sure,burnD_unsure];omega
  ·simp only[DSt.cnt,List.length_nil];omega
def CleanAt(B:Nat)(S:Nat->Prop)(w:World)(p g:Nat)(s:Sl)(D:DSt)(V:Option Addr)(cv:Nat)(O:Option Addr)(co:Nat)(k:Nat)(wr:World):Prop :=
 ∃(S':Nat->Prop) (Dk:DSt),SR B S' wr p g s Dk V cv O co/\(∀b,S' b->S b\/w.heap.size<=b)/\Mods (fun b=>S b\/b=p) w wr/\cleanL s.old D=cleanL (s.old.drop k) Dk/\Dk.cnt<=D.cnt+k
theorem slotClean(h:SR B S w p g s D V cv O co)(hB:B<=w.heap.size)(hcnt:D.cnt+s.old.length<=1000000) :
  Calls Tryz.prog 64 #[.pointer (some ⟨p,0,none⟩)] w
   (SDone B S w V p g (.int .i64 (cleanD s.old D).1) { s with old:=if (cleanL s.old D).1=0 then [] else s.old,down:=s.down || decide ((cleanD s.old D).1=11) } (cleanD s.old D).2):=by
 have c5:w.cell? ⟨p,5,none⟩=some (.slice O s.old.length co):=h.blk.cell 5 rfl
 obtain⟨r,hr⟩:∃r,r=cleanD s.old D:=⟨_,rfl⟩
 obtain⟨s1,hs1⟩:∃s1:Sl,s1={ s with old:=if (cleanL s.old D).1=0 then [] else s.old,down:=s.down || decide (r.1=11) }:=⟨_,rfl⟩
 rw[<-hr,<-hs1]
 have HRR:=qh hr
 have HS1:=qh hs1
 clear hr hs1
 by_cases h0:s.old=[]
 ·have HF:Hid (SDone B S w V p g (.int .i64 r.1) s1 r.2 (.returned (.int .i64 0)) w):=qh (by
   have er:r=(0,D):=by rw[HRR.out];unfold cleanD;rw[if_pos h0]
   have e:s1=s:=by
    rw[HS1.out,er]
    obtain⟨a1,a2,a3,a4,a5,a6⟩:=s
    simp only at h0
    subst h0
    simp
   rw[e,er]
   exact⟨rfl,S,V,cv,O,co,h,fun b hb=>.inl hb,Mods.refl _ _,fun _ h=>.inl h⟩)
  rw[show s.old.length=0 from by rw[h0];rfl] at c5
  clear h h0 hcnt HRR HS1
  go_enter Tryz.func64,Tryz.ntmps64
  go_wp2_with fail
  go_ret
  exact HF.out
 ·have hlen:0<s.old.length:=List.length_pos_iff.2 h0
  have hne:((s.old.length:Int) == 0)=false:=by rw[beq_eq_false_iff_ne];omega
  have HA:Hid (CleanAt B S w p g s D V cv O co 0 w):=qh ⟨S,D,h,fun b hb=>.inl hb,Mods.refl _ _,rfl,Nat.le_refl _⟩
  have hcap:=h.old.cap
  rw[List.length_map] at hcap
  have H0:=qh h0
  clear h h0
  go_enter Tryz.func64,Tryz.ntmps64
  go_wp2_with fail
  go_loopw [17] (fun i wr=>∃k:Nat,k<=s.old.length/\i=.int .i64 (k:Int)/\Hid (CleanAt B S w p g s D V cv O co k wr)) (fun i _=>s.old.length - (intOf i).toNat)
  case atStart=>exact⟨0,Nat.zero_le _,rfl,HA⟩
  case round =>
   obtain⟨k,hk,rfl,HC⟩:=hrel
   obtain⟨S',Dk,hr,hS',hm,hcl,hck⟩:=HC.out
   by_cases hlt:k<s.old.length
   ·have hki:(k:Int)<(s.old.length:Int):=by omega
    have hki0:(0:Int)<=(k:Int):=by omega
    obtain⟨b,off,rfl,hbl,hc⟩:=hr.old.rv.cell (j:=k) (by simpa using hlt)
    have hf:(s.old.map encStr)[k]'(by simpa using hlt)=.string ⟨s.old[k].toArray⟩:=by simp[encStr]
    rw[hf] at hc
    have hfl:=hr.on _ (List.getElem_mem hlt)
    have hdrop:s.old.drop k=s.old[k]::s.old.drop (k+1):=List.drop_eq_getElem_cons hlt
    obtain⟨q,hq⟩:∃q,q=rmD Dk s.old[k]:=⟨_,rfl⟩
    have hrm:=diskRemoveC s.old[k] hr.di (by omega) (by omega)
    rw[show changeD Dk ⟨3,s.old[k],0,[]⟩ 0=q from hq.symm] at hrm
    have RM:=qh hrm
    have HQC:Hid (q.2.cnt<=D.cnt+(k+1)):=qh (by rw[hq];unfold rmD;have:=change_cnt Dk ⟨3,s.old[k],0,[]⟩ 0;omega)
    have HCL:Hid (cleanL s.old D=if q.1=0 then cleanL (s.old.drop (k+1)) q.2 else q):=qh (by rw[hcl,hdrop,cleanL,hq])
    have d0:wr.cell? ⟨p,0,none⟩=some (.pointer (some ⟨g,0,none⟩)):=hr.blk.cell 0 rfl
    have HR:=qh hr
    have HM:=qh hm
    have HS':=qh hS'
    generalize s.old[k]=f at *
    clear hr hf HC hdrop hfl hcl hck hrm hq hm hS'
    go_wp2_with (go_at_call 31;refine RM.out.mono ?_)
    rintro e w1 ⟨rfl,hd1,m1⟩
    have hR1:=HR.out.disk (Nat.le_trans hB HM.out.size) hd1 m1
    have DD:=qh (slotDid hR1.blk s.down rfl q.1)
    have HR2:Hid (SR B (Sx S' wr w1) (w1.setCell ⟨p,6,none⟩ (.bool (s.down || decide (q.1=11)))) p g { s with down:=s.down || decide (q.1=11) } q.2 V cv _ co):=qh (hR1.set 6 _ rfl rfl rfl rfl)
    have HM2:Hid (Mods (fun b=>S b\/b=p) w (w1.setCell ⟨p,6,none⟩ (.bool (s.down || decide (q.1=11))))):=qh ((HM.out.trans m1 (fun i hi=>by
     rcases HS'.out i hi with h | h
     ·exact .inl (.inl h)
     ·exact .inr h)).setCell ⟨p,6,none⟩ (.inl (.inr rfl)) _)
    have HS2:Hid (∀b,Sx S' wr w1 b->S b\/w.heap.size<=b):=qh (fun b hb=>by
     rcases hb with hb | hb
     ·exact HS'.out b hb
     ·exact .inr (Nat.le_trans HM.out.size hb.1))
    clear hd1 m1 hR1 RM HR HM HS' d0
    go_wp2_with (go_at_call 88;refine DD.out.mono ?_)
    rintro e w2 ⟨rfl,rfl⟩
    clear DD
    by_cases hq0:q.1=0
    ·have e1:({ s with down:=s.down || decide (q.1=11) }:Sl)=s:=by
      rw[hq0]
      obtain⟨a1,a2,a3,a4,a5,a6⟩:=s
      simp
     rw[e1] at HR2
     have HA2:Hid (CleanAt B S w p g s D V cv _ co (k+1) (w1.setCell ⟨p,6,none⟩ (.bool (s.down || decide (q.1=11))))):=qh ⟨_,q.2,HR2.out,HS2.out,HM2.out,by rw[HCL.out,if_pos hq0],HQC.out⟩
     rw[hq0]
     rw[hq0] at HA2
     simp only[show decide ((0:Int)=11)=false from rfl,Bool.or_false] at HA2
     clear HR2 HS2 HM2 HCL HQC e1 hq0
     go_wp2_with fail
     go_roundw
     case rel=>exact⟨k+1,by omega,by go_num,HA2⟩
     case measure=>simp[intOf];omega
    ·have er:r=q:=by
      rw[HRR.out];unfold cleanD;rw[if_neg H0.out,HCL.out,if_neg hq0,if_neg hq0]
     have hqb:(q.1 == 0)=false:=by simpa using hq0
     have HF:Hid (SDone B S w V p g (.int .i64 r.1) s1 r.2 (.returned (.int .i64 q.1)) (w1.setCell ⟨p,6,none⟩ (.bool (s.down || decide (q.1=11))))):=qh (by
      rw[er]
      refine⟨rfl,_,V,cv,some ⟨b,off,none⟩,co,?_,HS2.out,HM2.out,fun _ h=>.inl h⟩
      rw[HS1.out,HCL.out,if_neg hq0,if_neg hq0,er]
      exact HR2.out)
     clear HR2 HS2 HM2 HCL HQC er hq0 HRR HS1
     go_wp2_with fail
     go_ret
     exact HF.out
   ·obtain rfl:k=s.old.length:=by omega
    have hcl0:cleanL s.old D=(0,Dk):=by rw[hcl,List.drop_length];rfl
    have hR1:=hr.setOld (O':=none) (co':=0) (l:=[]) (OV.nil _ _ _) (fun b hb=>by cases hb) (fun f hf=>by cases hf)
    simp only[List.length_nil] at hR1
    have hm1:Mods (fun b=>S b\/b=p) w (wr.setCell ⟨p,5,none⟩ (.slice none 0 0)):=hm.setCell ⟨p,5,none⟩ (.inl (.inr rfl)) _
    have f5:wr.frozen? ⟨p,5,none⟩=false:=hr.blk.free 5
    have c5w:wr.cell? ⟨p,5,none⟩=some (.slice O s.old.length co):=hr.blk.cell 5 rfl
    have d0:wr.cell? ⟨p,0,none⟩=some (.pointer (some ⟨g,0,none⟩)):=hr.blk.cell 0 rfl
    have d0':(wr.setCell ⟨p,5,none⟩ (.slice none 0 0)).cell? ⟨p,0,none⟩=some (.pointer (some ⟨g,0,none⟩)):=hR1.blk.cell 0 rfl
    have SY:=qh (diskSyncC hR1.di (by omega))
    have HR1:=qh hR1
    have HM1:=qh hm1
    have HS':=qh hS'
    have HCL:=qh hcl0
    obtain⟨q,hq⟩:∃q,q=syncD Dk:=⟨_,rfl⟩
    rw[<-hq] at SY
    have er:r=q:=by rw[HRR.out];unfold cleanD;rw[if_neg H0.out,hcl0,if_pos rfl,hq]
    have HER:=qh er
    clear hr hR1 hm1 hm hS' hcl0 hcl hck hq er HC
    go_wp2_with (go_at_call 90;refine SY.out.mono ?_)
    rintro e w1 ⟨rfl,hd1,m1⟩
    have hsz:(wr.setCell ⟨p,5,none⟩ (.slice none 0 0)).heap.size=wr.heap.size:=by simp[World.setCell]
    have hR2:=HR1.out.disk (Nat.le_trans hB HM1.out.size) hd1 m1
    have DD:=qh (slotDid hR2.blk s.down rfl q.1)
    have HF:Hid (SDone B S w V p g (.int .i64 r.1) s1 r.2 (.returned (.int .i64 q.1)) (w1.setCell ⟨p,6,none⟩ (.bool (s.down || decide (q.1=11))))):=qh (by
     refine⟨by rw[HER.out],Sx S' (wr.setCell ⟨p,5,none⟩ (.slice none 0 0)) w1,V,cv,none,0,?_,?_,?_,fun _ h=>.inl h⟩
     ·rw[HS1.out,HCL.out,if_pos rfl,HER.out]
      exact hR2.set 6 _ rfl rfl rfl rfl
     ·intro b hb
      rcases hb with hb | hb
      ·exact HS'.out b hb
      ·exact .inr (Nat.le_trans HM1.out.size hb.1)
     ·exact(HM1.out.trans m1 (fun i hi=>by
       rcases HS'.out i hi with h | h
       ·exact .inl (.inl h)
       ·exact .inr h)).setCell ⟨p,6,none⟩ (.inl (.inr rfl)) _)
    clear hd1 m1 hR2 SY HR1 HM1 HS' HCL HER d0 d0' f5 c5w hsz HRR HS1
    go_wp2_with (go_at_call 88;refine DD.out.mono ?_)
    rintro e w2 ⟨rfl,rfl⟩
    go_wp2_with fail
    go_ret
    exact HF.out
end
def loadB(s:Sl):List UInt8:=if loadE s=0 then s.value else []
def LoadEnd(s:Sl)(w:World)(e:Ending)(w':World):Prop :=
 ∃A c,e=.returned (.tuple #[.slice A (loadB s).length c,.int .i64 (loadE s)])/\OB w' w.heap.size A c (loadB s)/\Below w.heap.size w w'
theorem loadEnd_no{s:Sl}{w:World}{k:Int}(h:loadE s=k)(hk:k≠0):LoadEnd s w (.returned (.tuple #[.slice none 0 0,.int .i64 k])) w:=by
 have hB:loadB s=[]:=by unfold loadB;rw[h,if_neg hk]
 exact⟨none,0,by rw[hB,h];rfl,by rw[hB];exact OB.nil _ _,Below.refl _ _⟩
section
variable {B p g cv co:Nat} {S:Nat->Prop} {w w':World} {s s':Sl} {D D':DSt} {V O:Option Addr}
theorem slotLoad(h:SR B S w p g s D V cv O co)(hl:s.value.length<=100000):Calls Tryz.prog 141 #[.pointer (some ⟨p,0,none⟩)] w (LoadEnd s w):=by
 have c3:w.cell? ⟨p,3,none⟩=some (.slice V s.value.length cv):=h.blk.cell 3 rfl
 have c4:w.cell? ⟨p,4,none⟩=some (.bool s.has):=h.blk.cell 4 rfl
 have c6:w.cell? ⟨p,6,none⟩=some (.bool s.down):=h.blk.cell 6 rfl
 have CL:=qh (cloneB' V cv s.value w h.val.rb (by omega))
 clear h
 cases hd:s.down with
 | true =>
  have HF:=qh (loadEnd_no (s:=s) (w:=w) (k:=11) (by unfold loadE;rw[if_pos hd]) (by decide))
  rw[hd] at c6
  clear hd
  go_enter Tryz.func141,Tryz.ntmps141
  go_wp2_with fail
  go_ret2
  exact HF.out
 | false =>
  rw[hd] at c6
  cases hh:s.has with
  | false =>
   have HF:=qh (loadEnd_no (s:=s) (w:=w) (k:=8) (by unfold loadE;rw[if_neg (by rw[hd];simp),if_pos hh]) (by decide))
   rw[hh] at c4
   clear hd hh
   go_enter Tryz.func141,Tryz.ntmps141
   go_wp2_with fail
   go_ret2
   exact HF.out
  | true =>
   rw[hh] at c4
   have HE:Hid (loadE s=0):=qh (by unfold loadE;rw[if_neg (by rw[hd];simp),if_neg (by rw[hh];simp)])
   have HB:Hid (loadB s=s.value):=qh (by unfold loadB;rw[if_pos HE.out])
   clear hd hh
   go_enter Tryz.func141,Tryz.ntmps141
   go_wp2_with (go_at_call 82;refine CL.out.mono ?_)
   rintro e w1 ⟨A,c,rfl,ho,hb⟩
   have HO:=qh ho
   have HBL:=qh hb
   clear ho hb CL
   go_wp2_with fail
   go_ret2
   exact⟨A,c,by rw[HB.out,HE.out];rfl,by rw[HB.out];exact HO.out,HBL.out⟩
theorem SR.same(h:SR B S w p g s D V cv O co)(e:s=s'):SR B S w p g s' D V cv O co:=by subst e;exact h
theorem up_same(s:Sl)(h:s.down=false):({ s with down:=false }:Sl)=s:=by
 obtain⟨a1,a2,a3,a4,a5,a6⟩:=s
 simp only at h
 subst h
 rfl
theorem slotSave(h:SR B S w p g s D V cv O co)(hB:B<=w.heap.size)(hE:SEnv B w)(hd:s.down=false)(x:List UInt8)(Y:Option Addr)(cy:Nat)(hY:RB w Y x)(hYS:0<x.length->∀b,Y.map (·.block)=some b->¬S b/\b≠p)(hx:x.length<=65520)(hl:s.last+1<18446744073709551616)(hcnt:D.cnt<=1000)(hfs:D.files.length<=1000)(hol:s.old.length<=1000) :
  Calls Tryz.prog 38 #[.pointer (some ⟨p,0,none⟩),.slice Y x.length cy] w (SDone B S w V p g (.int .i64 (saveS s D x).1) (saveS s D x).2.1 (saveS s D x).2.2):=by
 obtain⟨r,hr⟩:∃r,r=saveS s D x:=⟨_,rfl⟩
 rw[<-hr]
 unfold saveS at hr
 rw[if_neg (by rw[hd];simp),if_neg (by omega)] at hr
 have c6:w.cell? ⟨p,6,none⟩=some (.bool false):=by rw[<-hd];exact h.blk.cell 6 rfl
 have FR:=qh (codecFrame Y cy x w hY (by omega))
 have hxl:(x.length:Int)<=65520:=by omega
 have HS:=qh h
 have HE:=qh hE
 have HRR:=qh hr
 have HY:=qh hY
 have HYS:=qh hYS
 clear h hE hr hY hYS
 go_enter Tryz.func38,Tryz.ntmps38
 go_wp2_with (go_at_call 87;refine FR.out.mono ?_)
 rintro e w1 ⟨k,A,c,hk,hk1,hk2,rfl,ho,hb1⟩
 have hkf:=hk.out
 subst hkf
 have hR1:=HS.out.below hb1
 have HE1:=qh (HE.out.below (hb1.mono hB))
 have hB1:B<=w1.heap.size:=Nat.le_trans hB hb1.size
 have c2:w1.cell? ⟨p,2,none⟩=some (.int .u64 (s.last:Int)):=hR1.blk.cell 2 rfl
 have hw:=IntWalk.u64_in ((s.last:Int)+1) (by omega)
 have hfi:=slotFile hR1.blk rfl hR1.bl (s.last+1) hl HE1.out hB1
 rw[Int.natCast_add] at hfi
 have FI:=qh hfi
 have HO1:=qh ho
 have HB1:=qh hb1
 have HR1:=qh hR1
 clear FR c6 hk hk1 hk2 ho hb1 hR1 hfi HE1
 go_wp2_with (go_at_call 63;refine FI.out.mono ?_)
 rintro e w2 ⟨rfl,hb2⟩
 obtain⟨f,hf⟩:∃f,f=fileN s.base (s.last+1):=⟨_,rfl⟩
 rw[<-hf]
 have hR2:=HR1.out.below hb2
 have hB2:B<=w2.heap.size:=Nat.le_trans hB1 hb2.size
 obtain⟨q1,hq1⟩:∃q1,q1=putS D f x:=⟨_,rfl⟩
 have hfl:f.length<=1000:=by
  rw[hf];unfold fileN
  have:=Go.Lib.decDigits_length (s.last+1)
  have h2:=nDigits_le hl
  have:=HR1.out.bl
  simp only[List.length_append,List.length_cons,List.length_nil]
  omega
 have hfrl:=frame_len x
 have hnS:∀b,A.map (·.block)=some b->¬S b:=fun b hb hs=>by
  have h1:=(HO1.out.blk_in b hb).1
  have h2:=HS.out.di.bnd b hs
  omega
 have hpt:=diskPutC f 0 (frameB x) A c hR2.di (HO1.out.below hb2).rb (fun _=>hnS) (by omega) (by omega) (by omega) (by omega)
 rw[show changeD D ⟨1,f,(0:Int).toNat,frameB x⟩ 0=q1 from hq1.symm] at hpt
 have PT:=qh hpt
 have d0:w2.cell? ⟨p,0,none⟩=some (.pointer (some ⟨g,0,none⟩)):=hR2.blk.cell 0 rfl
 have HR2:=qh hR2
 have HB2:=qh (HB1.out.trans (hb2.mono HB1.out.size))
 have HFL:=qh hfl
 have HF:=qh hf
 have HQ1:=qh hq1
 clear FI c2 hw hR2 hpt hb2 hfl hfrl hf hq1 HR1 HO1 HB1 hnS
 go_wp2_with (go_at_call 89;refine PT.out.mono ?_)
 rintro e w3 ⟨rfl,hd3,m3⟩
 have hR3:=HR2.out.disk hB2 hd3 m3
 have hdd:=slotDid hR3.blk s.down rfl q1.1
 rw[hd] at hdd
 simp only[Bool.false_or] at hdd
 have DD:=qh hdd
 have hR4:SR B (Sx S w2 w3) (w3.setCell ⟨p,6,none⟩ (.bool (decide (q1.1=11)))) p g { s with down:=decide (q1.1=11) } q1.2 V cv O co:=hR3.set 6 _ rfl rfl rfl rfl
 have hm4:Mods (fun b=>S b\/b=p) w (w3.setCell ⟨p,6,none⟩ (.bool (decide (q1.1=11)))):=(((Mods.of_below HB2.out).trans m3 (fun i hi=>.inl (.inl hi))).setCell ⟨p,6,none⟩ (.inl (.inr rfl)) _)
 have hn4:∀b,Sx S w2 w3 b->S b\/w.heap.size<=b:=fun b hb=>by
  rcases hb with hb | hb
  ·exact .inl hb
  ·exact .inr (Nat.le_trans HB2.out.size hb.1)
 have HR4:=qh hR4
 have HM4:=qh hm4
 have HN4:=qh hn4
 have hs4:=hm4.size
 have HRB:=qh (HRR.out)
 rw[<-HF.out,<-HQ1.out] at HRB
 have hq1c:q1.2.cnt<=D.cnt+1:=by rw[HQ1.out];exact change_cnt _ _ _
 clear d0 hd3 m3 hR3 hdd hR4 hm4 hn4 PT HR2 HB2 hB2 HRR
 go_wp2_with (go_at_call 88;refine DD.out.mono ?_)
 rintro e w4 ⟨rfl,hw4⟩
 subst hw4
 clear DD
 by_cases h1:q1.1=0
 rotate_left
 ·have h1b:(q1.1 == 0)=false:=by simpa using h1
  have HFIN:Hid (SDone B S w V p g (.int .i64 r.1) r.2.1 r.2.2 (.returned (.int .i64 q1.1)) (w3.setCell ⟨p,6,none⟩ (.bool (decide (q1.1=11))))):=qh (by
   rw[HRB.out,if_pos h1]
   exact⟨rfl,Sx S w2 w3,V,cv,O,co,HR4.out,HN4.out,HM4.out,fun _ h=>.inl h⟩)
  clear HR4 HM4 HN4 HRB HS HE HY HYS h1 hq1c HF HQ1 hcnt hfs hol
  go_wp2_with fail
  go_ret
  exact HFIN.out
 ·have hr:=HRB.out
  rw[if_neg (by rw[h1];simp)] at hr
  have HR5:Hid (SR B (Sx S w2 w3) (w3.setCell ⟨p,6,none⟩ (.bool (decide (q1.1=11)))) p g s q1.2 V cv O co):=qh (HR4.out.same (by rw[h1];exact up_same s hd))
  rw[h1] at HR5 HM4
  rw[show decide ((0:Int)=11)=false from rfl] at HR5 HM4
  rw[h1,show decide ((0:Int)=11)=false from rfl]
  have hs5:w.heap.size<=(w3.setCell ⟨p,6,none⟩ (.bool false)).heap.size:=HM4.out.size
  generalize w3.setCell ⟨p,6,none⟩ (.bool false)=w5 at *
  generalize hS5:Sx S w2 w3=S5 at *
  have c2:w5.cell? ⟨p,2,none⟩=some (.int .u64 (s.last:Int)):=HR5.out.blk.cell 2 rfl
  have f2:w5.frozen? ⟨p,2,none⟩=false:=HR5.out.blk.free 2
  have hw:=IntWalk.u64_in ((s.last:Int)+1) (by omega)
  have HR6:Hid (SR B S5 (w5.setCell ⟨p,2,none⟩ (.int .u64 ((s.last:Int)+1))) p g { s with last:=s.last+1 } q1.2 V cv O co):=qh (HR5.out.set 2 _ rfl rfl rfl rfl)
  have HM6:Hid (Mods (fun b=>S b\/b=p) w (w5.setCell ⟨p,2,none⟩ (.int .u64 ((s.last:Int)+1)))):=qh (HM4.out.setCell ⟨p,2,none⟩ (.inl (.inr rfl)) _)
  have d0:(w5.setCell ⟨p,2,none⟩ (.int .u64 ((s.last:Int)+1))).cell? ⟨p,0,none⟩=some (.pointer (some ⟨g,0,none⟩)):=HR6.out.blk.cell 0 rfl
  obtain⟨q2,hq2⟩:∃q2,q2=syncD q1.2:=⟨_,rfl⟩
  have hsy:=diskSyncC HR6.out.di (by omega)
  rw[<-hq2] at hsy hr
  have SY:=qh hsy
  have HRC:=qh hr
  have HQ2:=qh hq2
  clear hr HRB HR4 HM4 HR5 hsy hq2 hs4
  go_wp2_with (go_at_call 90;refine SY.out.mono ?_)
  rintro e w6 ⟨rfl,hd6,m6⟩
  have hB6:B<=(w5.setCell ⟨p,2,none⟩ (.int .u64 ((s.last:Int)+1))).heap.size:=Nat.le_trans hB HM6.out.size
  have hR7:=HR6.out.disk hB6 hd6 m6
  have hdd:=slotDid hR7.blk s.down rfl q2.1
  rw[hd] at hdd
  simp only[Bool.false_or] at hdd
  have DD:=qh hdd
  have HR8:Hid (SR B (Sx S5 (w5.setCell ⟨p,2,none⟩ (.int .u64 ((s.last:Int)+1))) w6) (w6.setCell ⟨p,6,none⟩ (.bool (decide (q2.1=11)))) p g { s with last:=s.last+1,down:=decide (q2.1=11) } q2.2 V cv O co):=qh (hR7.set 6 _ rfl rfl rfl rfl)
  have HM8:Hid (Mods (fun b=>S b\/b=p) w (w6.setCell ⟨p,6,none⟩ (.bool (decide (q2.1=11))))):=qh ((HM6.out.trans m6 (fun i hi=>by
   rcases HN4.out i hi with h | h
   ·exact .inl (.inl h)
   ·exact .inr h)).setCell ⟨p,6,none⟩ (.inl (.inr rfl)) _)
  have HN8:Hid (∀b,Sx S5 (w5.setCell ⟨p,2,none⟩ (.int .u64 ((s.last:Int)+1))) w6 b->S b\/w.heap.size<=b):=qh (fun b hb=>by
   rcases hb with hb | hb
   ·exact HN4.out b hb
   ·exact .inr (Nat.le_trans HM6.out.size hb.1))
  clear hd6 m6 hR7 hdd SY d0 c2 f2 HR6 HM6
  go_wp2_with (go_at_call 88;refine DD.out.mono ?_)
  rintro e w7 ⟨rfl,hw7⟩
  subst hw7
  clear DD
  generalize hS8:Sx S5 (w5.setCell ⟨p,2,none⟩ (.int .u64 ((s.last:Int)+1))) w6=S8 at *
  by_cases h2:q2.1=0
  rotate_left
  ·have h2b:(q2.1 == 0)=false:=by simpa using h2
   have HFIN:Hid (SDone B S w V p g (.int .i64 r.1) r.2.1 r.2.2 (.returned (.int .i64 q2.1)) (w6.setCell ⟨p,6,none⟩ (.bool (decide (q2.1=11))))):=qh (by
    rw[HRC.out,if_pos h2]
    exact⟨rfl,S8,V,cv,O,co,HR8.out,HN8.out,HM8.out,fun _ h=>.inl h⟩)
   clear HR8 HM8 HN8 HRC HS HE HY HYS h2 hq1c HF HQ1 HQ2 hcnt hfs hol hB6 HN4 hs5 hw
   go_wp2_with fail
   go_ret
   exact HFIN.out
  ·have hr:=HRC.out
   rw[if_neg (by rw[h2];simp)] at hr
   rw[h2] at HR8 HM8
   rw[show decide ((0:Int)=11)=false from rfl] at HR8 HM8
   rw[h2,show decide ((0:Int)=11)=false from rfl]
   have hs8:w.heap.size<=(w6.setCell ⟨p,6,none⟩ (.bool false)).heap.size:=HM8.out.size
   generalize w6.setCell ⟨p,6,none⟩ (.bool false)=w8 at *
   have hy8:=HY.out.mods HM8.out (fun h0 b hb hc=>by
    rcases hc with hc | hc
    ·exact(HYS.out h0 b hb).1 hc
    ·exact(HYS.out h0 b hb).2 hc)
   have CL:=qh (cloneB' Y cy x w8 hy8 (by omega))
   obtain⟨z,hz⟩:∃z,z=cleanD s.old q2.2:=⟨_,rfl⟩
   rw[<-hz] at hr
   have HRD:=qh hr
   have HZ:=qh hz
   clear hr HRC hy8 hz hB6 hs5
   go_wp2_with (go_at_call 82;refine CL.out.mono ?_)
   rintro e w9 ⟨V',cv',rfl,ho9,hb9⟩
   have hR9:=HR8.out.below hb9
   have hB9:B<=w9.heap.size:=Nat.le_trans hB (Nat.le_trans hs8 hb9.size)
   have hv9:OB w9 B V' cv' x:=ho9.base_le (Nat.le_trans hB hs8)
   have hvs:∀b,V'.map (·.block)=some b->¬S8 b:=fun b hb hs=>by
    have h1:=(ho9.blk_in b hb).1
    have h2:=HR8.out.di.bnd b hs
    omega
   have HV9:Hid (∀b,V'.map (·.block)=some b->w8.heap.size<=b):=qh (fun b hb=>(ho9.blk_in b hb).1)
   have hRa:=(hR9.setVal hv9 hvs)
   have f3:w9.frozen? ⟨p,3,none⟩=false:=hR9.blk.free 3
   have c3:w9.cell? ⟨p,3,none⟩=some (.slice V s.value.length cv):=hR9.blk.cell 3 rfl
   have f4:(w9.setCell ⟨p,3,none⟩ (.slice V' x.length cv')).frozen? ⟨p,4,none⟩=false:=hRa.blk.free 4
   have c4:(w9.setCell ⟨p,3,none⟩ (.slice V' x.length cv')).cell? ⟨p,4,none⟩=some (.bool s.has):=hRa.blk.cell 4 rfl
   have HRa:Hid (SR B S8 ((w9.setCell ⟨p,3,none⟩ (.slice V' x.length cv')).setCell ⟨p,4,none⟩ (.bool true)) p g ⟨s.base,s.last+1,x,true,s.old,false⟩ q2.2 V' cv' O co):=qh (hRa.set 4 _ rfl rfl rfl rfl)
   have HMa:Hid (Mods (fun b=>S b\/b=p) w ((w9.setCell ⟨p,3,none⟩ (.slice V' x.length cv')).setCell ⟨p,4,none⟩ (.bool true))):=qh (((HM8.out.below hb9).setCell ⟨p,3,none⟩ (.inl (.inr rfl)) _).setCell ⟨p,4,none⟩ (.inl (.inr rfl)) _)
   have hq2c:q2.2.cnt<=5000:=by
    rw[HQ2.out]
    have h3:=sync_cnt q1.2
    have h4:q1.2.files.length<=D.files.length+1:=by
     rw[HQ1.out];exact change_files _ _ _
    omega
   have hcc:=slotClean HRa.out (by simpa using hB9) (by simp only;omega)
   rw[<-HZ.out] at hcc
   obtain⟨s9,hs9⟩:∃s9:Sl,s9=⟨s.base,s.last+1,x,true,(if (cleanL s.old q2.2).1=0 then [] else s.old),(false || decide (z.1=11))⟩:=⟨_,rfl⟩
   simp only at hcc
   rw[<-hs9] at hcc
   have HS9:=qh hs9
   have CC:=qh hcc
   clear hs9
   have sa:=(HMa.out).size
   clear hR9 hRa hcc ho9 hb9 hvs hv9 CL HR8 HM8
   go_wp2_with (go_at_call 64;refine CC.out.mono ?_)
   rintro e w10 ⟨rfl,Sc,Vc,cvc,Oc,coc,hRc,hNc,hMc,hVc⟩
   have HVd:Hid (∀b,Vc.map (·.block)=some b->V.map (·.block)=some b\/w.heap.size<=b):=qh (fun b hb=>by
    rcases hVc b hb with h | h
    ·exact .inr (Nat.le_trans hs8 (HV9.out b h))
    ·exact .inr (Nat.le_trans sa h))
   clear hVc
   have f5:(w10.alloc (.cells #[.string ⟨f.toArray⟩] 9)).frozen? ⟨p,5,none⟩=false:=(hRc.below ((Below.refl _ _).alloc (Nat.le_refl _) _)).blk.free 5
   have c5:(w10.alloc (.cells #[.string ⟨f.toArray⟩] 9)).cell? ⟨p,5,none⟩=some (.slice Oc s9.old.length coc):=(hRc.below ((Below.refl _ _).alloc (Nat.le_refl _) _)).blk.cell 5 rfl
   have hBc:B<=w10.heap.size:=Nat.le_trans hB (Nat.le_trans sa hMc.size)
   have HRd:Hid (SR B Sc ((w10.alloc (.cells #[.string ⟨f.toArray⟩] 9)).setCell ⟨p,5,none⟩ (.slice (some ⟨w10.heap.size,0,none⟩) 1 1)) p g r.2.1 z.2 Vc cvc (some ⟨w10.heap.size,0,none⟩) 1):=qh (by
    have h1:=(hRc.below ((Below.refl _ _).alloc (Nat.le_refl _) (.cells #[.string ⟨f.toArray⟩] 9))).setOld (O':=some ⟨w10.heap.size,0,none⟩) (co':=1) (l:=[f]) (OV.lit1 w10 hBc _ _) (fun b hb hs=>by
     have h2:=hRc.di.bnd b hs
     injection hb with hb
     simp only at hb
     omega) (fun g hg=>by rw[List.mem_singleton.1 hg];exact HFL.out)
    refine h1.same ?_
    rw[HRD.out,HS9.out,HF.out]
    simp)
   have HMd:Hid (Mods (fun b=>S b\/b=p) w ((w10.alloc (.cells #[.string ⟨f.toArray⟩] 9)).setCell ⟨p,5,none⟩ (.slice (some ⟨w10.heap.size,0,none⟩) 1 1))):=qh (((HMa.out.trans hMc (fun i hi=>by
    rcases hi with hi | hi
    ·rcases HN8.out i hi with h | h
     ·exact .inl (.inl h)
     ·exact .inr h
    ·exact .inl (.inr hi))).alloc _).setCell ⟨p,5,none⟩ (.inl (.inr rfl)) _)
   have HNd:Hid (∀b,Sc b->S b\/w.heap.size<=b):=qh (fun b hb=>by
    rcases hNc b hb with h | h
    ·exact HN8.out b h
    ·exact .inr (Nat.le_trans sa h))
   have HER:Hid (r.1=z.1/\r.2.2=z.2):=qh (by rw[HRD.out];exact⟨rfl,rfl⟩)
   clear hRc hNc hMc CC HRa HMa HN8 HRD HZ HS9 HQ2 HQ1 HF HFL HS HE HY HYS h1 h2 hq1c hq2c hcnt hfs hol HN4 hs8 hB9 hw
   go_wp2_with fail
   go_ret
   exact⟨by rw[HER.out.1];rfl,Sc,Vc,cvc,_,1,by rw[HER.out.2];exact HRd.out,HNd.out,HMd.out,HVd.out⟩
end
end Go.Proofs.YtobdmlejabjmiaaGreatDoor
