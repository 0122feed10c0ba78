/- Made small by a program. -/
import Derived.Test.YtobdmlejabjmiaaGreatDoorZd07
import Derived.Deep.Fields
import Derived.Laws.OwnMore
set_option maxRecDepth 20000
set_option maxHeartbeats 8000000
namespace Go.Proofs.YtobdmlejabjmiaaGreatDoor
open Go.RowKit
theorem RB.partR{w:World}{bb off:Nat}{b:List UInt8}(h:RB w (some ⟨bb,off,none⟩) b)(f n:Nat):RB w (some ⟨bb,off+f,none⟩) ((b.drop f).take n):=by
 refine⟨fun hn=>?_⟩
 have hf:f<b.length:=by
  simp at hn;omega
 obtain⟨b',off',e,hb,hc⟩:=h.at_ (by omega)
 injection e with e
 injection e with e1 e2
 subst e1 e2
 refine⟨bb,off+f,rfl,hb,fun j x hx=>?_⟩
 have:=hc (f+j) x (by
  rw[List.getElem?_take] at hx
  split at hx
  ·rw[List.getElem?_drop] at hx;exact hx
  ·cases hx)
 rw[Nat.add_assoc]
 exact this
theorem cloneR'(A:Option Addr)(c n:Nat)(l:List UInt8)(hn:l.length=n)(w:World)(h:RB w A l)(hl:n<=210000000000000) :
  Calls Tryz.prog 82 #[.slice A n c] w (NewB w l):=by
 subst hn;exact cloneB A c l w h (by omega)
theorem bytesAt_err{b:List UInt8}{i:Int}(h:(numAt b i).2.2≠0):bytesAt b i=([],0,(numAt b i).2.2):=by rw[bytesAt,if_neg h]
theorem bytesAt_short{b:List UInt8}{i:Int}(h:(numAt b i).2.2=0)(hs:(b.length:Int)<(numAt b i).2.1+(numAt b i).1):bytesAt b i=([],0,5):=by rw[bytesAt,if_pos h,if_neg (by omega)]
theorem bytesAt_yes{b:List UInt8}{i:Int}(h:(numAt b i).2.2=0)(hs:¬(b.length:Int)<(numAt b i).2.1+(numAt b i).1):bytesAt b i=((b.drop (numAt b i).2.1.toNat).take (numAt b i).1.toNat,(numAt b i).2.1+(numAt b i).1,0):=by rw[bytesAt,if_pos h,if_pos (by omega)]
theorem or24(x y:Nat)(hx:x<256)(hy:y<256):bits BinOp.or IntKind.u32 ((x:Int)*16777216) ((y:Int)*65536)=(x:Int)*16777216+(y:Int)*65536:=by
 have h:=u32_or_nat (x*16777216) (y*65536) (by omega) (by omega)
 have e:=Nat.shiftLeft_add_eq_or_of_lt (a:=x) (b:=y*65536) (i:=24) (by omega)
 rw[Nat.shiftLeft_eq,show x*2 ^ 24=x*16777216 from rfl] at e
 rw[<-e] at h
 simpa using h
theorem or_low(m k b i:Nat)(hm:m=k*2 ^ i)(hb:b<2 ^ i):m ||| b=m+b:=by
 subst hm
 have:=Nat.shiftLeft_add_eq_or_of_lt (a:=k) (b:=b) (i:=i) hb
 rw[Nat.shiftLeft_eq] at this
 exact this.symm
theorem or16(x y z:Nat)(hx:x<256)(hy:y<256)(hz:z<256):bits BinOp.or IntKind.u32 ((x:Int)*16777216+(y:Int)*65536) ((z:Int)*256)=(x:Int)*16777216+(y:Int)*65536+(z:Int)*256:=by
 have h:=u32_or_nat (x*16777216+y*65536) (z*256) (by omega) (by omega)
 rw[or_low (x*16777216+y*65536) (x*256+y) (z*256) 16 (by rw[show 2 ^ 16=65536 from rfl];omega) (by rw[show 2 ^ 16=65536 from rfl];omega)] at h
 simpa using h
theorem or8(x y z v:Nat)(hx:x<256)(hy:y<256)(hz:z<256)(hv:v<256):bits BinOp.or IntKind.u32 ((x:Int)*16777216+(y:Int)*65536+(z:Int)*256) (v:Int)=(x:Int)*16777216+(y:Int)*65536+(z:Int)*256+(v:Int):=by
 have h:=u32_or_nat (x*16777216+y*65536+z*256) v (by omega) (by omega)
 rw[or_low (x*16777216+y*65536+z*256) (x*65536+y*256+z) v 8 (by rw[show 2 ^ 8=256 from rfl];omega) (by rw[show 2 ^ 8=256 from rfl];omega)] at h
 simpa using h
theorem unB_four(a b c d:UInt8):((unB [a,b,c,d]:Nat):Int)=(a.toNat:Int)*16777216+(b.toNat:Int)*65536+(c.toNat:Int)*256+(d.toNat:Int):=by
 have e:unB [a,b,c,d]=((a.toNat*256+b.toNat)*256+c.toNat)*256+d.toNat:=by simp[unB]
 rw[e];omega
theorem codecWord(A:Option Addr)(n c:Nat)(l:List UInt8)(w:World)(h:RB w A l)(hl:l.length=4)(hn:4<=n)(_hm:n<=210000000000000) :
  Calls Tryz.prog 125 #[.slice A n c] w fun e w'=>e=.returned (.int .u32 (unB l:Nat))/\∃k,w'=w.drewN k:=by
 match l,hl with
 | [x0,x1,x2,x3],_ =>
  obtain⟨bb,off,rfl,hbb,hc⟩:=h.at_ (by simp)
  have c0:=hc 0 x0 rfl
  have c1:=hc 1 x1 rfl
  have c2:=hc 2 x2 rfl
  have c3:=hc 3 x3 rfl
  rw[Nat.add_zero] at c0
  have HU:=qh (unB_four x0 x1 x2 x3)
  have l0:=x0.toNat_lt
  have l1:=x1.toNat_lt
  have l2:=x2.toNat_lt
  have l3:=x3.toNat_lt
  clear hc h
  have e24:=or24 x0.toNat x1.toNat (by omega) (by omega)
  have e16:=or16 x0.toNat x1.toNat x2.toNat (by omega) (by omega) (by omega)
  have e8:=or8 x0.toNat x1.toNat x2.toNat x3.toNat (by omega) (by omega) (by omega) (by omega)
  generalize x0.toNat=a at *
  generalize x1.toNat=b at *
  generalize x2.toNat=d at *
  generalize x3.toNat=f at *
  have g0:(0:Int)<(n:Int):=by omega
  have g1:(1:Int)<(n:Int):=by omega
  have g2:(2:Int)<(n:Int):=by omega
  have g3:(3:Int)<(n:Int):=by omega
  go_enter Tryz.func125,Tryz.ntmps125
  go_wp2_with fail
  go_quiet (fail)
  go_wp2_with fail
  go_ret
  exact⟨ret_intB HU.out.symm,_,rfl⟩
end Go.Proofs.YtobdmlejabjmiaaGreatDoor
namespace Go.Proofs.YtobdmlejabjmiaaGreatDoor
open Go.ChangeShapes Go.WideShapes Go.ChangeAt Go.RowKit Go.Deep
structure RS(w:World)(X:Option Addr)(k:Nat)(L:List (List Value)):Prop where
 at_:0<L.length->∃b off,X=some ⟨b,off,none⟩/\b<w.heap.size/\∀i cs,L[i]?=some cs->∀j v,cs[j]?=some v->w.cell? ⟨b,off+i*k+j,none⟩=some v
theorem RS.below{w w':World}{X:Option Addr}{k:Nat}{L:List (List Value)}(h:RS w X k L)(hb:Below w.heap.size w w'):RS w' X k L :=
 ⟨fun hn=>by
  obtain⟨b,off,e,hlt,hc⟩:=h.at_ hn
  exact⟨b,off,e,Nat.lt_of_lt_of_le hlt hb.size,fun i cs hi j v hj=>(hb.cell (p:=⟨b,_,none⟩) hlt).trans (hc i cs hi j v hj)⟩⟩
theorem RS.row{w:World}{X:Option Addr}{k:Nat}{L:List (List Value)}(h:RS w X k L){i:Nat}(hi:i<L.length):∃b off,X=some ⟨b,off,none⟩/\b<w.heap.size/\∀j v,L[i][j]?=some v->w.cell? ⟨b,off+i*k+j,none⟩=some v:=by
 obtain⟨b,off,e,hlt,hc⟩:=h.at_ (by omega)
 exact⟨b,off,e,hlt,fun j v hj=>hc i _ (List.getElem?_eq_getElem hi) j v hj⟩
theorem RS.get{w:World}{b off k:Nat}{L:List (List Value)}(h:RS w (some ⟨b,off,none⟩) k L){i:Nat}{cs:List Value}(hi:L[i]?=some cs)(j:Nat){v:Value}(hj:cs[j]?=some v):w.cell? ⟨b,off+i*k+j,none⟩=some v:=by
 obtain⟨b',off',e,_,hc⟩:=h.at_ (by have:=(List.getElem?_eq_some_iff.1 hi).1;omega)
 injection e with e
 injection e with e1 e2
 subst e1 e2
 exact hc i cs hi j v hj
inductive FK where
 | int (k:IntKind) | bool | str | bytes
inductive Fv where
 | int (k:IntKind) (n:Int) | bool (b:Bool) | str (l:List UInt8) | bytes (A:Option Addr) (c:Nat) (l:List UInt8)
instance:Inhabited Fv:=⟨.bool false⟩
def Fv.val:Fv->Value
 | .int k n=>.int k n
 | .bool b=>.bool b
 | .str l=>.string ⟨l.toArray⟩
 | .bytes A c l=>.slice A l.length c
def Fv.ok(w:World):FK->Fv->Prop
 | .int k,.int k' n=>k'=k/\(Lit.int k n).wf=true
 | .bool,.bool _=>True
 | .str,.str l=>l.length<=140737488351232
 | .bytes,.bytes A c l=>RB w A l/\l.length<=c/\c<=9223372036854775807/\l.length<=140737488351232
 | _,_=>False
def rowOk(w:World):List FK->List Fv->Prop
 | [],[]=>True
 | k::ks,v::vs=>v.ok w k/\rowOk w ks vs
 | _,_=>False
def FK.is(P:Program)(t:TypeId):FK->Bool
 | .int k=>match P.underlying t with | some (.int k')=>decide (k'=k) | _=>false
 | .bool=>match P.underlying t with | some .bool=>true | _=>false
 | .str=>match P.underlying t with | some .string=>true | _=>false
 | .bytes=>match P.underlying t with
  | some (.slice e)=>(match P.underlying e with | some (.int .u8)=>true | _=>false) && P.cellsOf e == 1 && P.bytesOf e == 1
  | _=>false
section
variable {H:Type} {enc:TypeId × Value->H} {W:World}
theorem weights_slice_elem{P:Program}{t e:TypeId}{D:Nat->DataW H}{n:Nat}{spare:List (DataW H)}(hu:P.underlying t=some (.slice e))(h:(DataW.weights P t (.slice ((List.range n).map D) spare)).all (·<=reachBytes)=true){i:Nat}(hi:i<n) :
  ((D i).weights P e).all (·<=reachBytes)=true:=by
 rw[DataW.weights] at h
 simp only[hu,List.all_cons,List.all_append,Bool.and_eq_true] at h
 obtain⟨_,h1,_⟩:=h
 have key:∀l:List (DataW H),(DataW.weightsAll P e l).all (·<=reachBytes)=true->∀d∈l,(d.weights P e).all (·<=reachBytes)=true:=by
  intro l
  induction l with
  | nil=>intro _ d hd;cases hd
  | cons x r ih =>
   intro h d hd
   rw[DataW.weightsAll,List.all_append,Bool.and_eq_true] at h
   rcases List.mem_cons.1 hd with rfl | hd
   ·exact h.1
   ·exact ih h.2 d hd
 exact key _ h1 _ (List.mem_map.2 ⟨i,by simpa using hi,rfl⟩)
theorem weights_each_get{P:Program}:∀{ts:List TypeId} {ds:List (DataW H)},(DataW.weightsEach P ts ds).all (·<=reachBytes)=true->∀{j:Nat} {t:TypeId} {d:DataW H},ts[j]?=some t->ds[j]?=some d->(d.weights P t).all (·<=reachBytes)=true:=by
 intro ts ds h j t d ht hd
 rw[List.all_eq_true] at h ⊢
 exact fun n hn=>h n (DataW.weights_mem_each ht hd n hn)
theorem weights_struct_field{P:Program}{t:TypeId}{fs:Array Field}{ys:List (DataW H)}(hu:P.underlying t=some (.struct fs))(h:(DataW.weights P t (.agg ys)).all (·<=reachBytes)=true){j:Nat}{f:Field}{d:DataW H}(hf:fs[j]?=some f)(hd:ys[j]?=some d) :
  (d.weights P f.type).all (·<=reachBytes)=true:=by
 rw[DataW.weights] at h
 simp only[hu] at h
 exact weights_each_get h (by simpa using ⟨f,by simpa using hf,rfl⟩) hd
theorem field_of_trod{t:TypeId}{k:FK}{v:Value}{y:DataW H × List MemPlace}{fuel:Nat}(hk:k.is Tryz.prog t=true)(h:DataW.trod enc Tryz.prog W 0 (fun _=>true) true fuel t [v]=some y)(hw:(y.1.weights Tryz.prog t).all (·<=reachBytes)=true) :
  ∃f:Fv,v=f.val/\f.ok W k:=by
 cases k with
 | int k =>
  simp only[FK.is] at hk
  split at hk
  ·rename_i k' hu
   have:=of_decide_eq_true hk
   subst this
   obtain⟨n,hc,_,hwf⟩:=DataW.trod_int hu h
   simp only[List.cons.injEq,and_true] at hc
   exact⟨.int _ n,hc,rfl,hwf⟩
  ·cases hk
 | bool =>
  simp only[FK.is] at hk
  split at hk
  ·rename_i hu
   obtain⟨b,hc,_⟩:=DataW.trod_bool hu h
   simp only[List.cons.injEq,and_true] at hc
   exact⟨.bool b,hc,trivial⟩
  ·cases hk
 | str =>
  simp only[FK.is] at hk
  split at hk
  ·rename_i hu
   obtain⟨s,hc,hy,_⟩:=DataW.trod_string hu h
   simp only[List.cons.injEq,and_true] at hc
   refine⟨.str s.data.toList,by simpa [Fv.val] using hc,?_⟩
   rw[hy] at hw
   simp only[DataW.weights,List.all_cons,List.all_nil,Bool.and_true,decide_eq_true_eq] at hw
   show s.data.toList.length<=_
   unfold reachBytes at hw
   omega
  ·cases hk
 | bytes =>
  simp only[FK.is] at hk
  split at hk
  ·rename_i e hu
   simp only[Bool.and_eq_true,beq_iff_eq] at hk
   obtain⟨⟨he,hc1⟩,hb1⟩:=hk
   split at he
   ·rename_i hue
    obtain⟨A,c,zs,hcs,hcm⟩:=came_trod hu hue hc1 h
    simp only[List.cons.injEq,and_true] at hcs
    obtain⟨l,hl,hr⟩:=hcm.bytes
    refine⟨.bytes A c l,by rw[hcs,Fv.val,hl],hr,by rw[hl];exact hcm.cap,hcm.most,?_⟩
    rcases hcm.datum with⟨_,hz⟩ | ⟨elems,spare,hy,hel⟩
    ·rw[hl,hz];simp
    ·rw[hy] at hw
     simp only[DataW.weights,hu,List.all_cons,Bool.and_eq_true,decide_eq_true_eq,hb1] at hw
     have:=hw.1
     unfold reachBytes at this
     omega
   ·cases he
  ·cases hk
def kindsOk(P:Program):List FK->List Field->Bool
 | [],[]=>true
 | k::ks,f::fs=>k.is P f.type && kindsOk P ks fs
 | _,_=>false
theorem rows_of_fields{ks:List FK}{fs:List Field}:∀(_hk:kindsOk Tryz.prog ks fs=true) (cs:List Value),cs.length=fs.length ->
  (∀(j:Nat) (f:Field),fs[j]?=some f->∀v,cs[j]?=some v->∃(y:DataW H × List MemPlace) (n:Nat),DataW.trod enc Tryz.prog W 0 (fun _=>true) true n f.type [v]=some y/\(y.1.weights Tryz.prog f.type).all (·<=reachBytes)=true)->∃r:List Fv,cs=r.map Fv.val/\rowOk W ks r:=by
 induction ks generalizing fs with
 | nil =>
  intro hk cs hl h
  cases fs with
  | nil =>
   have:cs=[]:=List.eq_nil_of_length_eq_zero hl
   exact⟨[],by simpa using this,trivial⟩
  | cons f fs=>simp[kindsOk] at hk
 | cons k ks ih =>
  intro hk cs hl h
  cases fs with
  | nil=>simp[kindsOk] at hk
  | cons f fs =>
   cases cs with
   | nil=>simp at hl
   | cons c cs =>
    simp only[kindsOk,Bool.and_eq_true] at hk
    obtain⟨y,n,h1,h2⟩:=h 0 f rfl c rfl
    obtain⟨v,hv,hok⟩:=field_of_trod hk.1 h1 h2
    obtain⟨r,hr,hro⟩:=ih hk.2 cs (by simpa using hl) (fun j f hj v hv=>h (j+1) f (by simpa using hj) v (by simpa using hv))
    exact⟨v::r,by rw[hv,hr];rfl,hok,hro⟩
end
end Go.Proofs.YtobdmlejabjmiaaGreatDoor
namespace Go.Proofs.YtobdmlejabjmiaaGreatDoor
open Go.RowKit
def OR(w:World)(base:Nat)(e:TypeId)(k:Nat)(A:Option Addr)(c:Nat)(rows:List (List Value)):Prop :=
 w.ownsRow base e k (.slice A rows.length c) rows.length rows.flatten/\∀r∈rows,r.length=k
theorem flatten_get{α:Type}{k:Nat}:∀{rows:List (List α)},(∀r∈rows,r.length=k)->∀{i:Nat} {r:List α},rows[i]?=some r->∀{j:Nat} {v:α},r[j]?=some v->rows.flatten[i*k+j]?=some v
 | [],_,i,r,hi,_,_,_=>by simp at hi
 | r0::rows,h,0,r,hi,j,v,hj=>by
  simp at hi
  subst hi
  rw[List.flatten_cons,Nat.zero_mul,Nat.zero_add,List.getElem?_append_left (List.getElem?_eq_some_iff.1 hj).1]
  exact hj
 | r0::rows,h,i+1,r,hi,j,v,hj=>by
  simp at hi
  have h0:=h r0 List.mem_cons_self
  rw[List.flatten_cons,List.getElem?_append_right (by rw[h0,Nat.succ_mul];omega),h0,show(i+1)*k+j - k=i*k+j by rw[Nat.succ_mul];omega]
  exact flatten_get (fun r hr=>h r (List.mem_cons_of_mem _ hr)) hi hj
theorem flatten_len{α:Type}{k:Nat}:∀{rows:List (List α)},(∀r∈rows,r.length=k)->rows.flatten.length=rows.length*k
 | [],_=>by simp
 | r0::rows,h=>by
  rw[List.flatten_cons,List.length_append,h r0 List.mem_cons_self,flatten_len (fun r hr=>h r (List.mem_cons_of_mem _ hr)),List.length_cons,Nat.succ_mul];omega
section
variable {w w':World} {base c k:Nat} {e:TypeId} {A:Option Addr} {rows:List (List Value)}
theorem OR.nil(w:World)(base:Nat)(e:TypeId)(k:Nat):OR w base e k none 0 []:=⟨by simpa using World.ownsRow_nil w base e k,by simp⟩
theorem OR.form(h:OR w base e k A c rows):(A=none/\c=0/\rows=[])\/∃g,A=some ⟨g,0,none⟩/\base<=g/\g<w.heap.size/\rows.length<=c/\c<=maxLen:=by
 rcases h.1.2 with⟨hv,hn⟩ | ⟨g,cap,cur,hv,hb,hg,hc,hm,_⟩
 ·injection hv with h1 h2 h3
  exact .inl ⟨h1,h3,List.eq_nil_of_length_eq_zero hn⟩
 ·injection hv with h1 h2 h3
  subst h3
  exact .inr ⟨g,h1,hb,(Array.getElem?_eq_some_iff.1 hg).1,hc,hm⟩
theorem OR.cap(h:OR w base e k A c rows):rows.length<=c/\c<=9223372036854775807:=by
 rcases h.form with⟨_,rfl,rfl⟩ | ⟨g,_,_,_,h1,h2⟩
 ·simp
 ·unfold maxLen at h2;omega
theorem OR.blk_lt(h:OR w base e k A c rows):∀b,A.map (·.block)=some b->base<=b/\b<w.heap.size:=by
 intro b hb
 rcases h.form with⟨rfl,_⟩ | ⟨g,rfl,h1,h2,_⟩
 ·simp at hb
 ·have:g=b:=by simpa using hb
  subst this
  exact⟨h1,h2⟩
theorem OR.blk(h:OR w base e k A c rows):∀b,A.map (·.block)=some b->∃cs,w.heap[b]?=some (.cells cs e (0,0)):=by
 intro b hb
 rcases h.1.2 with⟨hv,_⟩ | ⟨g,cap,cur,hv,_,hg,_⟩
 ·injection hv with h1 h2 h3
  rw[h1] at hb
  simp at hb
 ·injection hv with h1 h2 h3
  rw[h1] at hb
  have:g=b:=by simpa using hb
  subst this
  exact⟨_,hg⟩
theorem OR.of_own{v:Value}{n:Nat}(h:w.ownsRow base e k v n rows.flatten)(hk:∀r∈rows,r.length=k)(k0:0<k):∃A c,v=.slice A rows.length c/\OR w base e k A c rows:=by
 have hl:n=rows.length:=by
  have:=h.1
  rw[flatten_len hk] at this
  exact(Nat.eq_of_mul_eq_mul_right k0 this).symm
 subst hl
 rcases h.2 with⟨rfl,hn⟩ | ⟨g,cap,cur,rfl,rest⟩
 ·have:rows=[]:=List.eq_nil_of_length_eq_zero hn
  subst this
  exact⟨none,0,rfl,OR.nil _ _ _ _⟩
 ·exact⟨_,_,rfl,h,hk⟩
theorem OR.rs(h:OR w base e k A c rows):RS w A k rows:=by
 refine⟨fun hn=>?_⟩
 rcases h.form with⟨_,_,rfl⟩ | ⟨g,rfl,_,hg,_⟩
 ·simp at hn
 ·refine⟨g,0,rfl,hg,fun i cs hi j v hj=>?_⟩
  have hf:=flatten_get h.2 hi hj
  have hl:=(List.getElem?_eq_some_iff.1 hf).1
  rw[flatten_len h.2] at hl
  rw[Nat.zero_add,World.ownsRow.cellAt h.1 _ hl]
  exact hf
theorem OR.of_block(h:OR w base e k A c rows)(hb:∀b,A.map (·.block)=some b->w'.heap[b]?=w.heap[b]?):OR w' base e k A c rows:=by
 refine⟨⟨h.1.1,?_⟩,h.2⟩
 rcases h.1.2 with h2 | ⟨g,cap,cur,hv,hg,hh,r⟩
 ·exact .inl h2
 ·injection hv with hv1 hv2 hv3
  subst hv1 hv3
  exact .inr ⟨g,_,cur,rfl,hg,by rw[hb g rfl];exact hh,r⟩
theorem OR.mods{S:Nat->Prop}(h:OR w base e k A c rows)(m:Mods S w w')(hn:∀b,A.map (·.block)=some b->¬S b):OR w' base e k A c rows :=
 h.of_block fun b hb=>m.block b (h.blk_lt b hb).2 (hn b hb)
theorem OR.below(h:OR w base e k A c rows)(hb:Below w.heap.size w w'):OR w' base e k A c rows:=h.of_block fun b hb'=>hb.block b (h.blk_lt b hb').2
theorem OR.mono{base':Nat}(h:OR w base e k A c rows)(hb:base'<=base):OR w base' e k A c rows:=by
 refine⟨⟨h.1.1,?_⟩,h.2⟩
 rcases h.1.2 with h1 | ⟨g,cap,cur,hv,hbg,rest⟩
 ·exact .inl h1
 ·exact .inr ⟨g,cap,cur,hv,by omega,rest⟩
theorem OR.made0(w:World){base:Nat}(e:TypeId)(k:Nat)(hb:base<=w.heap.size):OR (w.alloc (.cells #[] e)) base e k (some ⟨w.heap.size,0,none⟩) 0 [] :=
 ⟨by simpa using World.ownsRow_made (e:=e) (size:=k) w #[] 0 hb (Nat.zero_le _) (by simp),by simp⟩
end
theorem op_appendS{P:Program}(w:World){o:Oper}{a:Act}{K:Act->World->Prop}{Q:Exit->Act->World->Prop}(s x:Operand)(t e:TypeId){i:TypeInfo}{z:Value}{k bytes:Nat}
  (ho:o.op=.call { callee:=.builtin .append,args:=#[s,x],argTypes:=#[t,t] })
  (ht:P.underlying t=some (.slice e)) (hi:P.info? e=some i) (hz0:i.zero=some z) (hz1:i.size=k) (hz2:i.bytes=bytes) (hzs:z.cells.size=k) (k0:0<k)
  (base:Nat) (A X:Option Addr) (c d:Nat) (rows news:List (List Value)) (hs:a.eval s=.slice A rows.length c) (hx:a.eval x=.slice X news.length d)
  (hown:OR w base e k A c rows) (hv:RS w X k news) (hk:∀r∈news,r.length=k) (h1:∀r∈news,∀v∈r,v.oneCell'=true) (hlen:(rows.length+news.length)*bytes<=140737488355328) (hl2:rows.length+news.length<=140737488355328) (hbase:base<=w.heap.size)
  (h:∀(ys:List (List Value)) (A':Option Addr) (c':Nat) (w':World),Hid (ys=rows++news)->ys.length<=rows.length+news.length->rows.length+news.length<=ys.length->OR w' base e k A' c' ys->w.grownBy w' (A.map (·.block))->(A'.map (·.block)=A.map (·.block)\/A'.map (·.block)=some w.heap.size) ->
   K (a.put o.dst (.slice A' ys.length c')) w'):o.wp P a w K Q:=by
 rcases Nat.eq_zero_or_pos news.length with h0 | h0
 ·have hm0:news=[]:=List.eq_nil_of_length_eq_zero h0
  subst hm0
  have hrun:(Builtin.append_ #[t,t] o.type #[.slice A rows.length c,.slice X 0 d]).run P w=.ok (.slice A rows.length c) w:=by
   rcases hown.form with⟨rfl,rfl,rfl⟩ | ⟨g,rfl,_,_,hc,_⟩
   ·rcases X with _ | X
    ·simp[Builtin.append_,run_underlying ht,sizeOf,typeInfo,hi,Builtin.lenOf,Builtin.firstCells]
    ·have hf:=run_firstCells_some (P:=P) w i.size 0 X 0 d [] (by simp) (by simp)
     simp[Builtin.append_,run_underlying ht,sizeOf,typeInfo,hi,Builtin.lenOf,hf]
   ·rcases X with _ | X
    ·simp[Builtin.append_,run_underlying ht,sizeOf,typeInfo,hi,Builtin.lenOf,Builtin.firstCells,hc,storeCells]
    ·have hf:=run_firstCells_some (P:=P) w i.size 0 X 0 d [] (by simp) (by simp)
     simp[Builtin.append_,run_underlying ht,sizeOf,typeInfo,hi,Builtin.lenOf,hf,hc,storeCells]
  unfold Oper.wp execOp
  simp only[List.length_nil] at hx
  simp only[ho,resolve,invoke,builtin,Sem.run_bind,Sem.run_pure,Result.andThen_ok,List.map_toArray,List.map_cons,List.map_nil,hs,hx,hrun]
  exact h rows A c w (qh (by simp)) (by simp) (by simp) hown (World.grownBy.refl w _) (.inl rfl)
 ·obtain⟨b,off,rfl,hb,hc⟩:=hv.at_ h0
  have hadd:∀j,(⟨b,off,none⟩:Addr).add j=⟨b,off+j,none⟩:=by intro j;unfold Addr.add;split<;>simp_all
  have hget:∀j u,news.flatten[j]?=some u->w.cell? ((⟨b,off,none⟩:Addr).add j)=some u:=by
   intro j u hu
   have hjl:=(List.getElem?_eq_some_iff.1 hu).1
   rw[flatten_len hk] at hjl
   have hq:j / k<news.length:=(Nat.div_lt_iff_lt_mul k0).2 hjl
   have hr:j % k<news[j / k].length:=by rw[hk _ (List.getElem_mem hq)];exact Nat.mod_lt _ k0
   have h2:=flatten_get hk (List.getElem?_eq_getElem hq) (List.getElem?_eq_getElem hr)
   have hj:j / k*k+j % k=j:=by rw[Nat.mul_comm];exact Nat.div_add_mod j k
   rw[hj,hu] at h2
   injection h2 with h2
   have h3:=hc _ _ (List.getElem?_eq_getElem hq) _ _ (List.getElem?_eq_getElem hr)
   rw[hadd,h2,<-h3]
   congr 2
   omega
  refine op_append w s x t ho base e i z k bytes ht hi hz0 hz1 hz2 hzs k0 _ rows.length rows.flatten hs hown.1 ⟨b,off,none⟩ news.length d news.flatten hx (by rw[flatten_len hk]) hget ?_ (by unfold maxLen;omega) hlen hbase ?_
  ·intro u hu
   obtain⟨r,hr,hur⟩:=List.mem_flatten.1 hu
   exact h1 r hr u hur
  ·intro v' w' hown' hg hat
   rw[<-List.flatten_append] at hown'
   obtain⟨A',c',hv',hob⟩:=OR.of_own hown' (fun r hr=>by
    rcases List.mem_append.1 hr with hr | hr
    ·exact hown.2 r hr
    ·exact hk r hr) k0
   subst hv'
   rw[own_blk] at hg
   rw[own_blk,own_blk] at hat
   exact h _ _ _ _ (qh rfl) (by simp) (by simp) hob hg hat
theorem RS.drop{w:World}{b off k:Nat}{L:List (List Value)}(h:RS w (some ⟨b,off,none⟩) k L)(j:Nat):RS w (some ⟨b,off+j*k,none⟩) k (L.drop j):=by
 refine⟨fun hn=>?_⟩
 obtain⟨b',off',e,hb,hc⟩:=h.at_ (by simp at hn;omega)
 injection e with e
 injection e with e1 e2
 subst e1 e2
 refine⟨_,_,rfl,hb,fun i cs hi q v hq=>?_⟩
 rw[List.getElem?_drop] at hi
 have:=hc _ cs hi q v hq
 rw[Nat.add_mul] at this
 rw[show off+j*k+i*k+q=off+(j*k+i*k)+q by omega]
 exact this
theorem RS.nil{w:World}{A:Option Addr}{k:Nat}:RS w A k []:=⟨by simp⟩
theorem wp_appendS{P:Program}(w:World){ops:Array Oper}{rest:List Oper}{o:Oper}{a:Act}{Q:Exit->Act->World->Prop}(hgd:o.guard=none)(s x:Operand)(t e:TypeId){i:TypeInfo}{z:Value}{k bytes:Nat}
  (ho:o.op=.call { callee:=.builtin .append,args:=#[s,x],argTypes:=#[t,t] })
  (ht:P.underlying t=some (.slice e)) (hi:P.info? e=some i) (hz0:i.zero=some z) (hz1:i.size=k) (hz2:i.bytes=bytes) (hzs:z.cells.size=k) (k0:0<k)
  (base:Nat) (A X:Option Addr) (c d:Nat) (rows news:List (List Value)) (hs:a.eval s=.slice A rows.length c) (hx:a.eval x=.slice X news.length d)
  (hown:OR w base e k A c rows) (hv:RS w X k news) (hk:∀r∈news,r.length=k) (h1:∀r∈news,∀v∈r,v.oneCell'=true) (hlen:(rows.length+news.length)*bytes<=140737488355328) (hl2:rows.length+news.length<=140737488355328) (hbase:base<=w.heap.size)
  (h:∀(ys:List (List Value)) (A':Option Addr) (c':Nat) (w':World),Hid (ys=rows++news)->ys.length<=rows.length+news.length->rows.length+news.length<=ys.length->OR w' base e k A' c' ys->w.grownBy w' (A.map (·.block))->(A'.map (·.block)=A.map (·.block)\/A'.map (·.block)=some w.heap.size) ->
   wpList P ops Q rest (a.put o.dst (.slice A' ys.length c')) w'):wpList P ops Q (o::rest) a w :=
 wpList_plain hgd fun _K hK=>op_appendS w s x t e ho ht hi hz0 hz1 hz2 hzs k0 base A X c d rows news hs hx hown hv hk h1 hlen hl2 hbase fun ys A' c' w' h1 h2 h3 h4 h5 h6=>hK _ _ (h ys A' c' w' h1 h2 h3 h4 h5 h6)
theorem RS.lit{w:World}{g k:Nat}{T:TypeId}{r:List Value}(h:Blk w g T r.toArray):RS w (some ⟨g,0,none⟩) k [r]:=by
 refine⟨fun _=>⟨g,0,rfl,h.lt,fun i cs hi j v hj=>?_⟩⟩
 cases i with
 | succ i=>simp at hi
 | zero =>
  simp at hi
  subst hi
  have:=h.cell j (v:=v) (by simpa using hj)
  simpa using this
/-! Blocks of unlike kinds are unlike blocks. -/
theorem OB.blk{w:World}{base c:Nat}{A:Option Addr}{l:List UInt8}(h:OB w base A c l):∀b,A.map (·.block)=some b->∃cs,w.heap[b]?=some (.cells cs 5 (0,0)):=by
 intro b hb
 rcases h.2 with⟨hv,_⟩ | ⟨g,cap,cur,hv,_,hg,_⟩
 ·injection hv with h1 h2 h3
  rw[h1] at hb
  simp at hb
 ·injection hv with h1 h2 h3
  rw[h1] at hb
  have:g=b:=by simpa using hb
  subst this
  exact⟨_,hg⟩
theorem cells_ne{w:World}{b g:Nat}{cs ds:Array Value}{T U:TypeId}{f f':Nat × Nat}(h:w.heap[b]?=some (.cells cs T f))(k:w.heap[g]?=some (.cells ds U f'))(hne:T≠U):b≠g:=by
 rintro rfl
 rw[h] at k
 injection k with k
 injection k with _ k
 exact hne k
theorem OB.ne_row{w:World}{base c base' c' k:Nat}{A B:Option Addr}{l:List UInt8}{e:TypeId}{rows:List (List Value)}(h:OB w base A c l)(r:OR w base' e k B c' rows)(hne:5≠e):∀b,B.map (·.block)=some b->A.map (·.block)≠some b:=by
 intro b hb ha
 obtain⟨cs,h1⟩:=h.blk b ha
 obtain⟨ds,h2⟩:=r.blk b hb
 exact cells_ne h1 h2 hne rfl
theorem OB.ne_var{w:World}{base c g:Nat}{A:Option Addr}{l:List UInt8}{T:TypeId}{cs:Array Value}(h:OB w base A c l)(k:Blk w g T cs)(hne:5≠T):A.map (·.block)≠some g:=by
 intro ha
 obtain⟨ds,h1⟩:=h.blk g ha
 exact cells_ne h1 k hne rfl
theorem OR.ne_var{w:World}{base c k g:Nat}{A:Option Addr}{e T:TypeId}{rows:List (List Value)}{cs:Array Value}(h:OR w base e k A c rows)(b:Blk w g T cs)(hne:e≠T):A.map (·.block)≠some g:=by
 intro ha
 obtain⟨ds,h1⟩:=h.blk g ha
 exact cells_ne h1 b hne rfl
theorem OB.of_block{w w':World}{base c:Nat}{A:Option Addr}{l:List UInt8}(h:OB w base A c l)(hb:∀b,A.map (·.block)=some b->w'.heap[b]?=w.heap[b]?):OB w' base A c l:=by
 refine⟨h.1,?_⟩
 rcases h.2 with h2 | ⟨g,cap,cur,hv,hg,hh,r⟩
 ·exact .inl h2
 ·injection hv with hv1 hv2 hv3
  subst hv1 hv3
  exact .inr ⟨g,_,cur,rfl,hg,by rw[hb g rfl];exact hh,r⟩
theorem OB.grown_row{w w':World}{base c:Nat}{A:Option Addr}{l:List UInt8}{row:Option Nat}(h:OB w base A c l)(hg:w.grownBy w' row)(hk:∀k,row=some k->A.map (·.block)≠some k):OB w' base A c l :=
 h.of_block fun b hb=>hg.block b (h.blk_lt b hb).2 fun e=>hk b e.symm hb
end Go.Proofs.YtobdmlejabjmiaaGreatDoor
