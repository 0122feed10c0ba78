/- Made small by a program. -/
import Derived.Test.YtobdmlejabjmiaaGreatDoorZc30
set_option maxRecDepth 20000
set_option maxHeartbeats 8000000
namespace Go.Proofs.YtobdmlejabjmiaaGreatDoor
open Go.RowKit
theorem zfe{w:World}{A:Option Addr}{xs:List Value}(h:RV w A xs):RS w A 1 (xs.map fun v=>[v]):=by
 refine⟨fun h0=>?_⟩;obtain⟨b,off,e,hb,hc⟩:=h.at_ (by simpa using h0);refine⟨b,off,e,hb,fun i cs hi j v hj=>?_⟩;rw[List.getElem?_map] at hi;obtain⟨t,ht,rfl⟩:=Option.map_eq_some_iff.1 hi
 match j with
 | 0 =>
  simp only[List.getElem?_cons_zero,Option.some.injEq] at hj;subst hj;rw[Nat.mul_one,Nat.add_zero];exact hc i _ ht
 | j+1=>simp at hj
theorem zdb:∀(xs:List Value),(xs.map fun v=>[v]).flatten=xs
 | []=>rfl
 | a::t=>by simp[zdb t]
theorem zeT(xs:List Value):∀r∈(xs.map fun v=>[v]),r.length=1:=by
 intro r hr;obtain⟨t,_,rfl⟩:=List.mem_map.1 hr
 rfl
theorem zeU{xs:List Value}(h:∀v∈xs,v.oneCell'=true):∀r∈(xs.map fun v=>[v]),∀v∈r,v.oneCell'=true:=by
 intro r hr v hv;obtain⟨t,ht,rfl⟩:=List.mem_map.1 hr;rw[List.mem_singleton.1 hv];exact h t ht
theorem zdd{w:World}{B c:Nat}{e:TypeId}{A:Option Addr}{xs:List Value}(h:OR w B e 1 A c (xs.map fun v=>[v])):OV w B e A c xs:=by
 have h1:=h.1;rw[zdb,List.length_map] at h1;exact h1
def CloneE(T:TypeId)(xs:List Value)(w:World)(e:Ending)(w':World):Prop :=
 ∃A c n,n=xs.length/\e=.returned (.slice A n c)/\OV w' w.heap.size T A c xs/\Below w.heap.size w w'
theorem tp_info3:(Tryz.prog.info? 159).map (fun i=>(i.zero,i.size,i.bytes))=some (some (.pointer none),1,8):=by kernel_rfl
theorem tb_info3:(Tryz.prog.info? 34).map (fun i=>(i.zero,i.size,i.bytes))=some (some (.slice none 0 0),1,24):=by kernel_rfl
theorem zel(A:Option Addr)(c:Nat)(xs:List Value)(w:World)(h:RV w A xs)(h1:∀v∈xs,v.oneCell'=true)(hl:xs.length<=1000000000) :
  Calls Tryz.prog 105 #[.slice A xs.length c] w (CloneE 159 xs w):=by
 have hnil:=fun w=>Lib.run_eql_slice_nil (P:=Tryz.prog) w 117 159 A xs.length c 0 0 Tryz.underlying117
 rcases A with _ | ad
 ·have hl0:xs=[]:=by
   rcases Nat.eq_zero_or_pos xs.length with h0 | h0
   ·exact List.eq_nil_of_length_eq_zero h0
   ·obtain⟨b,off,e,_⟩:=h.at_ h0;cases e
  have HL:=qh hl0;clear h hl hl0 h1;go_enter Tryz.func105,Tryz.ntmps105;go_wp2_with fail;go_ret;exact⟨none,0,0,by rw[HL.out];rfl,rfl,by rw[HL.out];exact OV.nil _ _ _,Below.refl _ _⟩
 ·obtain⟨i0,hi0,hz0,hz1,hz2⟩:=info_parts tp_info3;have HRS:=qh (zfe ((h.below ((Below.refl w.heap.size w).alloc (Nat.le_refl _) (.cells #[] 159)))));have H1:=qh (zeU h1);have hwa:w.heap.size<=(w.alloc (.cells #[] 159)).heap.size:=by simp
  clear h h1;go_enter Tryz.func105,Tryz.ntmps105;go_wp2_with (at_builtin;refine ya _ rfl _ _ 117 159 rfl Tryz.underlying117 hi0 hz0 hz1 hz2 rfl (by decide) w.heap.size (some ⟨w.heap.size,0,none⟩) (some ad) 0 c [] (xs.map fun v=>[v]) rfl (by rw[List.length_map];rfl) (OR.made0 _ _ _ (Nat.le_refl _)) HRS.out (zeT xs) H1.out (by simp;omega) (by simp;omega) hwa ?_;intro ys A' c' w' hys hy1 hy2 hrow hg hA);go_ret;have hysd:ys=xs.map fun v=>[v]:=by simpa using hys.out
  rw[hysd] at hrow;exact⟨A',c',_,by rw[hysd,List.length_map],rfl,zdd hrow,((Below.refl _ _).alloc (Nat.le_refl _) _).grown hg (by simp) (by simp)⟩
theorem zbq(A:Option Addr)(c:Nat)(xs:List Value)(w:World)(h:RV w A xs)(h1:∀v∈xs,v.oneCell'=true)(hl:xs.length<=1000000000) :
  Calls Tryz.prog 104 #[.slice A xs.length c] w (CloneE 34 xs w):=by
 have hnil:=fun w=>Lib.run_eql_slice_nil (P:=Tryz.prog) w 87 34 A xs.length c 0 0 Tryz.underlying87
 rcases A with _ | ad
 ·have hl0:xs=[]:=by
   rcases Nat.eq_zero_or_pos xs.length with h0 | h0
   ·exact List.eq_nil_of_length_eq_zero h0
   ·obtain⟨b,off,e,_⟩:=h.at_ h0;cases e
  have HL:=qh hl0;clear h hl hl0 h1;go_enter Tryz.func104,Tryz.ntmps104;go_wp2_with fail;go_ret;exact⟨none,0,0,by rw[HL.out];rfl,rfl,by rw[HL.out];exact OV.nil _ _ _,Below.refl _ _⟩
 ·obtain⟨i0,hi0,hz0,hz1,hz2⟩:=info_parts tb_info3;have HRS:=qh (zfe ((h.below ((Below.refl w.heap.size w).alloc (Nat.le_refl _) (.cells #[] 34)))));have H1:=qh (zeU h1);have hwa:w.heap.size<=(w.alloc (.cells #[] 34)).heap.size:=by simp
  clear h h1;go_enter Tryz.func104,Tryz.ntmps104;go_wp2_with (at_builtin;refine ya _ rfl _ _ 87 34 rfl Tryz.underlying87 hi0 hz0 hz1 hz2 rfl (by decide) w.heap.size (some ⟨w.heap.size,0,none⟩) (some ad) 0 c [] (xs.map fun v=>[v]) rfl (by rw[List.length_map];rfl) (OR.made0 _ _ _ (Nat.le_refl _)) HRS.out (zeT xs) H1.out (by simp;omega) (by simp;omega) hwa ?_;intro ys A' c' w' hys hy1 hy2 hrow hg hA);go_ret;have hysd:ys=xs.map fun v=>[v]:=by simpa using hys.out
  rw[hysd] at hrow;exact⟨A',c',_,by rw[hysd,List.length_map],rfl,zdd hrow,((Below.refl _ _).alloc (Nat.le_refl _) _).grown hg (by simp) (by simp)⟩
section
variable {B p g sc rc:Nat} {S F F' T:Nat->Prop} {w w':World} {l l':Lg} {D D':DSt} {Z Z' Z1 Z2:List (Sg × Pl)} {Y Y':List (List UInt8 × Option Addr × Nat)} {SA RA SA' RA':Option Addr} {s s':Sg} {z:Pl} {sc' rc' n:Nat}
theorem LX.wideN(h:LX B S F w p g l D Z Y SA sc RA rc)(hB:B<=n)(hS:∀b,S b->b<n):LX B S (fun b=>F b\/(n<=b/\b<w.heap.size)) w p g l D Z Y SA sc RA rc :=
 ⟨h.blk,.inl h.fp,h.zs,h.ys,h.lb.wide (fun b hb=>.inl hb) (fun b hb=>hb.elim (h.lb.dis b) (fun hb hs=>by have:=hS b hs;omega)) (fun b hb=>hb.elim (h.lb.bnd b) (fun hb=>⟨by omega,hb.2⟩))⟩
theorem LX.setRecs(h:LX B S F w p g l D Z Y SA sc RA rc)(hsub:∀y∈Y',y∈Y)(hov:OV w B TB RA' rc' (Y'.map recV))(hF:∀b,RA'.map (·.block)=some b->F b)(hn:n=Y'.length) :
  LX B S F (w.setCell ⟨p,3,none⟩ (.slice RA' n rc')) p g { l with recs:=Y'.map Prod.fst } D Z Y' SA sc RA' rc':=by
 subst hn;have hl:LB B S F w g D Z Y' SA sc RA' rc' :=
  ⟨h.lb.di,h.lb.sv,hov,h.lb.sg,fun y hy=>h.lb.rc y (hsub y hy),h.lb.fs,hF,h.lb.fq,fun y hy=>h.lb.fy y (hsub y hy),fun y hy=>h.lb.yb y (hsub y hy),h.lb.dis,h.lb.bnd,h.lb.sge,h.lb.qn,h.lb.mn⟩
 have m:Mods (·=p) w (w.setCell ⟨p,3,none⟩ (.slice RA' Y'.length rc')):=(Mods.refl (·=p) w).setCell ⟨p,_,none⟩ (.inl rfl) _;refine⟨?_,h.fp,h.zs,rfl,hl.setP h.blk h.ps m⟩;have h1:=h.blk.setCell 3 (.slice RA' Y'.length rc');have e:(logV g l SA sc RA rc).setIfInBounds 3 (.slice RA' Y'.length rc')=logV g { l with recs:=Y'.map Prod.fst } SA sc RA' rc':=by
  simp[logV]
 rw[e] at h1;exact h1
theorem LX.setSegs(h:LX B S F w p g l D Z Y SA sc RA rc)(hsub:Z'.Sublist Z)(hov:OV w B TP SA' sc' (Z'.map ptrV))(hF:∀b,SA'.map (·.block)=some b->F b)(hn:n=Z'.length) :
  LX B S F (w.setCell ⟨p,2,none⟩ (.slice SA' n sc')) p g { l with segs:=Z'.map Prod.fst } D Z' Y SA' sc' RA rc:=by
 subst hn;have hl:LB B S F w g D Z' Y SA' sc' RA rc :=
  ⟨h.lb.di,hov,h.lb.rv,fun z hz=>h.lb.sg z (hsub.subset hz),h.lb.rc,hF,h.lb.fr,fun z hz=>h.lb.fq z (hsub.subset hz),h.lb.fy,h.lb.yb,h.lb.dis,h.lb.bnd,h.lb.sge,(hsub.map _).nodup h.lb.qn,(hsub.map _).nodup h.lb.mn⟩
 have m:Mods (·=p) w (w.setCell ⟨p,2,none⟩ (.slice SA' Z'.length sc')):=(Mods.refl (·=p) w).setCell ⟨p,_,none⟩ (.inl rfl) _;refine⟨?_,h.fp,rfl,h.ys,hl.setP h.blk h.ps m⟩;have h1:=h.blk.setCell 2 (.slice SA' Z'.length sc');have e:(logV g l SA sc RA rc).setIfInBounds 2 (.slice SA' Z'.length sc')=logV g { l with segs:=Z'.map Prod.fst } SA' sc' RA rc:=by
  simp[logV]
 rw[e] at h1;exact h1
end
def SegsCh:List Sg->Nat->Nat->Prop
 | [],f,n=>f=n
 | s::r,f,n=>s.first=f/\0<s.marks.length/\SegsCh r (f+(s.marks.length - 1)) n
theorem SegsCh.le:∀{L:List Sg} {f n:Nat},SegsCh L f n->f<=n
 | [],f,n,h=>Nat.le_of_eq h
 | s::r,f,n,h=>by have:=h.2.2.le;omega
def Lg.chain(l:Lg):Prop:=SegsCh l.segs l.first l.next
theorem files_len(D:DSt):D.files.length<=D.cnt:=by
 unfold DSt.files DSt.cnt;generalize D.sure=F
 induction D.unsure generalizing F with
 | nil=>simp
 | cons u t ih =>
  rw[List.foldl_cons,List.length_cons];have h1:=ih (doF F u);have h2:=zet F u;omega
theorem zfr(D:DSt):(syncD D).2.cnt<=D.cnt:=by
 unfold syncD;split
 ·exact Nat.le_refl _
 ·split
  ·unfold DSt.cnt;rw[zC,zo];exact Nat.le_refl _
  ·have:=files_len D;show D.files.length+0<=_;omega
theorem zaT{l:Lg}(h:l.down=false):l.fell 0=l:=by
 unfold Lg.fell;rw[h];exact zc3 l h
theorem zbh{l:Lg}{D:DSt}(hd:l.down=false)(h:(syncW l D).1=0):(syncW l D).2.1=l/\(syncW l D).2.2.cnt<=D.cnt:=by
 unfold syncW at h ⊢;rw[if_neg (by rw[hd];simp)] at h ⊢;simp only at h ⊢;rw[h];exact⟨zaT hd,zfr D⟩
theorem zaz:∀{L:List Nm} {l:Lg} {D:DSt},l.down=false->(removeW L l D).1=0->(removeW L l D).2.1=l/\(removeW L l D).2.2.cnt<=D.cnt+L.length
 | [],l,D,hd,h=>by
  rw[removeW] at h ⊢;exact zbh hd h
 | f::r,l,D,hd,h=>by
  rw[removeW] at h ⊢;split at h
  ·rename_i h1;exact absurd h h1
  ·rename_i h1;rw[if_neg h1];have h0:(rmD D f).1=0:=Classical.not_not.1 h1;rw[h0,zaT hd] at h ⊢;have h2:=zaz (L:=r) hd h;have h3:(rmD D f).2.cnt<=D.cnt+1:=(by unfold rmD;exact zV _ _ _);refine⟨h2.1,?_⟩;have:=h2.2;simp only[List.length_cons];omega
section
variable {B p g sc rc:Nat} {S F F' T:Nat->Prop} {w w' wr:World} {l l':Lg} {D D':DSt} {Z Z' Z1 Z2:List (Sg × Pl)} {Y Y':List (List UInt8 × Option Addr × Nat)} {SA RA SA' RA':Option Addr} {s s':Sg} {z:Pl} {sc' rc' n:Nat}
structure Lg.fineD(l:Lg):Prop where
 nm:∀s∈l.segs,s.name.length<=1000/\s.marks.length<=1000000
 nx:l.next<=1000000000000
 sl:l.segs.length<=1000000
 rl:l.recs.length<=1000000
structure DrpAt(B:Nat)(S F:Nat->Prop)(w:World)(p g:Nat)(upto:Nat)(r:Int × Lg × DSt)(wr:World)(S' F':Nat->Prop)(lk:Lg)(Dk:DSt)(Z:List (Sg × Pl))(Y:List (List UInt8 × Option Addr × Nat))(SA:Option Addr)(sc:Nat)(RA:Option Addr)(rc:Nat)(k:Nat):Prop where
 lx:LX B S' F' wr p g lk Dk Z Y SA sc RA rc
 ss:∀b,S' b->S b\/w.heap.size<=b
 ff:∀b,F' b->F b\/w.heap.size<=b
 mods:Mods (fun b=>S b\/F b) w wr
 eq:r=dropLoop upto k lk Dk
 fuel:lk.segs.length<=k
 up:lk.down=false
 ch:lk.chain
 fine:lk.fineD
 cnt:Dk.cnt+lk.segs.length<=500000
theorem zfd{w:World}{b off:Nat}{xs:List Value}(h:RV w (some ⟨b,off,none⟩) xs)(k:Nat):RV w (some ⟨b,off+k,none⟩) (xs.drop k):=by
 refine⟨fun h0=>?_⟩;rw[List.length_drop] at h0;obtain⟨b',off',e,hb,hc⟩:=h.at_ (by omega);injection e with e
 injection e with e1 e2 _
 subst e1 e2;refine⟨b,off+k,rfl,hb,fun j x hx=>?_⟩;rw[List.getElem?_drop] at hx;have:=hc _ _ hx
 rwa [Nat.add_assoc]
theorem OV.get{w:World}{B c b j:Nat}{e:TypeId}{xs:List Value}{v:Value}(h:OV w B e (some ⟨b,0,none⟩) c xs)(hv:xs[j]?=some v):w.cell? ⟨b,j,none⟩=some v:=by
 obtain⟨b',off',e',_,hc⟩:=h.rv.at_ (by
  have:=(List.getElem?_eq_some_iff.1 hv).1;omega)
 injection e' with e'
 injection e' with e1 e2 _
 subst e1 e2;have:=hc j v hv
 rwa [Nat.zero_add] at this
theorem zaE(Y:List (List UInt8 × Option Addr × Nat)):∀v∈Y.map recV,v.oneCell'=true:=by
 intro v hv;obtain⟨y,_,rfl⟩:=List.mem_map.1 hv
 rfl
theorem ptrs_one(Z:List (Sg × Pl)):∀v∈Z.map ptrV,v.oneCell'=true:=by
 intro v hv;obtain⟨y,_,rfl⟩:=List.mem_map.1 hv
 rfl
theorem walDrop(h:LX B S F w p g l D Z Y SA sc RA rc)(hB:B<=w.heap.size)(upto:Nat)(hup:upto<=1000000000000)(hch:l.chain)(hfine:l.fineD)(hcnt:D.cnt+l.segs.length<=500000) :
  Calls Tryz.prog 52 #[.pointer (some ⟨p,0,none⟩),.int .u64 (upto:Int)] w (LDone B S F w p g (.int .i64 (dropW l D upto).1) (dropW l D upto).2.1 (dropW l D upto).2.2):=by
 have AL:=qh (jz h.blk l.down rfl);cases hd:l.down with
 | true =>
  rw[hd,if_pos rfl] at AL;have e:dropW l D upto=(11,l,D):=by unfold dropW;rw[if_pos hd]
  rw[e];have HF:Hid (LDone B S F w p g (.int .i64 11) l D (.returned (.int .i64 11)) w):=qh ⟨rfl,S,F,⟨_,_,_,_,_,_,h⟩,fun b hb=>.inl hb,fun b hb=>.inl hb,Mods.refl _ _⟩;clear h hcnt hd e hch hfine;go_enter Tryz.func52,Tryz.ntmps52;go_wp2_with (go_at_call 92;refine AL.out.mono ?_);first | rintro e w1 rfl rfl | rintro e w1 ⟨rfl,rfl⟩
  clear AL;go_wp2_with fail;go_ret;exact HF.out
 | false =>
  rw[hd,if_neg (by simp)] at AL;have hnx:=hfine.nx;have hnx2:l.first+l.recs.length<=1000000000000:=hnx;have NX:=qh (xM h.blk l.first l.recs.length rc RA rfl rfl (by omega));by_cases hgap:l.next<upto
  ·have e:dropW l D upto=(12,l,D):=(by unfold dropW;rw[if_neg (by rw[hd];simp),if_pos hgap]);rw[e];have hg:((l.first+l.recs.length:Nat):Int)<(upto:Int):=(by have:l.next=l.first+l.recs.length:=rfl;omega);have HF:Hid (∀n,LDone B S F w p g (.int .i64 12) l D (.returned (.int .i64 12)) (w.drewN n)):=qh (fun n=>⟨rfl,S,F,⟨_,_,_,_,_,_,h.below (zl (Below.refl _ _) n)⟩,fun b hb=>.inl hb,fun b hb=>.inl hb,Mods.of_below (zl (Below.refl _ _) n)⟩);clear h hcnt hd e hch hfine hgap hnx;go_enter Tryz.func52,Tryz.ntmps52;go_wp2_with (first | (go_at_call 92;refine AL.out.mono ?_;first | rintro e w1 rfl rfl | rintro e w1 ⟨rfl,rfl⟩) | (go_at_call 81;refine NX.out.mono ?_));first | rintro e w2 rfl n2 rfl | rintro e w2 ⟨rfl,n2,rfl⟩
   clear AL NX;go_wp2_with fail;go_ret;exact HF.out _
  ·have hg:¬((l.first+l.recs.length:Nat):Int)<(upto:Int):=(by have:l.next=l.first+l.recs.length:=rfl;omega);obtain⟨q,hq⟩:∃q,q=syncW l D:=⟨_,rfl⟩;have hcn:D.cnt<=500000:=(by omega);have SY:Hid (∀n,Calls Tryz.prog 44 #[.pointer (some ⟨p,0,none⟩)] (w.drewN n) (LKeep B S F (w.drewN n) p g Z Y SA sc RA rc (.int .i64 q.1) q.2.1 q.2.2)):=qh (fun n=>by
    have h1:=zbm (h.below (zl (Below.refl _ _) n)) (Nat.le_trans hB (zl (Below.refl w.heap.size w) n).size) (by omega);rw[<-hq] at h1;exact h1)
   have hdw:dropW l D upto=if q.1≠0 then q else dropLoop upto l.segs.length q.2.1 q.2.2:=(by unfold dropW;rw[if_neg (by rw[hd];simp),if_neg hgap,<-hq]);obtain⟨r,hr⟩:∃r,r=dropW l D upto:=⟨_,rfl⟩;rw[<-hr] at hdw ⊢;have HR:=qh hdw;have HQ:=qh hq;have HX:=qh h;have HD:=qh hd;have HCH:=qh hch;have HFN:=qh hfine;clear h hd hch hfine hgap hnx hr hdw hq;go_enter Tryz.func52,Tryz.ntmps52;go_wp2_with (first | (go_at_call 92;refine AL.out.mono ?_;first | rintro e w1 rfl rfl | rintro e w1 ⟨rfl,rfl⟩) | (go_at_call 81;refine NX.out.mono ?_));first | rintro e w2 rfl n2 rfl | rintro e w2 ⟨rfl,n2,rfl⟩
   clear AL NX;go_wp2_with (go_at_call 44;refine(SY.out _).mono ?_);rintro e w3 ⟨rfl,S3,hx3,hs3,hm3⟩;have hd2:=zl (Below.refl w.heap.size w) n2;have HS3:Hid (∀b,S3 b->S b\/w.heap.size<=b):=qh (fun b hb=>(hs3 b hb).imp id (fun h=>Nat.le_trans hd2.size h));have HM3:Hid (Mods (fun b=>S b\/F b) w w3):=qh ((Mods.of_below hd2).trans hm3 (fun i hi=>.inl (hi.imp id (fun e=>by rw[e];exact HX.out.fp))));have HX3:=qh hx3;clear hx3 hs3 hm3 hd2 SY;by_cases hq0:q.1=0
   ·have hqb:(q.1 == 0)=true:=(by simpa using hq0);have hok:=zbh (D:=D) HD.out (by rw[<-HQ.out];exact hq0);rw[<-HQ.out] at hok;have HDA:Hid (DrpAt B S F w p g upto r w3 S3 F l q.2.2 Z Y SA sc RA rc l.segs.length):=qh ⟨HX3.out.same hok.1,HS3.out,fun b hb=>.inl hb,HM3.out,by rw[HR.out,if_neg (by rw[hq0];simp),hok.1],Nat.le_refl _,HD.out,HCH.out,HFN.out,by have:=hok.2;omega⟩;clear hok HX3 HS3 HM3 HR HQ HX HD HCH HFN hcn hcnt hg hnx2;rw[hq0];clear hqb hq0;go_wp2_with fail;go_loopw [] (fun wr=>∃S' F' lk Dk Z Y SA sc RA rc k,Hid (DrpAt B S F w p g upto r wr S' F' lk Dk Z Y SA sc RA rc k)) (fun wr=>match wr.cell? ⟨p,2,none⟩ with | some (.slice _ n _)=>n | _=>0)
    case atStart=>exact⟨_,_,_,_,_,_,_,_,_,_,_,HDA⟩
    case round =>
     clear HDA;obtain⟨S',F',lk,Dk,Z,Y,SA,sc,RA,rc,k,HDA⟩:=hrel;have hda:=HDA.out;have hlz:=hda.lx.zs;have hch:=hda.ch;unfold Lg.chain at hch;have hdone:(∀a b t,lk.segs=a::b::t->¬b.first<=upto)->r=(0,lk,Dk):=fun hno=>by
      rw[hda.eq];cases k with
      | zero=>rfl
      | succ k =>
       unfold dropLoop;split
       ·rename_i a b t e;rw[if_neg (hno a b t e)]
       ·rfl
     match hZ:Z with
     | [] =>
      have hls:lk.segs=[]:=(by rw[<-hlz];rfl);have c2:wr.cell? ⟨p,2,none⟩=some (.slice SA 0 sc):=by
       have e:wr.cell? ⟨p,2,none⟩=some (.slice SA lk.segs.length sc):=hda.lx.blk.cell 2 rfl;rw[hls] at e;exact e
      have HF:Hid (LDone B S F w p g (.int .i64 r.1) r.2.1 r.2.2 (.returned (.int .i64 0)) wr):=qh (by
       rw[hdone (fun a b t e=>by rw[hls] at e;cases e)];exact⟨rfl,S',F',⟨_,_,_,_,_,_,hda.lx⟩,hda.ss,hda.ff,hda.mods⟩)
      clear hda HDA hlz hch hdone hls;go_wp2_with fail;go_ret;exact HF.out
     | [za] =>
      have hls:lk.segs=[za.1]:=(by rw[<-hlz];rfl);have c2:wr.cell? ⟨p,2,none⟩=some (.slice SA 1 sc):=by
       have e:wr.cell? ⟨p,2,none⟩=some (.slice SA lk.segs.length sc):=hda.lx.blk.cell 2 rfl;rw[hls] at e;exact e
      have HF:Hid (LDone B S F w p g (.int .i64 r.1) r.2.1 r.2.2 (.returned (.int .i64 0)) wr):=qh (by
       rw[hdone (fun a b t e=>by rw[hls] at e;cases e)];exact⟨rfl,S',F',⟨_,_,_,_,_,_,hda.lx⟩,hda.ss,hda.ff,hda.mods⟩)
      clear hda HDA hlz hch hdone hls;go_wp2_with fail;go_ret;exact HF.out
     | za::zb::zr =>
      have hls:lk.segs=za.1::zb.1::zr.map Prod.fst:=(by rw[<-hlz];rfl);have c2:wr.cell? ⟨p,2,none⟩=some (.slice SA (zr.length+2) sc):=by
       have e:wr.cell? ⟨p,2,none⟩=some (.slice SA lk.segs.length sc):=hda.lx.blk.cell 2 rfl;rw[hls] at e;simpa using e
      obtain⟨sb,rfl⟩:∃sb,SA=some ⟨sb,0,none⟩:=by
       rcases hda.lx.lb.sv.form with⟨_,_,h⟩ | ⟨sb,h,_⟩
       ·simp at h
       ·exact⟨sb,h⟩
      have cb:wr.cell? ⟨sb,1,none⟩=some (.pointer (some ⟨zb.2.q,0,none⟩)):=hda.lx.lb.sv.get (j:=1) rfl;have ca:wr.cell? ⟨sb,0,none⟩=some (.pointer (some ⟨za.2.q,0,none⟩)):=hda.lx.lb.sv.get (j:=0) rfl;have ha:=hda.lx.lb.sg za (by simp);have hb:=hda.lx.lb.sg zb (by simp);have b1:wr.cell? ⟨zb.2.q,1,none⟩=some (.int .u64 (zb.1.first:Int)):=hb.blk.cell 1 rfl;have a0:wr.cell? ⟨za.2.q,0,none⟩=some (.string ⟨za.1.name.toArray⟩):=ha.blk.cell 0 rfl;have hgt:(1:Int)<((zr.length+2:Nat):Int):=(by omega);have HC2:=qh c2;by_cases hle:zb.1.first<=upto
      ·have hleI:(zb.1.first:Int)<=(upto:Int):=(by omega);obtain⟨k,rfl⟩:∃j,k=j+1:=⟨k - 1,by have:=hda.fuel;rw[hls] at this;simp only[List.length_cons] at this;omega⟩;obtain⟨q2,hq2⟩:∃q2,q2=removeW [za.1.name] lk Dk:=⟨_,rfl⟩;have hreq:r=if q2.1≠0 then q2 else dropLoop upto k { q2.2.1 with recs:=lk.recs.drop (zb.1.first - lk.first),segs:=zb.1::zr.map Prod.fst,first:=zb.1.first } q2.2.2:=by
        rw[hda.eq,hq2]
        conv=>lhs;unfold dropLoop
        rw[hls];simp only[hle,if_true]
       rw[hls] at hch;obtain⟨hc1,hc2,hc3,hc4,hc5⟩:=hch;have hcl:=hc5.le;have hnxk:lk.next=lk.first+lk.recs.length:=rfl;have hfn:=hda.fine;have hszr:w.heap.size<=wr.heap.size:=hda.mods.size;have hcnt2:=hda.cnt;rw[hls] at hcnt2;simp only[List.length_cons] at hcnt2;have hb4:Below wr.heap.size wr (wr.alloc (.cells #[.string ⟨za.1.name.toArray⟩] 9)):=(Below.refl _ _).alloc (Nat.le_refl _) _;have RM:=zb0 (hda.lx.below hb4) (Nat.le_trans (Nat.le_trans hB hszr) hb4.size) [za.1.name] (by simp only[List.length_cons,List.length_nil];omega) (some ⟨wr.heap.size,0,none⟩) 1 ((OV.lit1 wr (Nat.le_refl _) (.string ⟨za.1.name.toArray⟩) 9).rv) (fun _ b hb=>by
        have e:wr.heap.size=b:=(by simpa using hb);subst e;refine⟨fun hs=>?_,fun e=>?_⟩
        ·have:=hda.lx.lb.di.bnd _ hs;omega
        ·have:=hda.lx.blk.lt;omega) (fun f hf=>by rw[List.mem_singleton.1 hf];exact(hfn.nm za.1 (by rw[hls];simp)).1) ⟨Nat.le_refl _,by decide⟩
       rw[<-hq2] at RM;have RMH:=qh RM;have HDB:=qh hda;have HRQ:=qh hreq;have HQ2:=qh hq2;have HLS:=qh hls;have HCH:=qh (And.intro hc1 (And.intro hc3 hc5));have HB4:Hid (Below wr.heap.size wr (wr.alloc (.cells #[.string ⟨za.1.name.toArray⟩] 9))):=qh hb4;have hk1:zb.1.first - lk.first<=lk.recs.length:=(by omega);have hk0:lk.first<=zb.1.first:=(by omega);have hrl:=hfn.rl;have hsl:zr.length+2<=1000000:=(by have:=hfn.sl;rw[hls] at this;simpa using this);have hzf:zb.1.first<=1000000000000:=(by have:=hfn.nx;omega);have hF3:Hid (F' p):=qh hda.lx.fp;clear RM hda hreq hq2 hls hc1 hc2 hc3 hc4 hc5 hcl hnxk hfn hb4 HDA hlz hdone ha hb;go_wp2_with (go_at_call 95;refine RMH.out.mono ?_);rintro e w5 ⟨rfl,S5,hx5,hs5,hm5⟩;have HM5:Hid (Mods (fun b=>S b\/F b) w w5):=qh ((HDB.out.mods.below HB4.out).trans hm5 (fun i hi=>by
        rcases hi with hi | hi
        ·exact(HDB.out.ss i hi).imp .inl id
        ·rw[hi];exact(HDB.out.ff p hF3.out).imp .inr id))
       have HS5:Hid (∀b,S5 b->S b\/w.heap.size<=b):=qh (fun b hb=>(hs5 b hb).elim (HDB.out.ss b) (fun h=>.inr (Nat.le_trans hszr (Nat.le_trans HB4.out.size h))));have HX5:=qh hx5;clear hx5 hs5 hm5 RMH HB4 c2 b1 a0 ca cb;by_cases hq0:q2.1=0
       ·have hqb:(q2.1 == 0)=true:=(by simpa using hq0);have hok:=zaz (L:=[za.1.name]) (D:=Dk) HDB.out.up (by rw[<-HQ2.out];exact hq0);rw[<-HQ2.out] at hok;have HX6:=qh (HX5.out.same hok.1);have HC6:Hid (q2.2.2.cnt<=Dk.cnt+1):=qh hok.2;have HR6:Hid (r=dropLoop upto k { lk with recs:=lk.recs.drop (zb.1.first - lk.first),segs:=zb.1::zr.map Prod.fst,first:=zb.1.first } q2.2.2):=qh (by
         have h:=HRQ.out;rw[if_neg (by rw[hq0];simp),hok.1] at h;exact h)
        rw[hq0];clear hok HX5 HRQ HQ2 hq0 hqb;go_upto_region 13 with fail;obtain⟨n1,hn1⟩:∃n1,n1=lk.recs.length:=⟨_,rfl⟩;obtain⟨k1,hk1d⟩:∃k1,k1=zb.1.first - lk.first:=⟨_,rfl⟩;have hwk:IntKind.u64.wrap ((zb.1.first:Int) - (lk.first:Int))=(k1:Int):=(by rw[IntWalk.u64_in _ (by omega)];omega);have hcapr:=HX6.out.lb.rv.cap;have hYl:Y.length=n1:=(by rw[HX6.out.lens.2,hn1]);rw[List.length_map,hYl] at hcapr;have hk1n:k1<=n1:=(by omega);have hn1b:n1<=1000000:=(by omega);rw[<-hk1d] at HR6;have HN1:=qh (And.intro hn1 (And.intro hk1d hYl));have HRD:Hid ((Y.drop k1).map Prod.fst=lk.recs.drop k1):=qh (by rw[List.map_drop,HX6.out.ys]);have hs5r:w.heap.size<=w5.heap.size:=HM5.out.size;go_cut [] (fun wx=>∃(F7:Nat->Prop) (A6:Option Addr) (c6:Nat),Hid (LX B S5 F7 wx p g { lk with recs:=lk.recs.drop k1 } q2.2.2 (za::zb::zr) (Y.drop k1) (some ⟨sb,0,none⟩) sc A6 c6)/\Hid (∀b,F7 b->F b\/w.heap.size<=b)/\Hid (Mods (fun b=>S b\/F b) w wx))
        case first =>
         by_cases hkc:k1<rc
         ·obtain⟨ra,rfl⟩:∃ra,RA=some ⟨ra,0,none⟩:=by
           rcases HX6.out.lb.rv.form with⟨_,h,_⟩ | ⟨ra,h,_⟩
           ·omega
           ·exact⟨ra,h⟩
          have hkI:(k1:Int)<(rc:Int):=(by omega);have hk0I:(0:Int)<=(k1:Int):=(by omega);have hknI:(k1:Int)<=(n1:Int):=(by omega);have HRV:Hid (RV w5 (some ⟨ra,k1,none⟩) ((Y.drop k1).map recV)):=qh (by
           have:=zfd HX6.out.lb.rv.rv k1;rw[Nat.zero_add,<-List.map_drop] at this;exact this)
          clear hn1 hk1d hYl hk1 hk0;refine zf (by kernel_rfl) [(0,none),(1,none),(2,none),(3,none),(4,none),(5,none),(6,none),(7,none),(8,none),(9,none),(10,none),(11,none),(12,none),(13,none),(14,none),(15,none),(16,none),(17,none),(18,none),(19,none),(20,some [19]),(21,none),(22,none),(23,some [0,1,2,3,4,5,6,7,8,9,10,11,12,13,14,15,16,17,18,19,22])] (by kernel_rfl) (by kernel_rfl) (by decide) ?_;intro wq hwq;have hBq:Below w5.heap.size w5 wq:=(by rw[hwq];exact(Below.refl _ _).drew);have HXQ:=qh (HX6.out.below hBq);have HMQ:Hid (Mods (fun b=>S b\/F b) w wq):=qh (HM5.out.below hBq);have hszq:w5.heap.size<=wq.heap.size:=hBq.size;clear hwq;have y3:wq.cell? ⟨p,3,none⟩=some (.slice (some ⟨ra,0,none⟩) n1 rc):=(by rw[HN1.out.1];exact HXQ.out.blk.cell 3 rfl);have y4:wq.cell? ⟨p,4,none⟩=some (.int .u64 (lk.first:Int)):=HXQ.out.blk.cell 4 rfl;have y2:wq.cell? ⟨p,2,none⟩=some (.slice (some ⟨sb,0,none⟩) (zr.length+2) sc):=by
           have e:wq.cell? ⟨p,2,none⟩=some (.slice (some ⟨sb,0,none⟩) lk.segs.length sc):=HXQ.out.blk.cell 2 rfl;rw[HLS.out] at e;simpa using e
          have yb:wq.cell? ⟨sb,1,none⟩=some (.pointer (some ⟨zb.2.q,0,none⟩)):=HXQ.out.lb.sv.get (j:=1) rfl;have y1:wq.cell? ⟨zb.2.q,1,none⟩=some (.int .u64 (zb.1.first:Int)):=(HXQ.out.lb.sg zb (by simp)).blk.cell 1 rfl;have CL:=qh (zbq (some ⟨ra,k1,none⟩) (rc - k1) ((Y.drop k1).map recV) wq (HRV.out.below hBq) (zaE _) (by rw[List.length_map,List.length_drop,HN1.out.2.2];omega));rw[List.length_map,List.length_drop,HN1.out.2.2] at CL;iterate 4 (refine zd ?_)
          refine ze [(⟨p,3,none⟩,.slice (some ⟨ra,0,none⟩) n1 rc)] ?_;iterate 3 (refine zd ?_)
          refine ze [(⟨p,2,none⟩,.slice (some ⟨sb,0,none⟩) (zr.length+2) sc)] ?_;iterate 1 (refine zd ?_)
          refine ze [(⟨sb,1,none⟩,.pointer (some ⟨zb.2.q,0,none⟩))] ?_;iterate 2 (refine zd ?_)
          refine ze [(⟨zb.2.q,1,none⟩,.int .u64 (zb.1.first:Int))] ?_;iterate 3 (refine zd ?_)
          refine ze [(⟨p,4,none⟩,.int .u64 (lk.first:Int))] ?_;iterate 2 (refine zd ?_)
          refine zh rfl (by rfl) (fun K hK=>?_)
          go_simp
          rw[if_neg (show ¬rc=k1 by omega)];refine CL.out.mono ?_;rintro e w6 ⟨A6,c6,n6,hn6,rfl,ho6,hb6⟩;have hn6':n6=Y.length - k1:=(by rw[hn6,List.length_map,List.length_drop]);subst hn6';have HX7:=qh (HXQ.out.below hb6);have HM7:Hid (Mods (fun b=>S b\/F b) w w6):=qh (HMQ.out.below hb6);have HO6:=qh ho6;clear y3 y4 y2 yb y1 hn6 ho6 CL;have y3:w6.cell? ⟨p,3,none⟩=some (.slice (some ⟨ra,0,none⟩) n1 rc):=(by rw[HN1.out.1];exact HX7.out.blk.cell 3 rfl);have f3:w6.frozen? ⟨p,3,none⟩=false:=HX7.out.blk.free 3;have y4:w6.cell? ⟨p,4,none⟩=some (.int .u64 (lk.first:Int)):=HX7.out.blk.cell 4 rfl;have y2:w6.cell? ⟨p,2,none⟩=some (.slice (some ⟨sb,0,none⟩) (zr.length+2) sc):=by
           have e:w6.cell? ⟨p,2,none⟩=some (.slice (some ⟨sb,0,none⟩) lk.segs.length sc):=HX7.out.blk.cell 2 rfl;rw[HLS.out] at e;simpa using e
          have yb:w6.cell? ⟨sb,1,none⟩=some (.pointer (some ⟨zb.2.q,0,none⟩)):=HX7.out.lb.sv.get (j:=1) rfl;have y1:w6.cell? ⟨zb.2.q,1,none⟩=some (.int .u64 (zb.1.first:Int)):=(HX7.out.lb.sg zb (by simp)).blk.cell 1 rfl;refine zg hK ?_;clear hK K;iterate 2 (refine zd ?_)
          refine zh rfl (by rfl) (fun K hK=>?_)
          go_simp
          skip
          refine zg hK ?_;clear hK K;refine zk ?_;have HW7:=HX7.out.wideN (n:=wq.heap.size) (Nat.le_trans hB (Nat.le_trans hs5r hszq)) (fun b hb=>HXQ.out.lb.di.bnd b hb);have HS7:=HW7.setRecs (Y':=Y.drop k1) (fun y hy=>List.mem_of_mem_drop hy) (HO6.out.base_le (Nat.le_trans hB (Nat.le_trans hs5r hszq))) (fun b hb=>.inr (HO6.out.blk_lt b hb)) (n:=Y.length - k1) (by rw[List.length_drop]);rw[HRD.out] at HS7;have HFS:=qh HS7;have HFM:Hid (Mods (fun b=>S b\/F b) w (w6.setCell ⟨p,3,none⟩ (.slice A6 (Y.length - k1) c6))):=qh (HM7.out.trans ((Mods.refl (·=p) w6).setCell ⟨p,3,none⟩ (.inl rfl) (.slice A6 (Y.length - k1) c6)) (fun i hi=>by
           rw[hi];exact(HDB.out.ff p hF3.out).imp .inr id))
          have HFF:Hid (∀b,(F' b\/(wq.heap.size<=b/\b<w6.heap.size))->F b\/w.heap.size<=b):=qh (fun b hb=>hb.elim (HDB.out.ff b) (fun hb=>.inr (by omega)));clear HW7 HS7 HX7 HM7 HO6 HXQ HMQ y3 y4 y2 yb y1 f3 hb6 HX6 HM5;go_wp2_with fail
          go_meet
          exact⟨_,_,_,HFS,HFF,HFM⟩
         ·have hkI:¬(k1:Int)<(rc:Int):=(by omega);have hk0I:(0:Int)<=(k1:Int):=(by omega);have hknI:(k1:Int)<=(n1:Int):=(by omega);have HRV:Hid (RV w5 RA ((Y.drop k1).map recV)):=qh (by
           rw[List.drop_eq_nil_of_le (by omega)];exact⟨fun h=>absurd h (by simp)⟩)
          clear hn1 hk1d hYl hk1 hk0;refine zf (by kernel_rfl) [(0,none),(1,none),(2,none),(3,none),(4,none),(5,none),(6,none),(7,none),(8,none),(9,none),(10,none),(11,none),(12,none),(13,none),(14,none),(15,none),(16,none),(17,none),(18,none),(19,none),(20,some [19]),(21,none),(22,none),(23,some [0,1,2,3,4,5,6,7,8,9,10,11,12,13,14,15,16,17,18,19,22])] (by kernel_rfl) (by kernel_rfl) (by decide) ?_;intro wq hwq;have hBq:Below w5.heap.size w5 wq:=(by rw[hwq];exact(Below.refl _ _).drew);have HXQ:=qh (HX6.out.below hBq);have HMQ:Hid (Mods (fun b=>S b\/F b) w wq):=qh (HM5.out.below hBq);have hszq:w5.heap.size<=wq.heap.size:=hBq.size;clear hwq;have y3:wq.cell? ⟨p,3,none⟩=some (.slice RA n1 rc):=(by rw[HN1.out.1];exact HXQ.out.blk.cell 3 rfl);have y4:wq.cell? ⟨p,4,none⟩=some (.int .u64 (lk.first:Int)):=HXQ.out.blk.cell 4 rfl;have y2:wq.cell? ⟨p,2,none⟩=some (.slice (some ⟨sb,0,none⟩) (zr.length+2) sc):=by
           have e:wq.cell? ⟨p,2,none⟩=some (.slice (some ⟨sb,0,none⟩) lk.segs.length sc):=HXQ.out.blk.cell 2 rfl;rw[HLS.out] at e;simpa using e
          have yb:wq.cell? ⟨sb,1,none⟩=some (.pointer (some ⟨zb.2.q,0,none⟩)):=HXQ.out.lb.sv.get (j:=1) rfl;have y1:wq.cell? ⟨zb.2.q,1,none⟩=some (.int .u64 (zb.1.first:Int)):=(HXQ.out.lb.sg zb (by simp)).blk.cell 1 rfl;have CL:=qh (zbq RA (rc - k1) ((Y.drop k1).map recV) wq (HRV.out.below hBq) (zaE _) (by rw[List.length_map,List.length_drop,HN1.out.2.2];omega));rw[List.length_map,List.length_drop,HN1.out.2.2] at CL;iterate 4 (refine zd ?_)
          refine ze [(⟨p,3,none⟩,.slice RA n1 rc)] ?_;iterate 3 (refine zd ?_)
          refine ze [(⟨p,2,none⟩,.slice (some ⟨sb,0,none⟩) (zr.length+2) sc)] ?_;iterate 1 (refine zd ?_)
          refine ze [(⟨sb,1,none⟩,.pointer (some ⟨zb.2.q,0,none⟩))] ?_;iterate 2 (refine zd ?_)
          refine ze [(⟨zb.2.q,1,none⟩,.int .u64 (zb.1.first:Int))] ?_;iterate 3 (refine zd ?_)
          refine ze [(⟨p,4,none⟩,.int .u64 (lk.first:Int))] ?_;iterate 2 (refine zd ?_)
          refine zh rfl (by rfl) (fun K hK=>?_)
          go_simp
          rw[if_pos (show rc=k1 by omega)];refine CL.out.mono ?_;rintro e w6 ⟨A6,c6,n6,hn6,rfl,ho6,hb6⟩;have hn6':n6=Y.length - k1:=(by rw[hn6,List.length_map,List.length_drop]);subst hn6';have HX7:=qh (HXQ.out.below hb6);have HM7:Hid (Mods (fun b=>S b\/F b) w w6):=qh (HMQ.out.below hb6);have HO6:=qh ho6;clear y3 y4 y2 yb y1 hn6 ho6 CL;have y3:w6.cell? ⟨p,3,none⟩=some (.slice RA n1 rc):=(by rw[HN1.out.1];exact HX7.out.blk.cell 3 rfl);have f3:w6.frozen? ⟨p,3,none⟩=false:=HX7.out.blk.free 3;have y4:w6.cell? ⟨p,4,none⟩=some (.int .u64 (lk.first:Int)):=HX7.out.blk.cell 4 rfl;have y2:w6.cell? ⟨p,2,none⟩=some (.slice (some ⟨sb,0,none⟩) (zr.length+2) sc):=by
           have e:w6.cell? ⟨p,2,none⟩=some (.slice (some ⟨sb,0,none⟩) lk.segs.length sc):=HX7.out.blk.cell 2 rfl;rw[HLS.out] at e;simpa using e
          have yb:w6.cell? ⟨sb,1,none⟩=some (.pointer (some ⟨zb.2.q,0,none⟩)):=HX7.out.lb.sv.get (j:=1) rfl;have y1:w6.cell? ⟨zb.2.q,1,none⟩=some (.int .u64 (zb.1.first:Int)):=(HX7.out.lb.sg zb (by simp)).blk.cell 1 rfl;refine zg hK ?_;clear hK K;iterate 2 (refine zd ?_)
          refine zh rfl (by rfl) (fun K hK=>?_)
          go_simp
          skip
          refine zg hK ?_;clear hK K;refine zk ?_;have HW7:=HX7.out.wideN (n:=wq.heap.size) (Nat.le_trans hB (Nat.le_trans hs5r hszq)) (fun b hb=>HXQ.out.lb.di.bnd b hb);have HS7:=HW7.setRecs (Y':=Y.drop k1) (fun y hy=>List.mem_of_mem_drop hy) (HO6.out.base_le (Nat.le_trans hB (Nat.le_trans hs5r hszq))) (fun b hb=>.inr (HO6.out.blk_lt b hb)) (n:=Y.length - k1) (by rw[List.length_drop]);rw[HRD.out] at HS7;have HFS:=qh HS7;have HFM:Hid (Mods (fun b=>S b\/F b) w (w6.setCell ⟨p,3,none⟩ (.slice A6 (Y.length - k1) c6))):=qh (HM7.out.trans ((Mods.refl (·=p) w6).setCell ⟨p,3,none⟩ (.inl rfl) (.slice A6 (Y.length - k1) c6)) (fun i hi=>by
           rw[hi];exact(HDB.out.ff p hF3.out).imp .inr id))
          have HFF:Hid (∀b,(F' b\/(wq.heap.size<=b/\b<w6.heap.size))->F b\/w.heap.size<=b):=qh (fun b hb=>hb.elim (HDB.out.ff b) (fun hb=>.inr (by omega)));clear HW7 HS7 HX7 HM7 HO6 HXQ HMQ y3 y4 y2 yb y1 f3 hb6 HX6 HM5;go_wp2_with fail
          go_meet
          exact⟨_,_,_,HFS,HFF,HFM⟩
        case rest =>
         obtain⟨F7,A6,c6,HX7,HF7,HM7⟩:=hcut;have hsw:w.heap.size<=wc.heap.size:=HM7.out.size;clear HX6 HM5 hcapr hs5r;have HSD:Hid (∀b,S5 b->b<wc.heap.size):=qh (fun b hb=>HX7.out.lb.di.bnd b hb);go_upto_region 14 with fail;go_cut [] (fun wx=>∃(F8:Nat->Prop) (A8:Option Addr) (c8:Nat),Hid (LX B S5 F8 wx p g { lk with recs:=lk.recs.drop k1,segs:=zb.1::zr.map Prod.fst } q2.2.2 (zb::zr) (Y.drop k1) A8 c8 A6 c6)/\Hid (∀b,F8 b->F b\/w.heap.size<=b)/\Hid (Mods (fun b=>S b\/F b) w wx))
         case first =>
          have hcs:=HX7.out.lb.sv.cap;simp only[List.length_map,List.length_cons] at hcs;have hcI:(1:Int)<(sc:Int):=(by omega);have y2:wc.cell? ⟨p,2,none⟩=some (.slice (some ⟨sb,0,none⟩) (zr.length+2) sc):=by
           have e:wc.cell? ⟨p,2,none⟩=some (.slice (some ⟨sb,0,none⟩) lk.segs.length sc):=HX7.out.blk.cell 2 rfl;rw[HLS.out] at e;simpa using e
          have HRV:Hid (RV wc (some ⟨sb,1,none⟩) ((zb::zr).map ptrV)):=qh (zfd HX7.out.lb.sv.rv 1);have CL:=qh (zel (some ⟨sb,1,none⟩) (sc - 1) ((zb::zr).map ptrV) wc HRV.out (ptrs_one _) (by simp;omega));rw[List.length_map,List.length_cons] at CL;clear hcs;go_wp2_with (go_at_call 105;go_loud (refine CL.out.mono ?_));rintro e w8 ⟨A8,c8,n8,hn8,rfl,ho8,hb8⟩;have hn8':n8=zr.length+1:=(by rw[hn8,List.length_map,List.length_cons]);subst hn8';have HX8:=HX7.out.below hb8;have HW8:=HX8.wideN (n:=wc.heap.size) (Nat.le_trans hB hsw) HSD.out;have HS8:=HW8.setSegs (Z':=zb::zr) (List.sublist_cons_self _ _) (ho8.base_le (Nat.le_trans hB hsw)) (fun b hb=>.inr (ho8.blk_lt b hb)) (n:=zr.length+1) rfl;have HFS:Hid (LX B S5 (fun b=>F7 b\/(wc.heap.size<=b/\b<w8.heap.size)) (w8.setCell ⟨p,2,none⟩ (.slice A8 (zr.length+1) c8)) p g { lk with recs:=lk.recs.drop k1,segs:=zb.1::zr.map Prod.fst } q2.2.2 (zb::zr) (Y.drop k1) A8 c8 A6 c6):=qh HS8;have HFM:Hid (Mods (fun b=>S b\/F b) w (w8.setCell ⟨p,2,none⟩ (.slice A8 (zr.length+1) c8))):=qh ((HM7.out.below hb8).trans ((Mods.refl (·=p) w8).setCell ⟨p,2,none⟩ (.inl rfl) (.slice A8 (zr.length+1) c8)) (fun i hi=>by
           rw[hi];exact(HDB.out.ff p hF3.out).imp .inr id))
          have HFF:Hid (∀b,(F7 b\/(wc.heap.size<=b/\b<w8.heap.size))->F b\/w.heap.size<=b):=qh (fun b hb=>hb.elim (HF7.out b) (fun hb=>.inr (by omega)));have y2:w8.cell? ⟨p,2,none⟩=some (.slice (some ⟨sb,0,none⟩) (zr.length+2) sc):=by
           have e:w8.cell? ⟨p,2,none⟩=some (.slice (some ⟨sb,0,none⟩) lk.segs.length sc):=HX8.blk.cell 2 rfl;rw[HLS.out] at e;simpa using e
          have f2:w8.frozen? ⟨p,2,none⟩=false:=HX8.blk.free 2;clear HX8 HW8 HS8 hn8 ho8 hb8 CL HRV HX7 HM7 HF7;go_wp2_with fail
          go_meet
          exact⟨_,_,_,HFS,HFF,HFM⟩
         case rest =>
          obtain⟨F8,A8,c8,HX8,HF8,HM8⟩:=hcut;have hk9:Hid (F8 p):=qh HX8.out.fp;have HDB2:Hid (lk.down=false/\Dk.cnt+lk.segs.length<=500000/\lk.segs.length<=k+1/\lk.fineD):=qh ⟨HDB.out.up,HDB.out.cnt,HDB.out.fuel,HDB.out.fine⟩;clear HX7 HM7 HF7 hsw HSD HDB HRD;obtain⟨s8,rfl⟩:∃s8,A8=some ⟨s8,0,none⟩:=by
           rcases HX8.out.lb.sv.form with⟨_,_,h⟩ | ⟨s8,h,_⟩
           ·simp at h
           ·exact⟨s8,h⟩
          have y2:wc.cell? ⟨p,2,none⟩=some (.slice (some ⟨s8,0,none⟩) (zr.length+1) c8):=by
           have e:wc.cell? ⟨p,2,none⟩=some (.slice (some ⟨s8,0,none⟩) (zb.1::zr.map Prod.fst).length c8):=HX8.out.blk.cell 2 rfl;simpa using e
          have yb:wc.cell? ⟨s8,0,none⟩=some (.pointer (some ⟨zb.2.q,0,none⟩)):=HX8.out.lb.sv.get (j:=0) rfl;have y1:wc.cell? ⟨zb.2.q,1,none⟩=some (.int .u64 (zb.1.first:Int)):=(HX8.out.lb.sg zb (by simp)).blk.cell 1 rfl;have y4:wc.cell? ⟨p,4,none⟩=some (.int .u64 (lk.first:Int)):=HX8.out.blk.cell 4 rfl;have f4:wc.frozen? ⟨p,4,none⟩=false:=HX8.out.blk.free 4;have HX9:Hid (LX B S5 F8 (wc.setCell ⟨p,4,none⟩ (.int .u64 (zb.1.first:Int))) p g { lk with recs:=lk.recs.drop k1,segs:=zb.1::zr.map Prod.fst,first:=zb.1.first } q2.2.2 (zb::zr) (Y.drop k1) (some ⟨s8,0,none⟩) c8 A6 c6):=qh (HX8.out.set 4 (.int .u64 (zb.1.first:Int)) rfl rfl rfl);have HM9:Hid (Mods (fun b=>S b\/F b) w (wc.setCell ⟨p,4,none⟩ (.int .u64 (zb.1.first:Int)))):=qh (HM8.out.trans ((Mods.refl (·=p) wc).setCell ⟨p,4,none⟩ (.inl rfl) (.int .u64 (zb.1.first:Int))) (fun i hi=>by
           rw[hi];exact(HF8.out p hk9.out).imp .inr id))
          have HNX:Hid (DrpAt B S F w p g upto r (wc.setCell ⟨p,4,none⟩ (.int .u64 (zb.1.first:Int))) S5 F8 { lk with recs:=lk.recs.drop k1,segs:=zb.1::zr.map Prod.fst,first:=zb.1.first } q2.2.2 (zb::zr) (Y.drop k1) (some ⟨s8,0,none⟩) c8 A6 c6 k):=qh (by
           obtain⟨d1,d2,d3,d4⟩:=HDB2.out;have hls:=HLS.out;have hc:=HCH.out;have hnk:lk.next=lk.first+lk.recs.length:=rfl;have hnn:({ lk with recs:=lk.recs.drop k1,segs:=zb.1::zr.map Prod.fst,first:=zb.1.first }:Lg).next=lk.next:=by
            show zb.1.first+(lk.recs.drop k1).length=_;rw[List.length_drop];omega
           rw[hls] at d2 d3;simp only[List.length_cons] at d2 d3;refine⟨HX9.out,HS5.out,HF8.out,HM9.out,?_,by simp only[List.length_cons];omega,d1,?_,⟨fun s hs=>d4.nm s (by rw[hls];exact List.mem_cons_of_mem _ hs),by rw[hnn];exact d4.nx,?_,?_⟩,?_⟩
           ·exact HR6.out
           ·show SegsCh (zb.1::zr.map Prod.fst) zb.1.first _;rw[hnn];have h3:=hc.2.2;rw[<-hc.2.1] at h3;exact⟨rfl,by have:=(HX9.out.lb.sg zb (by simp)).pos;exact this,h3⟩
           ·have:=d4.sl;rw[hls] at this;simp only[List.length_cons] at this ⊢;omega
           ·show(lk.recs.drop k1).length<=_;rw[List.length_drop];have:=d4.rl;omega
           ·have:=HC6.out;simp only[List.length_cons];omega)
          have hms:Hid (∃X c,(wc.setCell ⟨p,4,none⟩ (.int .u64 (zb.1.first:Int))).cell? ⟨p,2,none⟩=some (.slice X (zr.length+1) c)):=qh ⟨_,_,by
           have e:(wc.setCell ⟨p,4,none⟩ (.int .u64 (zb.1.first:Int))).cell? ⟨p,2,none⟩=some (.slice (some ⟨s8,0,none⟩) (zb.1::zr.map Prod.fst).length c8):=HX9.out.blk.cell 2 rfl;rw[List.length_cons,List.length_map] at e;exact e⟩
          clear HX8 HM8 HF8 HX9 HM9 HDB2 HCH HR6 HC6;go_wp2_with fail;go_roundw
          case rel=>exact⟨_,_,_,_,_,_,_,_,_,_,_,HNX⟩
          case measure =>
           obtain⟨X,c,e⟩:=hms.out;simp only[e,HC2.out];omega
       ·have hqb:(q2.1 == 0)=false:=(by simpa using hq0);have HF:Hid (LDone B S F w p g (.int .i64 r.1) r.2.1 r.2.2 (.returned (.int .i64 q2.1)) w5):=qh (by
         rw[HRQ.out,if_pos hq0];exact⟨rfl,S5,F',⟨_,_,_,_,_,_,HX5.out⟩,HS5.out,HDB.out.ff,HM5.out⟩)
        clear HX5 HM5 HS5 HDB HRQ HQ2 hq0;go_wp2_with fail;go_ret;exact HF.out
      ·have hleI:¬(zb.1.first:Int)<=(upto:Int):=(by omega);have HF:Hid (LDone B S F w p g (.int .i64 r.1) r.2.1 r.2.2 (.returned (.int .i64 0)) wr):=qh (by
        rw[hdone (fun a b t e=>by rw[hls] at e;injection e with _ e;injection e with e _;rw[<-e];exact hle)];exact⟨rfl,S',F',⟨_,_,_,_,_,_,hda.lx⟩,hda.ss,hda.ff,hda.mods⟩)
       clear hda HDA hlz hch hdone hls ha hb a0 ca;go_wp2_with fail;go_ret;exact HF.out
   ·have hqb:(q.1 == 0)=false:=(by simpa using hq0);have HF:Hid (LDone B S F w p g (.int .i64 r.1) r.2.1 r.2.2 (.returned (.int .i64 q.1)) w3):=qh (by
     rw[HR.out,if_pos hq0];exact⟨rfl,S3,F,⟨_,_,_,_,_,_,HX3.out⟩,HS3.out,fun b hb=>.inl hb,HM3.out⟩)
    clear HX3 HS3 HM3 HR HQ HX hq0;go_wp2_with fail;go_ret;exact HF.out
end
theorem zfo:(Tryz.prog.info? 9).map (fun i=>(i.zero,i.size,i.bytes))=some (some (.string ⟨#[]⟩),1,16):=by kernel_rfl
section
variable {B p g sc rc:Nat} {S F F' T:Nat->Prop} {w w' wr:World} {l l':Lg} {D D':DSt} {Z Z' Z1 Z2:List (Sg × Pl)} {Y Y':List (List UInt8 × Option Addr × Nat)} {SA RA SA' RA':Option Addr} {s s':Sg} {z:Pl} {sc' rc' n:Nat}
end
end Go.Proofs.YtobdmlejabjmiaaGreatDoor
namespace Go.Proofs.YtobdmlejabjmiaaGreatDoor
open Go.Lib
theorem zdE(D:DSt)(u:Wr):({ D with unsure:=D.unsure++[u] }:DSt).files=doF D.files u:=by
 unfold DSt.files;rw[List.foldl_append]
 rfl
section
variable {D:DSt} {c:Nat} {f:Nm} {x:List UInt8} {off:Nat} {l:Lg}
end
section
variable {L:List (List UInt8)} {n c:Nat} {l:Lg} {D:DSt}
end
end Go.Proofs.YtobdmlejabjmiaaGreatDoor
