/- Made small by a program. -/
import Derived.Test.YtobdmlejabjmiaaGreatDoorZc15
set_option maxRecDepth 20000
set_option maxHeartbeats 8000000
namespace Go.Proofs.YtobdmlejabjmiaaGreatDoor
open Go.RowKit
theorem zb8(A:Option Addr)(c:Nat)(b:List UInt8)(i:Int)(w:World)(h:RB w A b)(hc:b.length<=c)(hm:c<=9223372036854775807)(hl:b.length<=210000000000000)(hi:-9223372036854775808<=i/\i<=9223372036854775807) :
  Calls Tryz.prog 168 #[.slice A b.length c,.int .i64 i] w (DatO b.length (bytesAt b i) w):=by
 have N:=qh (zaO A c b i w h hc hm hl hi);obtain⟨r1,r2,r3,r4,r5,r6⟩:=yS b i;have HO:=qh (fun h=>jr (b:=b) (i:=i) h);have HE:=qh (fun h=>zb4 (b:=b) (i:=i) h);have HS:=qh (fun h hs=>zaL (b:=b) (i:=i) h hs);have HY:=qh (fun h hs=>zb6 (b:=b) (i:=i) h hs);unfold NumE at N;generalize (numAt b i).1=n at *;generalize (numAt b i).2.1=f at *;generalize (numAt b i).2.2=er at *;generalize bytesAt b i=p at *;by_cases her:er=0
 ·obtain⟨hi0,hf1,_⟩:=HO.out her;subst her;by_cases hs:(b.length:Int)<f+n
  ·have HP:=qh (HS.out rfl hs);clear HO HE HS HY;go_enter Tryz.func168,Tryz.ntmps168;go_wp2_with fail;refine N.out.mono ?_;rintro e w' ⟨rfl,rfl⟩;go_wp2_with fail
   go_ret3
   exact xp HP.out (Below.refl _ _)
  ·have HP:=qh (HY.out rfl hs);clear HO HE HS HY;obtain⟨f,rfl⟩:=Int.eq_ofNat_of_zero_le r3;obtain⟨n,rfl⟩:=Int.eq_ofNat_of_zero_le r1;have hA:∃bb off,A=some ⟨bb,off,none⟩:=by
    obtain⟨bb,off,e,_⟩:=h.at_ (by omega);exact⟨bb,off,e⟩
   obtain⟨bb,off,rfl⟩:=hA;have hlen:((b.drop f).take n).length=n:=(by rw[List.length_take,List.length_drop];omega);have hpart:=h.partR f n;by_cases hfc:f<c
   ·have C:=qh (fun A' (hA':RB w A' ((b.drop f).take n))=>zaN A' (c - f) n _ hlen w hA' (by omega));have C1:=qh (C.out _ hpart);clear hlen hpart C;go_enter Tryz.func168,Tryz.ntmps168;go_wp2_with fail;refine N.out.mono ?_;rintro e w' ⟨rfl,rfl⟩;go_wp2_with fail;refine C1.out.mono ?_;rintro e w2 ⟨k,A2,c2,hk,hk1,hk2,rfl,ho2,hb2⟩;go_wp2_with fail
    go_ret3
    exact jV (k:=k) (by rw[HP.out,hk.out];simp) (by simp at hk1;omega) ho2 hb2
   ·obtain rfl:f=c:=(by omega);obtain rfl:n=0:=(by omega);have C1:=qh (zaN (some ⟨bb,off,none⟩) 0 0 [] rfl w RB.nil (by omega));clear hlen hpart;go_enter Tryz.func168,Tryz.ntmps168;go_wp2_with fail;refine N.out.mono ?_;rintro e w' ⟨rfl,rfl⟩;go_wp2_with fail;refine C1.out.mono ?_;rintro e w2 ⟨k,A2,c2,hk,hk1,hk2,rfl,ho2,hb2⟩;go_wp2_with fail
    go_ret3
    exact jV (k:=k) (by rw[HP.out,hk.out];simp) (by rw[hk.out];simp) ho2 hb2
 ·have hne:(er != 0)=true:=by simpa using her
  have HP:=qh (HE.out her);clear HO HE HS HY her;go_enter Tryz.func168,Tryz.ntmps168;go_wp2_with fail;refine N.out.mono ?_;rintro e w' ⟨rfl,rfl⟩;go_wp2_with fail
  go_ret3
  exact xp HP.out (Below.refl _ _)
section
variable {w w':World}
theorem zdx{b:List UInt8}{i:Int}(h:(bytesAt b i).2.2=0):inB b ((bytesAt b i).2.1,false):=by
 unfold bytesAt at h ⊢;split at h
 ·rename_i h1;split at h
  ·rename_i h2;rw[if_pos h1,if_pos h2];have r:=yS b i;have k:=jr h1;exact⟨by simp only;omega,by simp only;omega⟩
  ·exact absurd h (by decide)
 ·rename_i h1;exact absurd h h1
theorem inData(o:Nat)(b:List UInt8)(A:Option Addr)(c:Nat)(s:Int × Bool)(w:World)(h:InAt o w b A c s) :
  Calls Tryz.prog 113 #[.pointer (some ⟨o,0,none⟩)] w fun e w'=>∃X xc,e=.returned (.slice X (rdat b s).1.length xc)/\OB w' w.heap.size X xc (rdat b s).1/\InAt o w' b A c (rdat b s).2/\Mods (·=o) w w':=by
 obtain⟨p,bad⟩:=s;have c2:=h.blk.cell 2 (v:=.bool bad) rfl;have H0:=qh h;have hlo:=h.blk.lt;cases bad with
 | true =>
  have e:rdat b (p,true)=([],(p,true)):=rfl;rw[e];clear h e;go_enter Tryz.func113,Tryz.ntmps113;go_wp2_with fail;go_ret;exact⟨none,0,rfl,OB.nil _ _,H0.out,Mods.refl _ _⟩
 | false =>
  obtain⟨q,hq⟩:∃q,q=bytesAt b p:=⟨_,rfl⟩;have HQ:Hid (rdat b (p,false)=if q.2.2=0 then(q.1,(q.2.1,false)) else([],(p,true))):=qh (by unfold rdat;rw[hq];rfl);have HOK:Hid (q.2.2=0->inB b (q.2.1,false)):=qh (fun h0=>by rw[hq] at h0 ⊢;exact zdx h0);have BY:Hid (∀wx,Below w.heap.size w wx->Calls Tryz.prog 168 #[.slice A b.length c,.int .i64 p] wx (DatO b.length q wx)):=qh (fun wx hb=>by
   rw[hq];have hp:=h.pos;have hlen:=h.len;exact zb8 A c b p wx (h.rb.below hb) h.cap.1 h.cap.2 h.len (by have:=hp.1;have:=hp.2;simp only at *;omega))
  obtain⟨dt,nx,er⟩:=q;clear h hq;go_enter Tryz.func113,Tryz.ntmps113;go_wp2_with fail;refine zf (by kernel_rfl) [(0,none),(1,none),(2,none),(3,none),(4,none),(5,none),(6,none),(7,none),(8,some [3,7]),(9,none),(10,none),(11,none),(12,none),(13,none),(14,none),(15,none)] (by kernel_rfl) (by kernel_rfl) (by decide) ?_;intro wq hwq;have hb:Below w.heap.size w wq:=by rw[hwq];exact(Below.refl _ _).drew
  have hI:=H0.out.below hb;have c0:=hI.blk.cell 0 (v:=.slice A b.length c) rfl;have c1:=hI.blk.cell 1 (v:=.int .i64 p) rfl;have HB:=qh hb;clear hwq hb hI;iterate 3 (refine zd ?_)
  refine ze [(⟨o,0,none⟩,.slice A b.length c)] ?_;iterate 3 (refine zd ?_)
  refine ze [(⟨o,1,none⟩,.int .i64 p)] ?_;refine zh rfl (by rfl) (fun K hK=>?_)
  go_simp
  refine(BY.out wq HB.out).mono ?_;rintro e w2 ⟨k,A2,a2,hk,hkl,rfl,ho,hb2⟩;have HK:=hk;have HOB:=qh (ho.base_le HB.out.size);have HB2:=qh (HB.out.trans (hb2.mono HB.out.size));clear hk ho hb2 c0 c1 HB BY;refine zg hK ?_;clear hK K;iterate 7 (refine zd ?_)
  refine zk ?_;have hI2:=H0.out.below HB2.out;have f1:=hI2.blk.free 1;have f2:=hI2.blk.free 2;have g1:=hI2.blk.cell 1 (v:=.int .i64 p) rfl;have g2:=hI2.blk.cell 2 (v:=.bool false) rfl;have HI2:=qh hI2;have hkd:Hid (k=dt):=qh HK.out;clear hI2 c2;by_cases h0:er=0
  ·subst h0;have HP:=HOK.out rfl;go_wp2_with fail;go_ret;obtain⟨x1,x2⟩:=HI2.out.set1 HP;have e:rdat b (p,false)=(dt,(nx,false)):=(by rw[HQ.out];rfl);rw[e];rw[hkd.out] at HOB ⊢;exact⟨A2,a2,rfl,HOB.out.setCell (a:=⟨o,1,none⟩) hlo _,x1,(Mods.of_below (S:=(·=o)) HB2.out).then x2⟩
  ·have hb0:(er == 0)=false:=(by simpa using h0);go_wp2_with fail;go_ret;obtain⟨x1,x2⟩:=HI2.out.set2 true;have e:rdat b (p,false)=([],(p,true)):=(by rw[HQ.out];exact if_neg h0);rw[e];exact⟨none,0,rfl,OB.nil _ _,x1,(Mods.of_below (S:=(·=o)) HB2.out).then x2⟩
end
def confV(b:List UInt8)(s:Int × Bool):List Int:=(rids b s).1
def confL(b:List UInt8)(s:Int × Bool):List Int:=(rids b (rids b s).2).1
def confS(b:List UInt8)(s:Int × Bool):Int × Bool:=(rids b (rids b s).2).2
def confOk(b:List UInt8):Bool:=!(confS b (0,false)).2 && decide ((confS b (0,false)).1=(b.length:Int)) && confB (confV b (0,false)) (confL b (0,false))
theorem za6{b:List UInt8}{s:Int × Bool}(h:inB b s):(rids b s).1.length<=16/\inB b (rids b s).2:=by
 have h1:=zdm h (m:=16) (by decide);have h2:=za7 (x:=([],(rup b 16 s).2)) h1.1 (rup b 16 s).1.toNat;unfold rids;refine⟨?_,h2.1⟩;rw[h2.2];simp only[List.length_nil];omega
section
variable {w w':World}
theorem zcT(o:Nat)(b:List UInt8)(A:Option Addr)(c:Nat)(s:Int × Bool)(w:World)(h:InAt o w b A c s) :
  Calls Tryz.prog 164 #[.pointer (some ⟨o,0,none⟩)] w fun e w'=>∃V vc L lc,e=.returned (.agg #[.slice V (confV b s).length vc,.slice L (confL b s).length lc])/\OV w' w.heap.size 3 V vc (ncells .i64 (confV b s))/\OV w' w.heap.size 3 L lc (ncells .i64 (confL b s))/\InAt o w' b A c (confS b s)/\Mods (·=o) w w':=by
 have hal:Below w.heap.size w (w.alloc (.cells #[.slice none 0 0,.slice none 0 0] 33)):=(Below.refl _ _).alloc (Nat.le_refl _) _;have Z:=qh (Blk.new w #[.slice none 0 0,.slice none 0 0] 33);have hlo:=h.blk.lt;have HAB:Hid (0<b.length->∀k,A.map (·.block)=some k->k<w.heap.size):=qh (fun h0=>h.rb.blk_lt h0);have I1:=qh (inIds o b A c s _ (h.below hal));have hws:(w.alloc (.cells #[.slice none 0 0,.slice none 0 0] 33)).heap.size=w.heap.size+1:=by simp
 have HWS:=qh hws;have HAL:=qh hal;clear h hal hws;go_enter Tryz.func164,Tryz.ntmps164;go_wp2_with fail;refine I1.out.mono ?_;rintro e w1 ⟨V,vc,rfl,o1,h1,m1⟩;have I2:=qh (inIds o b A c _ w1 h1);have hsz1:=m1.size;rw[HWS.out] at o1 hsz1;have Z1:=qh (Z.out.mods m1 (by omega));have M1:=qh ((Mods.of_below (S:=(·=o)) HAL.out).then m1);have O1:=qh o1;clear I1 o1 h1 m1 HAL Z;go_wp2_with fail;refine I2.out.mono ?_;rintro e w2 ⟨L,lc,rfl,o2,h2,m2⟩;have Z2:=qh (Z1.out.mods m2 (by omega));have M2:=qh (M1.out.then m2);have P1:=qh (O1.out.mods m2 (fun k hk e=>by have:=(O1.out.blk_lt k hk).1;omega));have P2:=qh (o2.base_le hsz1);have H2:=qh h2;clear I2 o2 h2 m2 M1 O1 Z1;go_wp2_with (refine wpList_store_row rfl 33 (.tmp 2) (.tmp 7) rfl w.heap.size #[.slice V (rids b s).1.length vc,.slice L (rids b (rids b s).2).1.length lc] rfl rfl _ _ Z2.out zt rfl (by simp[Value.oneCell']) ?_);have Y:=Z2.out.setRow #[.slice V (rids b s).1.length vc,.slice L (rids b (rids b s).2).1.length lc];refine bodyPost_ret (v:=.agg #[.slice V (rids b s).1.length vc,.slice L (rids b (rids b s).2).1.length lc]) (results_cell_row rfl _ _ w.heap.size 33 #[.slice V (rids b s).1.length vc,.slice L (rids b (rids b s).2).1.length lc] (0,0) _ rfl Y Tryz.underlying33 rfl zt) rfl ?_;have ms:=(Mods.refl (·=w.heap.size) w2).setRow w.heap.size (.inl rfl) #[.slice V (rids b s).1.length vc,.slice L (rids b (rids b s).2).1.length lc];have p1:=P1.out.mods ms (fun k hk e=>by have:=(P1.out.blk_lt k hk).1;omega);have p2:=P2.out.mods ms (fun k hk e=>by have:=(P2.out.blk_lt k hk).1;omega);exact⟨V,vc,L,lc,rfl,OV.base_le p1 (by omega),OV.base_le p2 (by omega),H2.out.mods ms (by omega) (fun h0 k hk e=>by have:=HAB.out h0 k hk;omega),M2.out.trans ms (fun i e=>.inr (by omega))⟩
theorem zem(A:Option Addr)(c:Nat)(b:List UInt8)(w:World)(h:RB w A b)(hc:b.length<=c/\c<=9223372036854775807)(hl:b.length<=210000000000000)(r:Bool)(hr:confOk b=r) :
  Calls Tryz.prog 231 #[.agg kConf,.slice A b.length c] w fun e w'=>∃V vc L lc n m k,e=.returned (.tuple #[.agg #[.slice V n vc,.slice L m lc],.int .i64 k])/\(k=0 ↔ r=true)/\Below w.heap.size w w':=by
 have hal:Below w.heap.size w (((w.alloc (.cells kConf 174)).alloc (.cells #[.slice none 0 0,.slice none 0 0] 33)).alloc (.cells #[.slice A b.length c,.int .i64 0,.bool false] 236)):=(((Below.refl _ _).alloc (Nat.le_refl _) _).alloc (by simp) _).alloc (by first | (simp;done) | (simp;omega)) _;have z1:=(Blk.new w kConf 174).below (((Below.refl (w.heap.size+1) _).alloc (by simp) (.cells #[.slice none 0 0,.slice none 0 0] 33)).alloc (by simp) (.cells #[.slice A b.length c,.int .i64 0,.bool false] 236)) (Nat.lt_succ_self _);have hs1:(w.alloc (.cells kConf 174)).heap.size=w.heap.size+1:=by simp
 have hs2:((w.alloc (.cells kConf 174)).alloc (.cells #[.slice none 0 0,.slice none 0 0] 33)).heap.size=w.heap.size+2:=by simp
 have hs3:(((w.alloc (.cells kConf 174)).alloc (.cells #[.slice none 0 0,.slice none 0 0] 33)).alloc (.cells #[.slice A b.length c,.int .i64 0,.bool false] 236)).heap.size=w.heap.size+3:=by simp
 have z2:=(Blk.new (w.alloc (.cells kConf 174)) #[.slice none 0 0,.slice none 0 0] 33);rw[hs1] at z2;have z2':=z2.below ((Below.refl (w.heap.size+2) _).alloc (by rw[hs2];exact Nat.le_refl _) (.cells #[.slice A b.length c,.int .i64 0,.bool false] 236)) (by omega);have z3:=Blk.new ((w.alloc (.cells kConf 174)).alloc (.cells #[.slice none 0 0,.slice none 0 0] 33)) #[.slice A b.length c,.int .i64 0,.bool false] 236;rw[hs2] at z3;have hI:InAt (w.heap.size+2) _ b A c (0,false):=⟨z3,h.below hal,fun h0 k hk e=>by have:=h.blk_lt h0 k hk;omega,⟨by decide,by simp⟩,hc,hl⟩;have CR:=qh (zcT _ b A c _ _ hI);have k2:=z1.cell 2 rfl;have HZ:=qh (And.intro z1 z2');have HAL:=qh hal;have HS3:=qh hs3;have HR:=qh hr;clear h hal z1 z2 z2' z3 hI hs1 hs2 hs3 hr;unfold kConf at *;go_enter Tryz.func231,Tryz.ntmps231;go_wp2_with fail;refine CR.out.mono ?_;rintro e w1 ⟨V,vc,L,lc,rfl,o1,o2,hI,m1⟩;rw[HS3.out] at o1 o2;have hsz:=m1.size;rw[HS3.out] at hsz;have y1:=HZ.out.1.mods m1 (by omega);have y2:=HZ.out.2.mods m1 (by omega);have hb1:=Mods.old HAL.out m1 HAL.out.size (fun i _ e=>by subst e;omega);have Y2:=qh y2;have X2:=qh (y2.setRow #[.slice V (confV b (0,false)).length vc,.slice L (confL b (0,false)).length lc]);have X1:=qh (y1.setRow_other (k:=w.heap.size+1) #[.slice V (confV b (0,false)).length vc,.slice L (confL b (0,false)).length lc] (by omega));have HB:=qh (below_setRow (g:=w.heap.size+1) hb1 (by omega) #[.slice V (confV b (0,false)).length vc,.slice L (confL b (0,false)).length lc]);have ms:=(Mods.refl (·=w.heap.size+1) w1).setRow (w.heap.size+1) (.inl rfl) #[.slice V (confV b (0,false)).length vc,.slice L (confL b (0,false)).length lc];have p1:=o1.mods ms (fun k hk e=>by have:=(o1.blk_lt k hk).1;omega);have p2:=o2.mods ms (fun k hk e=>by have:=(o2.blk_lt k hk).1;omega);have i1:=hI.blk.setRow_other (k:=w.heap.size+1) #[.slice V (confV b (0,false)).length vc,.slice L (confL b (0,false)).length lc] (by omega);obtain⟨s,hs⟩:∃s,s=confS b (0,false):=⟨_,rfl⟩;obtain⟨v,hv⟩:∃v,v=confV b (0,false):=⟨_,rfl⟩;obtain⟨l,hlv⟩:∃l,l=confL b (0,false):=⟨_,rfl⟩;have HOK:Hid (r=(!s.2 && decide (s.1=(b.length:Int)) && confB v l)):=qh (by rw[<-HR.out,hs,hv,hlv];rfl);rw[<-hs] at i1;rw[<-hv,<-hlv] at X1 X2 HB i1 p1 p2 ms ⊢;have hvl:v.length<=16:=by rw[hv];exact(za6 (b:=b) (s:=(0,false)) ⟨by decide,by simp⟩).1
 have hll:l.length<=16:=by rw[hlv];exact(za6 (za6 (b:=b) (s:=(0,false)) ⟨by decide,by simp⟩).2).1
 obtain⟨w2,hw2⟩:∃w2,w2=w1.setRow (w.heap.size+1) #[.slice V v.length vc,.slice L l.length lc]:=⟨_,rfl⟩;rw[<-hw2] at X1 X2 HB i1 p1 p2;have HW2:=qh hw2.symm;obtain⟨rc,hrc⟩:∃rc,rc=confB v l:=⟨_,rfl⟩;have SO:=qh (zbC V L vc lc v l w2 p1.rv p2.rv (by omega) (by omega) rc hrc.symm);have HF:Hid (r=(!s.2 && decide (s.1=(b.length:Int)) && rc)):=qh (by rw[HOK.out,hrc]);have c2:=i1.cell 2 (v:=.bool s.2) rfl;have c1:=i1.cell 1 (v:=.int .i64 s.1) rfl;have k0:=X1.out.cell 0 rfl;obtain⟨p,bad⟩:=s;simp only at c1 c2;clear hs hv hlv hrc HOK hw2 CR o1 o2 hI m1 y1 y2 hb1 ms p1 p2 i1 k2 HR;cases bad with
 | true =>
  have HF':Hid (r=false):=qh (by rw[HF.out];simp);have T7:=qh (Blk.new w2 #[.slice none 0 0,.slice none 0 0] 33);have hb3:Below w2.heap.size w2 (w2.alloc (.cells #[.slice none 0 0,.slice none 0 0] 33)):=(Below.refl _ _).alloc (Nat.le_refl _) _;have X3:=qh (X2.out.kept hb3);have HB3:=qh (HB.out.trans (hb3.mono HB.out.size));clear hb3;go_wp2_with (first
   | (refine wpList_store_row rfl 33 (.tmp 4) (.tmp 14) rfl (w.heap.size+1) #[.slice V v.length vc,.slice L l.length lc] rfl rfl _ _ Y2.out zt rfl (by simp[Value.oneCell']) ?_;rw[HW2.out])
   | (refine wpList_store_row rfl 33 (.tmp 4) (.tmp 35) rfl (w.heap.size+1) #[.slice none 0 0,.slice none 0 0] rfl rfl _ _ X3.out zt rfl (by simp[Value.oneCell']) ?_))
  have Y:=X3.out.setRow #[.slice none 0 0,.slice none 0 0];have y0:=Y.cell 0 rfl;have y1:=Y.cell 1 rfl;refine bodyPost_ret (v:=.tuple #[.agg #[.slice none 0 0,.slice none 0 0],.int .i64 4]) (by simp[results,Tryz.results231,go_sem,y0,y1]) rfl ?_;exact⟨none,0,none,0,0,0,4,rfl,by rw[HF'.out];simp,below_setRow (g:=w.heap.size+1) HB3.out (by omega) _⟩
 | false =>
  by_cases hp:p=(b.length:Int)
  ·have hpb:(p != (b.length:Int))=false:=(by simpa using hp);have HF':Hid (r=rc):=qh (by rw[HF.out];simp[hp]);have x0:=X2.out.cell 0 (v:=.slice V v.length vc) rfl;have x1:=X2.out.cell 1 (v:=.slice L l.length lc) rfl;clear HF hp;go_wp2_with (refine wpList_store_row rfl 33 (.tmp 4) (.tmp 14) rfl (w.heap.size+1) #[.slice V v.length vc,.slice L l.length lc] rfl rfl _ _ Y2.out zt rfl (by simp[Value.oneCell']) ?_;rw[HW2.out]);refine SO.out.mono ?_;rintro e w3 ⟨rfl,b3⟩;have X3:=qh (X2.out.kept b3);have HB3:=qh (HB.out.trans (b3.mono HB.out.size));clear SO b3 x0 x1 X2 HB;cases rc with
   | true =>
    have x0:=X3.out.cell 0 (v:=.slice V v.length vc) rfl;have x1:=X3.out.cell 1 (v:=.slice L l.length lc) rfl;go_wp2_with (refine wpList_store_row rfl 33 (.tmp 4) (.tmp 36) rfl (w.heap.size+1) #[.slice V v.length vc,.slice L l.length lc] rfl rfl _ _ X3.out zt rfl (by simp[Value.oneCell']) ?_);have Y:=X3.out.setRow #[.slice V v.length vc,.slice L l.length lc];have y0:=Y.cell 0 rfl;have y1:=Y.cell 1 rfl;refine bodyPost_ret (v:=.tuple #[.agg #[.slice V v.length vc,.slice L l.length lc],.int .i64 0]) (by simp[results,Tryz.results231,go_sem,y0,y1]) rfl ?_;exact⟨V,vc,L,lc,v.length,l.length,0,rfl,by rw[HF'.out];simp,below_setRow (g:=w.heap.size+1) HB3.out (by omega) _⟩
   | false =>
    have hb4:Below w3.heap.size w3 (w3.alloc (.cells #[.slice none 0 0,.slice none 0 0] 33)):=(Below.refl _ _).alloc (Nat.le_refl _) _;have X4:=qh (X3.out.kept hb4);have HB4:=qh (HB3.out.trans (hb4.mono HB3.out.size));clear hb4;go_wp2_with (refine wpList_store_row rfl 33 (.tmp 4) (.tmp 35) rfl (w.heap.size+1) #[.slice none 0 0,.slice none 0 0] rfl rfl _ _ X4.out zt rfl (by simp[Value.oneCell']) ?_);have Y:=X4.out.setRow #[.slice none 0 0,.slice none 0 0];have y0:=Y.cell 0 rfl;have y1:=Y.cell 1 rfl;refine bodyPost_ret (v:=.tuple #[.agg #[.slice none 0 0,.slice none 0 0],.int .i64 4]) (by simp[results,Tryz.results231,go_sem,y0,y1]) rfl ?_;exact⟨none,0,none,0,0,0,4,rfl,by rw[HF'.out];simp,below_setRow (g:=w.heap.size+1) HB4.out (by omega) _⟩
  ·have hpb:(p != (b.length:Int))=true:=(by simpa using hp);have HF':Hid (r=false):=qh (by rw[HF.out];simp[hp]);have hb3:Below w2.heap.size w2 (w2.alloc (.cells #[.slice none 0 0,.slice none 0 0] 33)):=(Below.refl _ _).alloc (Nat.le_refl _) _;have X3:=qh (X2.out.kept hb3);have HB3:=qh (HB.out.trans (hb3.mono HB.out.size));clear hb3 hp;go_wp2_with (first
    | (refine wpList_store_row rfl 33 (.tmp 4) (.tmp 14) rfl (w.heap.size+1) #[.slice V v.length vc,.slice L l.length lc] rfl rfl _ _ Y2.out zt rfl (by simp[Value.oneCell']) ?_;rw[HW2.out])
    | (refine wpList_store_row rfl 33 (.tmp 4) (.tmp 35) rfl (w.heap.size+1) #[.slice none 0 0,.slice none 0 0] rfl rfl _ _ X3.out zt rfl (by simp[Value.oneCell']) ?_))
   have Y:=X3.out.setRow #[.slice none 0 0,.slice none 0 0];have y0:=Y.cell 0 rfl;have y1:=Y.cell 1 rfl;refine bodyPost_ret (v:=.tuple #[.agg #[.slice none 0 0,.slice none 0 0],.int .i64 4]) (by simp[results,Tryz.results231,go_sem,y0,y1]) rfl ?_;exact⟨none,0,none,0,0,0,4,rfl,by rw[HF'.out];simp,below_setRow (g:=w.heap.size+1) HB3.out (by omega) _⟩
end
theorem zB:(Tryz.prog.info? 44).map (·.size)=some 5:=by kernel_rfl
theorem qo:(Tryz.prog.info? 226).map (·.size)=some 3:=by kernel_rfl
abbrev kEntry:Array Value:=#[.func (.func 192) #[] #[],.func (.func 194) #[] #[],.func (.func 195) #[] #[]]
structure En where
 idx:Nat
 term:Nat
 kind:Int
 delta:Int
 dat:List UInt8
abbrev enC(i t:Nat)(k d:Int)(x:List UInt8)(D:Option Addr)(dc:Nat):Array Value:=#[.int .u64 (i:Int),.int .u64 (t:Int),.int .i64 k,.int .i64 d,.slice D x.length dc]
def enB(i t:Nat)(k d:Int)(x:List UInt8):Bool :=
 decide (1<=i) && decide (1<=t) && decide (i<=4611686018427387904) && decide (t<=4611686018427387904) && decide (0<=d) && decide (d<=1099511627776) && decide (x.length<=4096) &&
  (if k=1 then decide (x.length=0) else if k=3 then confOk x else decide (k=2))
def enBytes(i t:Nat)(k d:Int)(x:List UInt8):List UInt8:=putNums [(i:Int),(t:Int),k,d]++putB x
section
variable {w w':World}
theorem zeQ(A:Option Addr)(c:Nat)(b:List UInt8)(w:World)(h:RB w A b)(hc:b.length<=c/\c<=9223372036854775807)(hl:b.length<=210000000000000)(r:Bool)(hr:confOk b=r) :
  Calls Tryz.prog 193 #[.slice A b.length c] w fun e w'=>∃V vc L lc n m k,e=.returned (.tuple #[.agg #[.slice V n vc,.slice L m lc],.int .i64 k])/\(k=0 ↔ r=true)/\Below w.heap.size w w':=by
 have hal:Below w.heap.size w (w.alloc (.cells #[.slice none 0 0,.slice none 0 0] 33)):=(Below.refl _ _).alloc (Nat.le_refl _) _;have Z:=qh (Blk.new w #[.slice none 0 0,.slice none 0 0] 33);have CF:=qh (zc5 (w.alloc (.cells #[.slice none 0 0,.slice none 0 0] 33)));have HRB:=qh h;have HAL:=qh hal;clear h hal;go_enter Tryz.func193,Tryz.ntmps193;go_wp2_with fail;refine CF.out.mono ?_;rintro e w1 ⟨rfl,b1⟩;have hb1:=zn HAL.out b1;have CV:=qh (zem A c b w1 (HRB.out.below hb1) hc hl r hr);have Z1:=qh (Z.out.kept b1);have HB1:=qh hb1;clear b1 hb1 CF Z HAL;go_wp2_with fail;refine CV.out.mono ?_;rintro e w2 ⟨V,vc,L,lc,n,m,k,rfl,hk,b2⟩;have Z2:=qh (Z1.out.kept b2);have HB2:=qh (HB1.out.trans (b2.mono HB1.out.size));clear b2 CV Z1 HB1;go_wp2_with (refine wpList_store_row rfl 33 (.tmp 2) (.tmp 7) rfl w.heap.size #[.slice V n vc,.slice L m lc] rfl rfl _ _ Z2.out zt rfl (by simp[Value.oneCell']) ?_);have Y:=Z2.out.setRow #[.slice V n vc,.slice L m lc];have y0:=Y.cell 0 rfl;have y1:=Y.cell 1 rfl;refine bodyPost_ret (v:=.tuple #[.agg #[.slice V n vc,.slice L m lc],.int .i64 k]) (by simp[results,Tryz.results193,go_sem,y0,y1]) rfl ?_;exact⟨V,vc,L,lc,n,m,k,rfl,hk,below_setRow HB2.out (Nat.le_refl _) _⟩
theorem zat(i t:Nat)(k d:Int)(x:List UInt8)(D:Option Addr)(dc:Nat)(w:World)(h:RB w D x)(hc:x.length<=dc/\dc<=9223372036854775807)(r:Bool)(hr:enB i t k d x=r) :
  Calls Tryz.prog 192 #[.agg (enC i t k d x D dc)] w fun e w'=>e=.returned (.bool r)/\Below w.heap.size w w':=by
 have hal:Below w.heap.size w (w.alloc (.cells (enC i t k d x D dc) 44)):=(Below.refl _ _).alloc (Nat.le_refl _) _;have HRB:=qh (h.below hal);have HAL:=qh hal;have HR:=qh hr;have Z:=qh (Blk.new w (enC i t k d x D dc) 44);clear h hal hr;unfold enC at *;by_cases g1:i<1
 ·have HF:Hid (r=false):=qh (by rw[<-HR.out];unfold enB;simp;omega);go_enter Tryz.func192,Tryz.ntmps192;go_wp2_with fail;go_ret;exact⟨by rw[HF.out];rfl,HAL.out⟩
 by_cases g2:t<1
 ·have HF:Hid (r=false):=qh (by rw[<-HR.out];unfold enB;simp;omega);go_enter Tryz.func192,Tryz.ntmps192;go_wp2_with fail;go_ret;exact⟨by rw[HF.out];rfl,HAL.out⟩
 by_cases g3:4611686018427387904<max (i:Int) (t:Int)
 ·have HF:Hid (r=false):=qh (by rw[<-HR.out];unfold enB;simp;omega);go_enter Tryz.func192,Tryz.ntmps192;go_wp2_with fail;go_ret;exact⟨by rw[HF.out];rfl,HAL.out⟩
 by_cases g4:d<0
 ·have HF:Hid (r=false):=qh (by rw[<-HR.out];unfold enB;simp;omega);go_enter Tryz.func192,Tryz.ntmps192;go_wp2_with fail;go_ret;exact⟨by rw[HF.out];rfl,HAL.out⟩
 by_cases g5:1099511627776<d
 ·have HF:Hid (r=false):=qh (by rw[<-HR.out];unfold enB;simp;omega);go_enter Tryz.func192,Tryz.ntmps192;go_wp2_with fail;go_ret;exact⟨by rw[HF.out];rfl,HAL.out⟩
 by_cases g6:4096<x.length
 ·have HF:Hid (r=false):=qh (by rw[<-HR.out];unfold enB;simp;omega);have g6z:(4096:Int)<(x.length:Int):=by omega
  go_enter Tryz.func192,Tryz.ntmps192;go_wp2_with fail;go_ret;exact⟨by rw[HF.out];rfl,HAL.out⟩
 have g6z:¬(4096:Int)<(x.length:Int):=by omega
 have HF:Hid (r=(if k=1 then decide (x.length=0) else if k=3 then confOk x else decide (k=2))):=qh (by
  rw[<-HR.out];unfold enB;rw[decide_eq_true (by omega:1<=i),decide_eq_true (by omega:1<=t),decide_eq_true (by omega:i<=4611686018427387904),decide_eq_true (by omega:t<=4611686018427387904),decide_eq_true (by omega:0<=d),decide_eq_true (by omega:d<=1099511627776),decide_eq_true (by omega:x.length<=4096)];simp)
 by_cases k1:k=1
 ·subst k1;have HF':Hid (r=decide (x.length=0)):=qh (by rw[HF.out];rfl);clear HF;go_enter Tryz.func192,Tryz.ntmps192;go_wp2_with fail;go_ret;exact⟨by rw[HF'.out];refine zM ?_;rw[<-eq0],HAL.out⟩
 have hk1:(k == 1)=false:=by simpa using k1
 by_cases k3:k=3
 ·subst k3;have HF':Hid (confOk x=r):=qh (by rw[HF.out];rfl);have TC:=qh (zeQ D dc x _ HRB.out hc (by omega) r HF'.out);clear HF;go_enter Tryz.func192,Tryz.ntmps192;go_wp2_with fail;refine TC.out.mono ?_;rintro e w1 ⟨V,vc,L,lc,n,m,k,rfl,hk,b1⟩;have HB1:=qh (zn HAL.out b1);have T3:=qh (Blk.new w1 #[.slice none 0 0,.slice none 0 0] 33);have HK:=qh hk;clear TC b1 hk;go_wp2_with (refine wpList_store_row rfl 33 (.tmp 3) (.tmp 51) rfl w1.heap.size #[.slice V n vc,.slice L m lc] rfl rfl _ _ T3.out zt rfl (by simp[Value.oneCell']) ?_);go_ret;refine⟨zM ?_,below_setRow (g:=w1.heap.size) (HB1.out.alloc HB1.out.size _) HB1.out.size _⟩;cases hr2:r with
  | true=>rw[HK.out.2 hr2];rfl
  | false =>
   refine beq_eq_false_iff_ne.2 fun e=>?_
   rw[HK.out.1 e] at hr2;cases hr2
 have hk3:(k == 3)=false:=by simpa using k3
 have HF':Hid (r=decide (k=2)):=qh (by rw[HF.out,if_neg k1,if_neg k3]);clear HF;go_enter Tryz.func192,Tryz.ntmps192;go_wp2_with fail;go_ret;refine⟨by rw[HF'.out];refine zM ?_;by_cases e:k=2<;>simp[e],HAL.out⟩
end
theorem yA{i t:Nat}{k d:Int}{x:List UInt8}(h:enB i t k d x=true):1<=i/\1<=t/\i<=4611686018427387904/\t<=4611686018427387904/\0<=d/\d<=1099511627776/\x.length<=4096/\1<=k/\k<=3:=by
 unfold enB at h;simp only[Bool.and_eq_true,decide_eq_true_eq] at h;obtain⟨⟨⟨⟨⟨⟨⟨h1,h2⟩,h3⟩,h4⟩,h5⟩,h6⟩,h7⟩,h8⟩:=h;refine⟨h1,h2,h3,h4,h5,h6,h7,?_⟩;split at h8
 ·omega
 ·split at h8
  ·omega
  ·have:=of_decide_eq_true h8;omega
theorem zU{n:Int}(h0:0<=n)(h1:n<=18446744073709551615):IntKind.u64.wrap n=n:=by
 rw[show IntKind.u64.wrap n=n % 18446744073709551616 from rfl];omega
section
variable {w w':World}
theorem zas(w:World):Calls Tryz.prog 153 #[] w fun e w'=>e=.returned (.agg kEntry)/\Below w.heap.size w w':=by
 have HZ:=qh (Blk.new w #[.nilFunc,.nilFunc,.nilFunc] 226);unfold kEntry;go_enter Tryz.func153,Tryz.ntmps153;go_wp2_with (refine wpList_store_row rfl 226 (.tmp 0) (.tmp 1) rfl w.heap.size kEntry rfl rfl _ _ HZ.out qo rfl (by simp[Value.oneCell']) ?_);have Y:=HZ.out.setRow kEntry;refine bodyPost_ret (v:=.agg kEntry) (results_cell_row rfl _ _ w.heap.size 226 kEntry (0,0) _ rfl Y Tryz.underlying226 rfl qo) rfl ?_;exact⟨rfl,below_setRow ((Below.refl _ _).alloc (Nat.le_refl _) _) (Nat.le_refl _) _⟩
theorem zeP(B o:Nat)(i t:Nat)(k d:Int)(x:List UInt8)(D:Option Addr)(dc:Nat)(w:World)(h:OutAt B o w [])(hB:B<=w.heap.size)(hBo:o<B)(hd:RB w D x)(hD:0<x.length->∀b,D.map (·.block)=some b->b≠o)(hr:enB i t k d x=true) :
  Calls Tryz.prog 194 #[.pointer (some ⟨o,0,none⟩),.agg (enC i t k d x D dc)] w (OutE B o (enBytes i t k d x) w):=by
 obtain⟨h1,h2,h3,h4,h5,h6,h7,h8,h9⟩:=yA hr;have hwk:=zU (n:=k) (by omega) (by omega);have hwd:=zU (n:=d) (by omega) (by omega);have hlo:=h.lt;have hws:(w.alloc (.cells (enC i t k d x D dc) 44)).heap.size=w.heap.size+1:=by simp
 have hal:Below w.heap.size w (w.alloc (.cells (enC i t k d x D dc) 44)):=(Below.refl _ _).alloc (Nat.le_refl _) _;have hal2:Below w.heap.size w ((w.alloc (.cells (enC i t k d x D dc) 44)).alloc (.cells #[.int .u64 (i:Int),.int .u64 (t:Int),.int .u64 k,.int .u64 d] 23)):=hal.alloc hal.size _;have hb:Below (w.alloc (.cells (enC i t k d x D dc) 44)).heap.size (w.alloc (.cells (enC i t k d x D dc) 44)) ((w.alloc (.cells (enC i t k d x D dc) 44)).alloc (.cells #[.int .u64 (i:Int),.int .u64 (t:Int),.int .u64 k,.int .u64 d] 23)):=(Below.refl _ _).alloc (Nat.le_refl _) _;have Z:=qh ((Blk.new w (enC i t k d x D dc) 44).kept hb);have hrl:=RV.lit (w.alloc (.cells (enC i t k d x D dc) 44)) (ncells .u64 [(i:Int),(t:Int),k,d]) 23 (0,0);rw[hws] at hrl;have N1:=qh (za1 B o [] (some ⟨w.heap.size+1,0,none⟩) 4 [(i:Int),(t:Int),k,d] _ (h.below hal2) (Nat.le_trans hB hal2.size) hBo hrl (fun _ b hb=>by simp at hb;omega) (fun n hn=>by
  simp only[List.mem_cons,List.not_mem_nil,or_false] at hn
  rcases hn with rfl | rfl | rfl | rfl<;>omega) (by simp))
 have HD:=qh (hd.below hal2);have HDo:=qh hD;have HM:=qh (Mods.of_below (S:=(·=o)) hal2);have hln:(putNums [(i:Int),(t:Int),k,d]).length<=36:=zw _;clear hal hal2 hb hd hD h hws hrl hr h1 h2 h3 h4 h8 h9;unfold enC at *;go_enter Tryz.func194,Tryz.ntmps194;go_wp2_with fail;refine N1.out.mono ?_;rintro e w1 ⟨rfl,q1,m1⟩;rw[List.nil_append] at q1;have z4:=(Z.out.mods m1 (by omega)).cell 4 (v:=.slice D x.length dc) rfl;have HD1:=HD.out.mods m1 (fun h0 b hb=>HDo.out h0 b hb);have M1:=qh (HM.out.then m1);have hb3:Below w1.heap.size w1 (w1.alloc (.cells #[.slice D x.length dc] 34)):=(Below.refl _ _).alloc (Nat.le_refl _) _;have D1:=qh (zeY B o _ (some ⟨w1.heap.size,0,none⟩) 1 D dc x _ (q1.below hb3) (Nat.le_trans (Nat.le_trans hB M1.out.size) hb3.size) hBo (RBB.one dc HD1 (by omega)) (by omega));have M3:=qh (M1.out.below hb3);clear N1 q1 m1 hb3 HD1 Z HD HM;go_wp2_with fail;refine D1.out.mono ?_;rintro e w3 ⟨rfl,h3,m3⟩;go_wp2_with fail
 go_end0
 exact⟨rfl,h3,M3.out.then m3⟩
theorem zeO(i t:Nat)(k d:Int)(x:List UInt8)(D:Option Addr)(dc:Nat)(w:World)(h:RB w D x)(hc:x.length<=dc/\dc<=9223372036854775807)(r:Bool)(hr:enB i t k d x=r) :
  Calls Tryz.prog 154 #[.agg kEntry,.agg (enC i t k d x D dc)] w (BytesE r (enBytes i t k d x) w):=by
 have hal:Below w.heap.size w ((w.alloc (.cells kEntry 226)).alloc (.cells (enC i t k d x D dc) 44)):=((Below.refl _ _).alloc (Nat.le_refl _) _).alloc (by simp) _;have Z1:=qh ((Blk.new w kEntry 226).below (((Below.refl (w.heap.size+1) _).alloc (by simp) (.cells (enC i t k d x D dc) 44))) (Nat.lt_succ_self _));have hZ2:=Blk.new (w.alloc (.cells kEntry 226)) (enC i t k d x D dc) 44;have hws:(w.alloc (.cells kEntry 226)).heap.size=w.heap.size+1:=by simp
 rw[hws] at hZ2;have Z2:=qh hZ2;have SO:=qh (zat i t k d x D dc _ (h.below hal) hc r hr);have HAL:=qh hal;have HRB:=qh h;have HR:=qh hr;clear hal hZ2 hws h hr;unfold enC kEntry at *;go_enter Tryz.func154,Tryz.ntmps154;go_wp2_with (refine wpList_load_row rfl 44 (.tmp 3) rfl (w.heap.size+1) rfl 44 (enC i t k d x D dc) (0,0) _ Z2.out Tryz.underlying44 rfl zB ?_);refine SO.out.mono ?_;rintro e w1 ⟨rfl,b1⟩;have HB:=qh (zn HAL.out b1);have Y1:=qh (Z1.out.kept b1);have Y2:=qh (Z2.out.kept b1);clear SO b1 Z1 Z2 HAL;cases r with
 | false =>
  go_wp2_with fail
  go_ret2
  exact⟨none,0,0,2,rfl,HB.out,fun _=>rfl,fun h=>by cases h⟩
 | true =>
  have hb2:Below w1.heap.size w1 (w1.alloc (.cells #[.slice none 0 0] 182)):=(Below.refl _ _).alloc (Nat.le_refl _) _;have hsz:=HB.out.size;have hbt:=HB.out.trans (hb2.mono hsz);have X1:=qh (Y1.out.kept hb2);have X2:=qh (Y2.out.kept hb2);have c1:=X1.out.cell 1 rfl;have hO:OutAt (w1.heap.size+1) w1.heap.size (w1.alloc (.cells #[.slice none 0 0] 182)) []:=⟨none,0,Blk.new _ _ _,OB.nil _ _⟩;have W1:=qh (zeP (w1.heap.size+1) w1.heap.size i t k d x D dc _ hO (by simp) (Nat.lt_succ_self _) (HRB.out.below hbt) (fun h0 b hb=>by have:=HRB.out.blk_lt h0 b hb;omega) HR.out);have HBT:=qh hbt;clear hb2 hbt hO Y1 Y2;go_wp2_with (refine wpList_load_row rfl 44 (.tmp 3) rfl (w.heap.size+1) rfl 44 (enC i t k d x D dc) (0,0) _ X2.out Tryz.underlying44 rfl zB ?_);refine W1.out.mono ?_;rintro e w2 ⟨rfl,⟨A,c,y1,y2⟩,m2⟩;have HB2:=qh (Mods.old HBT.out m2 HBT.out.size (fun i _ e=>by subst e;exact hsz));have y0:=y1.cell 0 rfl;have HO:=qh (y2.base_le (by omega:w.heap.size<=w1.heap.size+1));clear m2 y1 y2 W1 c1 X1 X2;go_wp2_with fail
  go_ret2
  exact⟨A,_,c,0,rfl,HB2.out,(fun h=>nomatch h),fun _=>⟨rfl,rfl,HO.out⟩⟩
theorem msgEntry(i t:Nat)(k d:Int)(x:List UInt8)(D:Option Addr)(dc:Nat)(w:World)(h:RB w D x)(hc:x.length<=dc/\dc<=9223372036854775807)(r:Bool)(hr:enB i t k d x=r) :
  Calls Tryz.prog 91 #[.agg (enC i t k d x D dc)] w (BytesE r (enBytes i t k d x) w):=by
 have hal:Below w.heap.size w (w.alloc (.cells (enC i t k d x D dc) 44)):=(Below.refl _ _).alloc (Nat.le_refl _) _;have Z:=qh (Blk.new w (enC i t k d x D dc) 44);have HAL:=qh hal;have HV:=qh h;have HR:=qh hr;clear hal h hr;unfold enC at *;go_enter Tryz.func91,Tryz.ntmps91;go_wp2_with fail;refine zf (by kernel_rfl) [(1,none),(0,some []),(2,some [1]),(3,none),(4,none),(5,none),(6,none)] (by kernel_rfl) (by kernel_rfl) (by decide) ?_;intro wq hwq;have hz:Blk wq w.heap.size 44 (enC i t k d x D dc):=by rw[hwq];exact Z.out
 have hb:Below w.heap.size w wq:=by rw[hwq];exact HAL.out.drew
 have c0:=hz.cell 0 (v:=.int .u64 (i:Int)) rfl;have c1:=hz.cell 1 (v:=.int .u64 (t:Int)) rfl;have c2:=hz.cell 2 (v:=.int .i64 k) rfl;have c3:=hz.cell 3 (v:=.int .i64 d) rfl;have c4:=hz.cell 4 (v:=.slice D x.length dc) rfl;have Z':=qh hz;have HB:=qh hb;clear hwq hz hb Z HAL;refine ze [(⟨w.heap.size,0,none⟩,.int .u64 (i:Int)),(⟨w.heap.size,1,none⟩,.int .u64 (t:Int)),(⟨w.heap.size,2,none⟩,.int .i64 k),(⟨w.heap.size,3,none⟩,.int .i64 d),(⟨w.heap.size,4,none⟩,.slice D x.length dc)] ?_;refine zh rfl (by rfl) (fun K hK=>?_)
 go_simp
 refine(zas wq).mono ?_;rintro e w1 ⟨rfl,b1⟩;have hbt:=zn HB.out b1;have hz1:=Z'.out.kept b1;have d0:=hz1.cell 0 (v:=.int .u64 (i:Int)) rfl;have d1:=hz1.cell 1 (v:=.int .u64 (t:Int)) rfl;have d2:=hz1.cell 2 (v:=.int .i64 k) rfl;have d3:=hz1.cell 3 (v:=.int .i64 d) rfl;have d4:=hz1.cell 4 (v:=.slice D x.length dc) rfl;have BY:=qh (zeO i t k d x D dc w1 (HV.out.below hbt) hc r HR.out);have HBT:=qh hbt;clear hbt b1 hz1 c0 c1 c2 c3 c4 Z' HB;refine zg hK ?_;clear hK K;refine zh rfl (by rfl) (fun K hK=>?_)
 go_simp
 refine BY.out.mono ?_;rintro e w2 ⟨A,n,c,k2,rfl,b2,p1,p2⟩;have HB2:=qh (zn HBT.out b2);have HP:=qh (And.intro p1 (fun h=>(⟨(p2 h).1,(p2 h).2.1,(p2 h).2.2.base_le HBT.out.size⟩:k2=0/\n=(enBytes i t k d x).length/\OB w2 w.heap.size A c (enBytes i t k d x))));clear b2 p1 p2 BY d0 d1 d2 d3 d4;refine zg hK ?_;clear hK K;iterate 4 (refine zd ?_)
 refine zk ?_;go_wp2_with fail
 go_ret2
 exact⟨A,n,c,k2,rfl,HB2.out,HP.out.1,HP.out.2⟩
end
end Go.Proofs.YtobdmlejabjmiaaGreatDoor
