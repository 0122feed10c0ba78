/- Made small by a program. -/
import Derived.Test.YtobdmlejabjmiaaGreatDoorZc05
set_option maxRecDepth 20000
set_option maxHeartbeats 8000000
namespace Go.Proofs.YtobdmlejabjmiaaGreatDoor
open Go.RowKit
section
variable {w w':World}
theorem idxI(A:Option Addr)(c:Nat)(l:List Int)(n:Int)(w:World)(h:RV w A (ncells .i64 l))(hl:l.length<=9223372036854775807)(r:Bool)(hr:l.contains n=r) :
  Calls Tryz.prog 197 #[.slice A l.length c,.int .i64 n] w fun e w'=>(∃k:Int,e=.returned (.int .i64 k)/\decide (0<=k)=r)/\w'=w:=by
 have HR:=qh h;have HRR:=qh hr;clear h hr;go_enter Tryz.func197,Tryz.ntmps197;go_wp2_with fail;go_loop [8] (fun i=>∃k:Nat,k<=l.length/\i=.int .i64 (k:Int)/\Hid (n ∉ l.take k))
  (fun i=>l.length - (intOf i).toNat)
 case atStart=>exact⟨0,Nat.zero_le _,rfl,qh (by simp)⟩
 case round =>
  obtain⟨k,hk,rfl,HK⟩:=hrel;by_cases hlt:k<l.length
  ·obtain⟨b,off,rfl,hb,hc⟩:=HR.out.int hlt;by_cases hx:n=l[k]
   ·have HF:Hid (r=true):=qh (by rw[<-HRR.out,List.contains_iff_mem,hx];exact List.getElem_mem hlt);have hxb:(n == l[k])=true:=(by simpa using hx);obtain⟨x,hxe⟩:∃x,x=l[k]:=⟨_,rfl⟩;rw[<-hxe] at hc hxb;clear hx hxe HK;go_wp2_with fail;go_ret;exact⟨⟨(k:Int),rfl,by rw[HF.out];simp⟩,rfl⟩
   ·have HT:Hid (n ∉ l.take (k+1)):=qh (by
     rw[List.take_succ_eq_append_getElem hlt,List.mem_append,List.mem_singleton];exact fun e=>e.elim HK.out hx)
    have hxb:(n == l[k])=false:=(by simpa using hx);obtain⟨x,hxe⟩:∃x,x=l[k]:=⟨_,rfl⟩;rw[<-hxe] at hc hxb;clear hx hxe HK;go_wp2_with fail
    go_round
    case rel=>exact⟨k+1,by omega,by go_num,HT⟩
    case measure=>simp[intOf];omega
  ·have HF:Hid (r=false):=qh (by
    have:=HK.out;rw[List.take_of_length_le (by omega)] at this;rw[<-HRR.out,<-Bool.not_eq_true,List.contains_iff_mem];exact this)
   clear HK;go_wp2_with fail;go_ret;exact⟨⟨-1,rfl,by rw[HF.out];simp⟩,rfl⟩
theorem zen(A:Option Addr)(c:Nat)(l:List Int)(n:Int)(w:World)(h:RV w A (ncells .i64 l))(hl:l.length<=9223372036854775807)(r:Bool)(hr:l.contains n=r) :
  Calls Tryz.prog 161 #[.slice A l.length c,.int .i64 n] w fun e w'=>e=.returned (.bool r)/\w'=w:=by
 have IX:=qh (idxI A c l n w h hl r hr);clear h hr;go_enter Tryz.func161,Tryz.ntmps161;go_wp2_with (go_at_call 197;refine IX.out.mono ?_);rintro e w1 ⟨⟨k,rfl,hk⟩,rfl⟩;go_wp2_with fail;go_ret;exact⟨by refine zM ?_;first | exact hk | simp,rfl⟩
abbrev inLrn(g:Nat):Value:=.func (.func 160) #[] #[.pointer (some ⟨g,0,none⟩)]
theorem inLrnC(g:Nat)(L:Option Addr)(lc:Nat)(l:List Int)(n:Int)(w:World)(h1:w.cell? ⟨g,1,none⟩=some (.slice L l.length lc))(h:RV w L (ncells .i64 l))(hl:l.length<=9223372036854775807)(r:Bool)(hr:l.contains n=r) :
  Calls Tryz.prog 160 #[.int .i64 n,.pointer (some ⟨g,0,none⟩)] w fun e w'=>e=.returned (.bool r)/\w'=w:=by
 have IX:=qh (zen L lc l n w h hl r hr);clear h hr;go_enter Tryz.func160,Tryz.ntmps160;go_wp2_with (go_at_call 161;refine IX.out.mono ?_);rintro e w1 ⟨rfl,rfl⟩;go_wp2_with fail;go_ret;exact⟨rfl,rfl⟩
theorem idxLrn(g:Nat)(V L:Option Addr)(vc lc:Nat)(v l:List Int)(w:World)(h1:w.cell? ⟨g,1,none⟩=some (.slice L l.length lc))(hv:RV w V (ncells .i64 v))(h:RV w L (ncells .i64 l))(hl:l.length<=9223372036854775807)(hn:v.length<=9223372036854775807)(r:Bool)(hr:(v.any fun n=>l.contains n)=r) :
  Calls Tryz.prog 196 #[.slice V v.length vc,inLrn g] w fun e w'=>(∃k:Int,e=.returned (.int .i64 k)/\decide (0<=k)=r)/\w'=w:=by
 have HR:=qh hv;have HL:=qh h;have HRR:=qh hr;have H1:=qh h1;clear hv h hr h1;go_enter Tryz.func196,Tryz.ntmps196;go_wp2_with fail;go_loop [8] (fun i=>∃k:Nat,k<=v.length/\i=.int .i64 (k:Int)/\Hid ((v.take k).any (fun n=>l.contains n)=false))
  (fun i=>v.length - (intOf i).toNat)
 case atStart=>exact⟨0,Nat.zero_le _,rfl,qh (by simp)⟩
 case round =>
  obtain⟨k,hk,rfl,HK⟩:=hrel;by_cases hlt:k<v.length
  ·obtain⟨b,off,rfl,hb,hc⟩:=HR.out.int hlt;have HS:=qh (zcN (p:=fun n=>l.contains n) hlt);obtain⟨x,hxe⟩:∃x,x=v[k]:=⟨_,rfl⟩;rw[<-hxe] at hc HS;obtain⟨q,hq⟩:∃q,q=l.contains x:=⟨_,rfl⟩;have HA:Hid ((v.take (k+1)).any (fun n=>l.contains n)=q):=qh (by rw[HS.out,HK.out,hq];simp);have IC:=qh (inLrnC g L lc l x w H1.out HL.out hl q hq.symm);clear hq HS HK hxe;cases q with
   | true =>
    have HF:Hid (r=true):=qh (by
     rw[<-HRR.out];have h1:=HA.out;rw[List.any_eq_true] at h1 ⊢;obtain⟨y,hy,h2⟩:=h1;exact⟨y,List.mem_of_mem_take hy,h2⟩)
    go_wp2_with fail;refine IC.out.mono ?_;rintro e w1 ⟨rfl,rfl⟩;go_wp2_with fail;go_ret;exact⟨⟨(k:Int),rfl,by rw[HF.out];simp⟩,rfl⟩
   | false =>
    go_wp2_with fail;refine IC.out.mono ?_;rintro e w1 ⟨rfl,rfl⟩;go_wp2_with fail
    go_round
    case rel=>exact⟨k+1,by omega,by go_num,HA⟩
    case measure=>simp[intOf];omega
  ·have HF:Hid (r=false):=qh (by have:=HK.out;rw[List.take_of_length_le (by omega)] at this;rw[<-HRR.out];exact this);clear HK;go_wp2_with fail;go_ret;exact⟨⟨-1,rfl,by rw[HF.out];simp⟩,rfl⟩
theorem anyLrn(g:Nat)(V L:Option Addr)(vc lc:Nat)(v l:List Int)(w:World)(h1:w.cell? ⟨g,1,none⟩=some (.slice L l.length lc))(hv:RV w V (ncells .i64 v))(h:RV w L (ncells .i64 l))(hl:l.length<=9223372036854775807)(hn:v.length<=9223372036854775807)(r:Bool)(hr:(v.any fun n=>l.contains n)=r) :
  Calls Tryz.prog 159 #[.slice V v.length vc,inLrn g] w fun e w'=>e=.returned (.bool r)/\w'=w:=by
 have IX:=qh (idxLrn g V L vc lc v l w h1 hv h hl hn r hr);clear h hr h1 hv;go_enter Tryz.func159,Tryz.ntmps159;go_wp2_with (go_at_call 196;refine IX.out.mono ?_);rintro e w1 ⟨⟨k,rfl,hk⟩,rfl⟩;go_wp2_with fail;go_ret;exact⟨by refine zM ?_;first | exact hk | simp,rfl⟩
theorem zbC(V L:Option Addr)(vc lc:Nat)(v l:List Int)(w:World)(hv:RV w V (ncells .i64 v))(hl:RV w L (ncells .i64 l))(hn:v.length<=9223372036854775807)(hm:l.length<=9223372036854775807)(r:Bool)(hr:confB v l=r) :
  Calls Tryz.prog 157 #[.agg #[.slice V v.length vc,.slice L l.length lc]] w fun e w'=>e=.returned (.bool r)/\Below w.heap.size w w':=by
 have hal:Below w.heap.size w (w.alloc (.cells #[.slice V v.length vc,.slice L l.length lc] 33)):=(Below.refl _ _).alloc (Nat.le_refl _) _;have hZ:=Blk.new w #[.slice V v.length vc,.slice L l.length lc] 33;obtain⟨r1,hr1⟩:∃r1,r1=risesB v:=⟨_,rfl⟩;obtain⟨r2,hr2⟩:∃r2,r2=risesB l:=⟨_,rfl⟩;obtain⟨r3,hr3⟩:∃r3,r3=(v.any fun n=>l.contains n):=⟨_,rfl⟩;have R1:=qh (zc7 V vc v _ (hv.below hal) hn);have R2:=qh (zc7 L lc l _ (hl.below hal) hm);have R3:=qh (anyLrn w.heap.size V L vc lc v l _ (hZ.cell 1 rfl) (hv.below hal) (hl.below hal) hm hn r3 hr3.symm);have HF:Hid (r=(r1 && r2 && decide (0<v.length) && !r3)):=qh (by rw[<-hr];unfold confB;rw[hr1,hr2,hr3]);rw[<-hr1] at R1;rw[<-hr2] at R2;have HAL:=qh hal;clear hv hl hr hr1 hr2 hr3 hal hZ;go_enter Tryz.func157,Tryz.ntmps157;go_wp2_with (go_at_call 158;refine R1.out.mono ?_);rintro e w1 ⟨rfl,rfl⟩;cases r1 with
 | false =>
  go_wp2_with fail;go_ret;exact⟨by rw[HF.out];rfl,HAL.out⟩
 | true =>
  go_wp2_with (go_at_call 158;refine R2.out.mono ?_);rintro e w1 ⟨rfl,rfl⟩;cases r2 with
  | false =>
   go_wp2_with fail;go_ret;exact⟨by rw[HF.out];rfl,HAL.out⟩
  | true =>
   by_cases h0:0<v.length
   ·have HF':Hid (r=!r3):=qh (by rw[HF.out];simp[h0]);clear HF;have h0z:(0:Int)<(v.length:Int):=(by omega);go_wp2_with (go_at_call 159;refine R3.out.mono ?_);rintro e w1 ⟨rfl,rfl⟩;go_wp2_with fail;go_ret;exact⟨by rw[HF'.out];refine zM ?_;simp,HAL.out⟩
   ·have HF':Hid (r=false):=qh (by rw[HF.out];simp[h0]);clear HF;go_wp2_with fail;go_ret;exact⟨by rw[HF'.out];rfl,HAL.out⟩
theorem msgConfW(B o:Nat)(q:List UInt8)(V L:Option Addr)(vc lc:Nat)(v l:List Int)(w:World)(h:OutAt B o w q)(hB:B<=w.heap.size)(hBo:o<B)(hv:RV w V (ncells .i64 v))(hl:RV w L (ncells .i64 l))(hv1:∀n∈v,0<=n/\n<=1000000)(hl1:∀n∈l,0<=n/\n<=1000000)(hn:v.length<=1000)(hm:l.length<=1000)
  (hV:0<v.length->∀b,V.map (·.block)=some b->b≠o) (hL:0<l.length->∀b,L.map (·.block)=some b->b≠o) (hq:q.length<=100000000) :
  Calls Tryz.prog 162 #[.pointer (some ⟨o,0,none⟩),.agg #[.slice V v.length vc,.slice L l.length lc]] w (OutE B o (q++idsB v++idsB l) w):=by
 have hal:Below w.heap.size w (w.alloc (.cells #[.slice V v.length vc,.slice L l.length lc] 33)):=(Below.refl _ _).alloc (Nat.le_refl _) _;have hZ:=Blk.new w #[.slice V v.length vc,.slice L l.length lc] 33;have I1:=qh (outIds B o q V vc v _ (h.below hal) (Nat.le_trans hB hal.size) hBo (hv.below hal) hV hv1 (by omega) (by omega));have HZ:=qh hZ;have hlo:=h.lt;have HL:=qh (hl.below hal);have HLo:=qh hL;have HL1:=qh hl1;have HAL:=qh hal;have hsz:=hal.size;have hq2:(q++idsB v).length<=100000000+9+9*1000:=by
  unfold idsB;have h1:=zw [(v.length:Int)];have h2:=zw v;simp only[List.length_append,List.length_cons,List.length_nil] at h1 ⊢;omega
 clear hv hl hal h hV hL hl1 hv1 hZ;go_enter Tryz.func162,Tryz.ntmps162;go_wp2_with (go_at_call 163;refine I1.out.mono ?_);rintro e w1 ⟨rfl,h1,m1⟩;have z1:=(HZ.out.mods m1 (by omega)).cell 1 rfl;have I2:=qh (outIds B o _ L lc l w1 h1 (Nat.le_trans (Nat.le_trans hB hsz) m1.size) hBo (yj HL.out m1 (fun h0 b hb=>HLo.out (by rw[zp] at h0;exact h0) b hb)) HLo.out HL1.out (by omega) (by omega));have M1:=qh ((Mods.of_below (S:=(·=o)) HAL.out).then m1);clear h1 m1 I1;go_wp2_with (go_at_call 163;refine I2.out.mono ?_);rintro e w2 ⟨rfl,h2,m2⟩;go_wp2_with fail
 go_end0
 exact⟨rfl,h2,M1.out.then m2⟩
end
theorem jI:(Tryz.prog.info? 174).map (·.size)=some 3:=by kernel_rfl
theorem zaq:(Tryz.prog.info? 104).map (·.size)=some 3:=by kernel_rfl
theorem zap:(Tryz.prog.info? 152).map (·.size)=some 3:=by kernel_rfl
abbrev kConf:Array Value:=#[.func (.func 157) #[] #[],.func (.func 162) #[] #[],.func (.func 164) #[] #[]]
abbrev kHard:Array Value:=#[.func (.func 148) #[] #[],.func (.func 149) #[] #[],.func (.func 150) #[] #[]]
abbrev kShot(g:Nat):Array Value:=#[.func (.func 107) #[] #[.pointer (some ⟨g,0,none⟩)],.func (.func 108) #[] #[.pointer (some ⟨g,0,none⟩)],.func (.func 111) #[] #[.pointer (some ⟨g,0,none⟩)]]
section
variable {w w':World}
theorem zdX{A:Option Addr}{xs:List Value}(h:RV w A xs)(h0:0<xs.length):∀b,A.map (·.block)=some b->b<w.heap.size:=by
 intro b hb;obtain⟨b',off,rfl,hlt,_⟩:=h.at_ h0;have e:b'=b:=by simpa using hb
 omega
theorem zc5(w:World):Calls Tryz.prog 106 #[] w fun e w'=>e=.returned (.agg kConf)/\Below w.heap.size w w':=by
 have HZ:=qh (Blk.new w #[.nilFunc,.nilFunc,.nilFunc] 174);unfold kConf;go_enter Tryz.func106,Tryz.ntmps106;go_wp2_with (refine wpList_store_row rfl 174 (.tmp 0) (.tmp 1) rfl w.heap.size kConf rfl rfl _ _ HZ.out jI rfl (by simp[Value.oneCell']) ?_);have Y:=HZ.out.setRow kConf;refine bodyPost_ret (v:=.agg kConf) (results_cell_row rfl _ _ w.heap.size 174 kConf (0,0) _ rfl Y Tryz.underlying174 rfl jI) rfl ?_;exact⟨rfl,below_setRow ((Below.refl _ _).alloc (Nat.le_refl _) _) (Nat.le_refl _) _⟩
theorem zc6(w:World):Calls Tryz.prog 85 #[] w fun e w'=>e=.returned (.agg kHard)/\Below w.heap.size w w':=by
 have HZ:=qh (Blk.new w #[.nilFunc,.nilFunc,.nilFunc] 152);unfold kHard;go_enter Tryz.func85,Tryz.ntmps85;go_wp2_with (refine wpList_store_row rfl 152 (.tmp 0) (.tmp 1) rfl w.heap.size kHard rfl rfl _ _ HZ.out zap rfl (by simp[Value.oneCell']) ?_);have Y:=HZ.out.setRow kHard;refine bodyPost_ret (v:=.agg kHard) (results_cell_row rfl _ _ w.heap.size 152 kHard (0,0) _ rfl Y Tryz.underlying152 rfl zap) rfl ?_;exact⟨rfl,below_setRow ((Below.refl _ _).alloc (Nat.le_refl _) _) (Nat.le_refl _) _⟩
theorem zc8(w:World):Calls Tryz.prog 54 #[] w fun e w'=>∃g,e=.returned (.agg (kShot g))/\Blk w' g 174 kConf/\w.heap.size<=g/\Below w.heap.size w w':=by
 have hal:Below w.heap.size w (w.alloc (.cells #[.nilFunc,.nilFunc,.nilFunc] 104)):=(Below.refl _ _).alloc (Nat.le_refl _) _;have HZ:=qh (Blk.new w #[.nilFunc,.nilFunc,.nilFunc] 104);have CF:=qh (zc5 (w.alloc (.cells #[.nilFunc,.nilFunc,.nilFunc] 104)));have HAL:=qh hal;clear hal;go_enter Tryz.func54,Tryz.ntmps54;go_wp2_with (go_at_call 106;refine CF.out.mono ?_);rintro e w1 ⟨rfl,b1⟩;have y1:=HZ.out.kept b1;have hlt:=y1.lt;have hb2:Below w1.heap.size w1 (w1.alloc (.cells #[.nilFunc,.nilFunc,.nilFunc] 174)):=(Below.refl _ _).alloc (Nat.le_refl _) _;have G0:=qh (Blk.new w1 #[.nilFunc,.nilFunc,.nilFunc] 174);have G1:=qh (G0.out.setRow kConf);have Y1:=qh ((y1.kept hb2).setRow_other (k:=w1.heap.size) kConf (by omega));have HB:=qh (zn HAL.out b1);have HB2:=qh (below_setRow (HB.out.trans (hb2.mono HB.out.size)) HB.out.size kConf);clear b1 CF y1 hb2 HZ;go_wp2_with (first
  | (refine wpList_store_row rfl 174 (.tmp 1) (.tmp 2) rfl w1.heap.size kConf rfl rfl _ _ G0.out jI rfl (by simp[Value.oneCell']) ?_)
  | (refine wpList_store_row rfl 104 (.tmp 0) (.tmp 6) rfl w.heap.size (kShot w1.heap.size) rfl rfl _ _ Y1.out zaq rfl (by simp[Value.oneCell']) ?_))
 have Y2:=Y1.out.setRow (kShot w1.heap.size);have G2:=G1.out.setRow_other (k:=w.heap.size) (kShot w1.heap.size) (by omega);refine bodyPost_ret (v:=.agg (kShot w1.heap.size)) (results_cell_row rfl _ _ w.heap.size 104 (kShot w1.heap.size) (0,0) _ rfl Y2 Tryz.underlying104 rfl zaq) rfl ?_;exact⟨w1.heap.size,rfl,G2,HB.out.size,below_setRow HB2.out (Nat.le_refl _) _⟩
theorem zbE(g:Nat)(i t:Nat)(v l:List Int)(d:List UInt8)(V:Option Addr)(vc:Nat)(L:Option Addr)(lc:Nat)(D:Option Addr)(dc:Nat)(w:World)(hk:Blk w g 174 kConf)(hv:RV w V (ncells .i64 v))(hl:RV w L (ncells .i64 l))
  (hn:v.length<=9223372036854775807) (hm:l.length<=9223372036854775807) (hd:d.length<=9223372036854775807) (hi:i<=18446744073709551615) (ht:t<=18446744073709551615) (r:Bool) (hr:shotB i t v l d.length=r) :
  Calls Tryz.prog 107 #[.agg (shotC i t v l d V vc L lc D dc),.pointer (some ⟨g,0,none⟩)] w fun e w'=>e=.returned (.bool r)/\Below w.heap.size w w':=by
 have hal:Below w.heap.size w (w.alloc (.cells (shotC i t v l d V vc L lc D dc) 36)):=(Below.refl _ _).alloc (Nat.le_refl _) _;have HZ:=qh (Blk.new w (shotC i t v l d V vc L lc D dc) 36);obtain⟨c,hc⟩:∃c,c=confB v l:=⟨_,rfl⟩;have HC:=qh (zbC V L vc lc v l _ (hv.below hal) (hl.below hal) hn hm c hc.symm);have HR:Hid (r=(c && decide (d.length<=32768) && (decide (i=0) == decide (t=0)) && decide (i<=4611686018427387904) && decide (t<=4611686018427387904))):=qh (by rw[<-hr];unfold shotB;rw[hc]);have HAL:=qh hal;have RG:=qh (xK HZ.out);have k0:=(hk.kept hal).cell 0 rfl;clear hv hl hr hc hal hk;unfold shotC at *;go_enter Tryz.func107,Tryz.ntmps107;go_wp2_with (refine wpList_load_mid rfl 33 (.tmp 6) rfl w.heap.size 2 rfl [.slice V v.length vc,.slice L l.length lc] _ RG.out Tryz.underlying33 rfl zt ?_);refine HC.out.mono ?_;rintro e w1 ⟨rfl,b1⟩;have HB:=qh (zn HAL.out b1);have HZ1:=HZ.out.kept b1;have z0:=HZ1.cell 0 rfl;have z1:=HZ1.cell 1 rfl;have z4:=HZ1.cell 4 rfl;clear HC RG HZ1 HZ b1 k0;cases c with
 | false =>
  go_wp2_with fail;go_ret;exact⟨by rw[HR.out];rfl,HB.out⟩
 | true =>
  by_cases h1:d.length<=32768
  ·by_cases h2:(decide (i=0) == decide (t=0))=true
   ·have h2':(((i:Int) == 0) == ((t:Int) == 0))=true:=by
     rw[eq0,eq0];exact h2
    have HR':Hid (r=(decide (i<=4611686018427387904) && decide (t<=4611686018427387904))):=qh (by rw[HR.out,h2];simp[h1]);clear HR;go_wp2_with fail;go_ret;exact⟨by rw[HR'.out,<-Bool.decide_and];refine zM ?_;exact decide_eq_decide.2 (by omega),HB.out⟩
   ·have h2':(((i:Int) == 0) == ((t:Int) == 0))=false:=by
     rw[eq0,eq0];exact Bool.eq_false_iff.2 h2
    have HF:Hid (r=false):=qh (by rw[HR.out,Bool.eq_false_iff.2 h2];simp);clear HR;go_wp2_with fail;go_ret;exact⟨by rw[HF.out];rfl,HB.out⟩
  ·have HF:Hid (r=false):=qh (by rw[HR.out];simp[h1]);clear HR;go_wp2_with fail;go_ret;exact⟨by rw[HF.out];rfl,HB.out⟩
theorem msgShotW(B o g:Nat)(i t:Nat)(v l:List Int)(d:List UInt8)(V:Option Addr)(vc:Nat)(L:Option Addr)(lc:Nat)(D:Option Addr)(dc:Nat)(w:World)(h:OutAt B o w [])(hB:B<=w.heap.size)(hBo:o<B)(hgo:g≠o)(hk:Blk w g 174 kConf)
  (hv:RV w V (ncells .i64 v)) (hl:RV w L (ncells .i64 l)) (hd:RB w D d) (hV:0<v.length->∀b,V.map (·.block)=some b->b≠o) (hL:0<l.length->∀b,L.map (·.block)=some b->b≠o) (hD:0<d.length->∀b,D.map (·.block)=some b->b≠o) (hi:i<=18446744073709551615) (ht:t<=18446744073709551615) (hr:shotB i t v l d.length=true) :
  Calls Tryz.prog 108 #[.pointer (some ⟨o,0,none⟩),.agg (shotC i t v l d V vc L lc D dc),.pointer (some ⟨g,0,none⟩)] w (OutE B o (shotBytes i t v l d) w):=by
 obtain⟨p1,p2,_,_,_⟩:=zI hr;obtain⟨p3,p4,_⟩:=zP p1;have n1:=zD p3;have n2:=zD p4;have q1:∀n∈v,0<=n/\n<=1000000:=fun n hn=>by have:=j5 p3 n hn;omega
 have q2:∀n∈l,0<=n/\n<=1000000:=fun n hn=>by have:=j5 p4 n hn;omega
 have hal:Below w.heap.size w (w.alloc (.cells (shotC i t v l d V vc L lc D dc) 36)):=(Below.refl _ _).alloc (Nat.le_refl _) _;have hZ:=Blk.new w (shotC i t v l d V vc L lc D dc) 36;have hlo:=h.lt;have hal2:Below w.heap.size w ((w.alloc (.cells (shotC i t v l d V vc L lc D dc) 36)).alloc (.cells #[.int .u64 (i:Int),.int .u64 (t:Int)] 23)):=hal.alloc hal.size _;have hal3:Below (w.alloc (.cells (shotC i t v l d V vc L lc D dc) 36)).heap.size (w.alloc (.cells (shotC i t v l d V vc L lc D dc) 36)) ((w.alloc (.cells (shotC i t v l d V vc L lc D dc) 36)).alloc (.cells #[.int .u64 (i:Int),.int .u64 (t:Int)] 23)):=(Below.refl _ _).alloc (Nat.le_refl _) _;have hws:(w.alloc (.cells (shotC i t v l d V vc L lc D dc) 36)).heap.size=w.heap.size+1:=by simp
 have hrl:=RV.lit (w.alloc (.cells (shotC i t v l d V vc L lc D dc) 36)) (ncells .u64 [(i:Int),(t:Int)]) 23 (0,0);rw[hws] at hrl;have N1:=qh (za1 B o [] (some ⟨w.heap.size+1,0,none⟩) 2 [(i:Int),(t:Int)] _ (h.below hal2) (Nat.le_trans hB hal2.size) hBo hrl (fun _ b hb=>by simp at hb;omega) (fun n hn=>by
  rcases List.mem_cons.1 hn with rfl | hn
  ·omega
  ·rw[List.mem_singleton.1 hn];omega) (by simp))
 have Z:=qh (hZ.kept hal3);have K:=qh (hk.kept hal2);have HV:=qh (hv.below hal2);have HL:=qh (hl.below hal2);have HD:=qh (hd.below hal2);have HVo:=qh hV;have HLo:=qh hL;have HDo:=qh hD;have HM:=qh (Mods.of_below (S:=(·=o)) hal2);have Q1:=qh q1;have Q2:=qh q2;have hkg:=hk.lt;have hln:(putNums [(i:Int),(t:Int)]).length<=18:=zw _;have hq2:(putNums [(i:Int),(t:Int)]++idsB v++idsB l).length<=1000000:=by
  unfold idsB;have h1:=zw [(v.length:Int)];have h2:=zw v;have h3:=zw [(l.length:Int)];have h4:=zw l;simp only[List.length_append,List.length_cons,List.length_nil] at h1 h3 ⊢;omega
 clear hal hal2 hal3 hZ hk hv hl hd hV hL hD h hws hrl q1 q2 p1 p3 p4 hr;unfold shotC at *;go_enter Tryz.func108,Tryz.ntmps108;go_wp2_with (go_at_call 109;refine N1.out.mono ?_);rintro e w1 ⟨rfl,h1,m1⟩;rw[List.nil_append] at h1;have Z1:=qh (Z.out.mods m1 (by omega));have K1:=qh (K.out.mods m1 hgo);have k1:=K1.out.cell 1 rfl;have RG:=qh (xK Z1.out);have HV1:=qh (yj HV.out m1 (fun h0 b hb=>HVo.out (by rw[zp] at h0;exact h0) b hb));have HL1:=qh (yj HL.out m1 (fun h0 b hb=>HLo.out (by rw[zp] at h0;exact h0) b hb));have HD1:=qh (HD.out.mods m1 (fun h0 b hb=>HDo.out h0 b hb));have M1:=qh (HM.out.then m1);have C1:=qh (msgConfW B o _ V L vc lc v l w1 h1 (Nat.le_trans hB M1.out.size) hBo HV1.out HL1.out Q1.out Q2.out (by omega) (by omega) HVo.out HLo.out (by omega));clear h1 m1 N1 Z K HV HL HD HM;go_wp2_with (refine wpList_load_mid rfl 33 (.tmp 15) rfl w.heap.size 2 rfl [.slice V v.length vc,.slice L l.length lc] _ RG.out Tryz.underlying33 rfl zt ?_);refine C1.out.mono ?_;rintro e w2 ⟨rfl,h2,m2⟩;have z4:=(Z1.out.mods m2 (by omega)).cell 4 (v:=.slice D d.length dc) rfl;have HD2:=HD1.out.mods m2 (fun h0 b hb=>HDo.out h0 b hb);have M2:=qh (M1.out.then m2);have hb3:Below w2.heap.size w2 (w2.alloc (.cells #[.slice D d.length dc] 34)):=(Below.refl _ _).alloc (Nat.le_refl _) _;have D1:=qh (zeY B o _ (some ⟨w2.heap.size,0,none⟩) 1 D dc d _ (h2.below hb3) (Nat.le_trans (Nat.le_trans hB M2.out.size) hb3.size) hBo (RBB.one dc HD2 (by omega)) (by omega));have M3:=qh (M2.out.below hb3);clear C1 h2 m2 hb3 k1 RG HD2 Z1 K1 HV1 HL1 HD1;go_wp2_with (go_at_call 110;refine D1.out.mono ?_);rintro e w3 ⟨rfl,h3,m3⟩;go_wp2_with fail
 go_end0
 exact⟨rfl,h3,M3.out.then m3⟩
def BytesE(r:Bool)(l:List UInt8)(w:World)(e:Ending)(w':World):Prop :=
 ∃(A:Option Addr) (n c:Nat) (k:Int),e=.returned (.tuple #[.slice A n c,.int .i64 k])/\Below w.heap.size w w'/\(r=false->k=2)/\(r=true->k=0/\n=l.length/\OB w' w.heap.size A c l)
theorem msgShotB(g:Nat)(i t:Nat)(v l:List Int)(d:List UInt8)(V:Option Addr)(vc:Nat)(L:Option Addr)(lc:Nat)(D:Option Addr)(dc:Nat)(w:World)(hk:Blk w g 174 kConf)
  (hv:RV w V (ncells .i64 v)) (hl:RV w L (ncells .i64 l)) (hd:RB w D d) (hn:v.length<=9223372036854775807) (hm:l.length<=9223372036854775807) (hdl:d.length<=9223372036854775807) (hi:i<=18446744073709551615) (ht:t<=18446744073709551615) (r:Bool) (hr:shotB i t v l d.length=r) :
  Calls Tryz.prog 55 #[.agg (kShot g),.agg (shotC i t v l d V vc L lc D dc)] w (BytesE r (shotBytes i t v l d) w):=by
 have hal:Below w.heap.size w ((w.alloc (.cells (kShot g) 104)).alloc (.cells (shotC i t v l d V vc L lc D dc) 36)):=((Below.refl _ _).alloc (Nat.le_refl _) _).alloc (by simp) _;have Z1:=qh ((Blk.new w (kShot g) 104).below (((Below.refl (w.heap.size+1) _).alloc (by simp) (.cells (shotC i t v l d V vc L lc D dc) 36))) (Nat.lt_succ_self _));have hZ2:=Blk.new (w.alloc (.cells (kShot g) 104)) (shotC i t v l d V vc L lc D dc) 36;have hws:(w.alloc (.cells (kShot g) 104)).heap.size=w.heap.size+1:=by simp
 rw[hws] at hZ2;have Z2:=qh hZ2;have SO:=qh (zbE g i t v l d V vc L lc D dc _ (hk.kept hal) (hv.below hal) (hl.below hal) hn hm hdl hi ht r hr);have HAL:=qh hal;have HK:=qh (And.intro hk (And.intro hv (And.intro hl hd)));have HR:=qh hr;clear hal hZ2 hws hk hv hl hd hr;unfold shotC kShot at *;go_enter Tryz.func55,Tryz.ntmps55;go_wp2_with (refine wpList_load_row rfl 36 (.tmp 3) rfl (w.heap.size+1) rfl 36 (shotC i t v l d V vc L lc D dc) (0,0) _ Z2.out Tryz.underlying36 rfl zq ?_);refine SO.out.mono ?_;rintro e w1 ⟨rfl,b1⟩;have HB:=qh (zn HAL.out b1);have Y1:=qh (Z1.out.kept b1);have Y2:=qh (Z2.out.kept b1);clear SO b1 Z1 Z2 HAL;cases r with
 | false =>
  go_wp2_with fail
  go_ret2
  exact⟨none,0,0,2,rfl,HB.out,fun _=>rfl,fun h=>by cases h⟩
 | true =>
  have hb2:Below w1.heap.size w1 (w1.alloc (.cells #[.slice none 0 0] 182)):=(Below.refl _ _).alloc (Nat.le_refl _) _;have hsz:=HB.out.size;have hbt:=HB.out.trans (hb2.mono hsz);have X1:=qh (Y1.out.kept hb2);have X2:=qh (Y2.out.kept hb2);have c1:=X1.out.cell 1 rfl;have hO:OutAt (w1.heap.size+1) w1.heap.size (w1.alloc (.cells #[.slice none 0 0] 182)) []:=⟨none,0,Blk.new _ _ _,OB.nil _ _⟩;have W1:=qh (msgShotW (w1.heap.size+1) w1.heap.size g i t v l d V vc L lc D dc _ hO (by simp) (Nat.lt_succ_self _) (by have:=HK.out.1.lt;omega) (HK.out.1.kept hbt) (HK.out.2.1.below hbt) (HK.out.2.2.1.below hbt) (HK.out.2.2.2.below hbt)
   (fun h0 b hb=>by have:=zdX HK.out.2.1 (by rw[zp];exact h0) b hb;omega) (fun h0 b hb=>by have:=zdX HK.out.2.2.1 (by rw[zp];exact h0) b hb;omega) (fun h0 b hb=>by have:=HK.out.2.2.2.blk_lt h0 b hb;omega) hi ht HR.out)
  have HBT:=qh hbt;clear hb2 hbt hO Y1 Y2;go_wp2_with (refine wpList_load_row rfl 36 (.tmp 3) rfl (w.heap.size+1) rfl 36 (shotC i t v l d V vc L lc D dc) (0,0) _ X2.out Tryz.underlying36 rfl zq ?_);refine W1.out.mono ?_;rintro e w2 ⟨rfl,⟨A,c,y1,y2⟩,m2⟩;have HB2:=qh (Mods.old HBT.out m2 HBT.out.size (fun i _ e=>by subst e;exact hsz));have y0:=y1.cell 0 rfl;have HO:=qh (y2.base_le (by omega:w.heap.size<=w1.heap.size+1));clear m2 y1 y2 W1 c1 X1 X2;go_wp2_with fail
  go_ret2
  exact⟨A,_,c,0,rfl,HB2.out,(fun h=>nomatch h),fun _=>⟨rfl,rfl,HO.out⟩⟩
theorem zcm(i t:Nat)(v l:List Int)(d:List UInt8)(V:Option Addr)(vc:Nat)(L:Option Addr)(lc:Nat)(D:Option Addr)(dc:Nat)(w:World)
  (hv:RV w V (ncells .i64 v)) (hl:RV w L (ncells .i64 l)) (hd:RB w D d) (hn:v.length<=9223372036854775807) (hm:l.length<=9223372036854775807) (hdl:d.length<=9223372036854775807) (hi:i<=18446744073709551615) (ht:t<=18446744073709551615) (r:Bool) (hr:shotB i t v l d.length=r) :
  Calls Tryz.prog 25 #[.agg (shotC i t v l d V vc L lc D dc)] w (BytesE r (shotBytes i t v l d) w):=by
 have hal:Below w.heap.size w (w.alloc (.cells (shotC i t v l d V vc L lc D dc) 36)):=(Below.refl _ _).alloc (Nat.le_refl _) _;have Z:=qh (Blk.new w (shotC i t v l d V vc L lc D dc) 36);have HAL:=qh hal;have HV:=qh (And.intro hv (And.intro hl hd));have HR:=qh hr;clear hal hv hl hd hr;unfold shotC at *;go_enter Tryz.func25,Tryz.ntmps25;go_wp2_with fail;refine zf (by kernel_rfl) [(1,none),(0,some []),(2,some [1]),(3,none),(4,none),(5,none),(6,none)] (by kernel_rfl) (by kernel_rfl) (by decide) ?_;intro wq hwq;have hz:Blk wq w.heap.size 36 (shotC i t v l d V vc L lc D dc):=by rw[hwq];exact Z.out
 have hb:Below w.heap.size w wq:=by rw[hwq];exact HAL.out.drew
 have c0:=hz.cell 0 rfl;have c1:=hz.cell 1 rfl;have c2:=hz.cell 2 rfl;have c3:=hz.cell 3 rfl;have c4:=hz.cell 4 rfl;simp only[List.getElem_toArray,List.getElem_cons_succ,List.getElem_cons_zero] at c0 c1 c2 c3 c4;have Z':=qh hz;have HB:=qh hb;clear hwq hz hb Z HAL;refine ze [(⟨w.heap.size,0,none⟩,.int .u64 (i:Int)),(⟨w.heap.size,1,none⟩,.int .u64 (t:Int)),(⟨w.heap.size,2,none⟩,.slice V v.length vc),(⟨w.heap.size,3,none⟩,.slice L l.length lc),(⟨w.heap.size,4,none⟩,.slice D d.length dc)] ?_;refine zh rfl (by rfl) (fun K hK=>?_)
 go_simp
 refine(zc8 wq).mono ?_;rintro e w1 ⟨g,rfl,hg,hgg,b1⟩;have hbt:=zn HB.out b1;have hz1:=Z'.out.kept b1;have d0:=hz1.cell 0 rfl;have d1:=hz1.cell 1 rfl;have d2:=hz1.cell 2 rfl;have d3:=hz1.cell 3 rfl;have d4:=hz1.cell 4 rfl;simp only[List.getElem_toArray,List.getElem_cons_succ,List.getElem_cons_zero] at d0 d1 d2 d3 d4;have BY:=qh (msgShotB g i t v l d V vc L lc D dc w1 hg (HV.out.1.below hbt) (HV.out.2.1.below hbt) (HV.out.2.2.below hbt) hn hm hdl hi ht r HR.out);have HBT:=qh hbt;clear hbt hg hgg b1 hz1 c0 c1 c2 c3 c4 Z' HB;refine zg hK ?_;clear hK K;refine zh rfl (by rfl) (fun K hK=>?_)
 go_simp
 refine BY.out.mono ?_;rintro e w2 ⟨A,n,c,k,rfl,b2,p1,p2⟩;have HB2:=qh (zn HBT.out b2);have HP:=qh (And.intro p1 (fun h=>(⟨(p2 h).1,(p2 h).2.1,(p2 h).2.2.base_le HBT.out.size⟩:k=0/\n=(shotBytes i t v l d).length/\OB w2 w.heap.size A c (shotBytes i t v l d))));clear b2 p1 p2 BY d0 d1 d2 d3 d4;refine zg hK ?_;clear hK K;iterate 4 (refine zd ?_)
 refine zk ?_;go_wp2_with fail
 go_ret2
 exact⟨A,n,c,k,rfl,HB2.out,HP.out.1,HP.out.2⟩
/-! ### Hard states -/
theorem zbD(t:Nat)(v:Int)(w:World)(r:Bool)(hr:hardB v=r) :
  Calls Tryz.prog 148 #[.agg #[.int .u64 (t:Int),.int .i64 v]] w fun e w'=>e=.returned (.bool r)/\Below w.heap.size w w':=by
 have HAL:Hid (Below w.heap.size w (w.alloc (.cells #[.int .u64 (t:Int),.int .i64 v] 25))):=qh ((Below.refl _ _).alloc (Nat.le_refl _) _);have HR:=qh hr;clear hr;by_cases h1:0<=v
 ·have HF:Hid (r=decide (v<=16)):=qh (by rw[<-HR.out];unfold hardB;simp[h1]);go_enter Tryz.func148,Tryz.ntmps148;go_wp2_with fail;go_ret;exact⟨by rw[HF.out];rfl,HAL.out⟩
 ·have HF:Hid (r=false):=qh (by rw[<-HR.out];unfold hardB;simp[h1]);go_enter Tryz.func148,Tryz.ntmps148;go_wp2_with fail;go_ret;exact⟨by rw[HF.out];rfl,HAL.out⟩
theorem msgHardW(B o:Nat)(t:Nat)(v:Int)(w:World)(h:OutAt B o w [])(hB:B<=w.heap.size)(hBo:o<B)(ht:t<=18446744073709551615)(h0:0<=v)(h1:v<=16) :
  Calls Tryz.prog 149 #[.pointer (some ⟨o,0,none⟩),.agg #[.int .u64 (t:Int),.int .i64 v]] w (OutE B o (hardBytes t v) w):=by
 have hlo:=h.lt;have hwn:IntKind.u64.wrap v=v:=by
  rw[show IntKind.u64.wrap v=v % 18446744073709551616 from rfl];omega
 have hws:(w.alloc (.cells #[.int .u64 (t:Int),.int .i64 v] 25)).heap.size=w.heap.size+1:=by simp
 have hal2:Below w.heap.size w ((w.alloc (.cells #[.int .u64 (t:Int),.int .i64 v] 25)).alloc (.cells #[.int .u64 (t:Int),.int .u64 v] 23)):=((Below.refl _ _).alloc (Nat.le_refl _) _).alloc (by simp) _;have hrl:=RV.lit (w.alloc (.cells #[.int .u64 (t:Int),.int .i64 v] 25)) (ncells .u64 [(t:Int),v]) 23 (0,0);rw[hws] at hrl;have N1:=qh (za1 B o [] (some ⟨w.heap.size+1,0,none⟩) 2 [(t:Int),v] _ (h.below hal2) (Nat.le_trans hB hal2.size) hBo hrl (fun _ b hb=>by simp at hb;omega) (fun n hn=>by
  rcases List.mem_cons.1 hn with rfl | hn
  ·omega
  ·rw[List.mem_singleton.1 hn];omega) (by simp))
 have M1:=qh (Mods.of_below (S:=(·=o)) hal2);clear h hal2 hrl hws;go_enter Tryz.func149,Tryz.ntmps149;go_wp2_with (go_at_call 109;refine N1.out.mono ?_);rintro e w1 ⟨rfl,h1,m1⟩;rw[List.nil_append] at h1;go_wp2_with fail
 go_end0
 exact⟨rfl,h1,M1.out.then m1⟩
theorem msgHardB(t:Nat)(v:Int)(w:World)(ht:t<=18446744073709551615)(r:Bool)(hr:hardB v=r) :
  Calls Tryz.prog 86 #[.agg kHard,.agg #[.int .u64 (t:Int),.int .i64 v]] w (BytesE r (hardBytes t v) w):=by
 have hal:Below w.heap.size w ((w.alloc (.cells kHard 152)).alloc (.cells #[.int .u64 (t:Int),.int .i64 v] 25)):=((Below.refl _ _).alloc (Nat.le_refl _) _).alloc (by simp) _;have Z1:=qh ((Blk.new w kHard 152).below (((Below.refl (w.heap.size+1) _).alloc (by simp) (.cells #[.int .u64 (t:Int),.int .i64 v] 25))) (Nat.lt_succ_self _));have hZ2:=Blk.new (w.alloc (.cells kHard 152)) #[.int .u64 (t:Int),.int .i64 v] 25;have hws:(w.alloc (.cells kHard 152)).heap.size=w.heap.size+1:=by simp
 rw[hws] at hZ2;have Z2:=qh hZ2;have SO:=qh (zbD t v ((w.alloc (.cells kHard 152)).alloc (.cells #[.int .u64 (t:Int),.int .i64 v] 25)) r hr);have HAL:=qh hal;have HR:=qh hr;clear hal hZ2 hws hr;unfold kHard at *;go_enter Tryz.func86,Tryz.ntmps86;go_wp2_with fail;refine SO.out.mono ?_;rintro e w1 ⟨rfl,b1⟩;have HB:=qh (zn HAL.out b1);have Y1:=qh (Z1.out.kept b1);have Y2:=qh (Z2.out.kept b1);clear SO b1 Z1 Z2 HAL;cases r with
 | false =>
  go_wp2_with fail
  go_ret2
  exact⟨none,0,0,2,rfl,HB.out,fun _=>rfl,fun h=>by cases h⟩
 | true =>
  have hv:0<=v/\v<=16:=by
   have:=HR.out;unfold hardB at this;simpa using this
  have hb2:Below w1.heap.size w1 (w1.alloc (.cells #[.slice none 0 0] 182)):=(Below.refl _ _).alloc (Nat.le_refl _) _;have hsz:=HB.out.size;have hbt:=HB.out.trans (hb2.mono hsz);have c1:=(Y1.out.kept hb2).cell 1 rfl;have x0:=(Y2.out.kept hb2).cell 0 rfl;have x1:=(Y2.out.kept hb2).cell 1 rfl;have hO:OutAt (w1.heap.size+1) w1.heap.size (w1.alloc (.cells #[.slice none 0 0] 182)) []:=⟨none,0,Blk.new _ _ _,OB.nil _ _⟩;have W1:=qh (msgHardW (w1.heap.size+1) w1.heap.size t v _ hO (by simp) (Nat.lt_succ_self _) ht hv.1 hv.2);have HBT:=qh hbt;clear hb2 hbt hO Y1 Y2 hv;go_wp2_with fail;refine W1.out.mono ?_;rintro e w2 ⟨rfl,⟨A,c,y1,y2⟩,m2⟩;have HB2:=qh (Mods.old HBT.out m2 HBT.out.size (fun i _ e=>by subst e;exact hsz));have y0:=y1.cell 0 rfl;have HO:=qh (y2.base_le (by omega:w.heap.size<=w1.heap.size+1));clear m2 y1 y2 W1 c1 x0 x1;go_wp2_with fail
  go_ret2
  exact⟨A,_,c,0,rfl,HB2.out,(fun h=>nomatch h),fun _=>⟨rfl,rfl,HO.out⟩⟩
theorem msgHard(t:Nat)(v:Int)(w:World)(ht:t<=18446744073709551615)(r:Bool)(hr:hardB v=r) :
  Calls Tryz.prog 36 #[.agg #[.int .u64 (t:Int),.int .i64 v]] w (BytesE r (hardBytes t v) w):=by
 have hal:Below w.heap.size w (w.alloc (.cells #[.int .u64 (t:Int),.int .i64 v] 25)):=(Below.refl _ _).alloc (Nat.le_refl _) _;have Z:=qh (Blk.new w #[.int .u64 (t:Int),.int .i64 v] 25);have HAL:=qh hal;have HR:=qh hr;clear hal hr;go_enter Tryz.func36,Tryz.ntmps36;go_wp2_with fail;refine zf (by kernel_rfl) [(1,none),(0,some []),(2,some [1]),(3,none),(4,none),(5,none),(6,none)] (by kernel_rfl) (by kernel_rfl) (by decide) ?_;intro wq hwq;have hz:Blk wq w.heap.size 25 #[.int .u64 (t:Int),.int .i64 v]:=by rw[hwq];exact Z.out
 have hb:Below w.heap.size w wq:=by rw[hwq];exact HAL.out.drew
 have c0:=hz.cell 0 rfl;have c1:=hz.cell 1 rfl;simp only[List.getElem_toArray,List.getElem_cons_succ,List.getElem_cons_zero] at c0 c1;have Z':=qh hz;have HB:=qh hb;clear hwq hz hb Z HAL;refine ze [(⟨w.heap.size,0,none⟩,.int .u64 (t:Int)),(⟨w.heap.size,1,none⟩,.int .i64 v)] ?_;refine zh rfl (by rfl) (fun K hK=>?_)
 go_simp
 refine(zc6 wq).mono ?_;rintro e w1 ⟨rfl,b1⟩;have hbt:=zn HB.out b1;have hz1:=Z'.out.kept b1;have d0:=hz1.cell 0 rfl;have d1:=hz1.cell 1 rfl;simp only[List.getElem_toArray,List.getElem_cons_succ,List.getElem_cons_zero] at d0 d1;have BY:=qh (msgHardB t v w1 ht r HR.out);have HBT:=qh hbt;clear hbt b1 hz1 c0 c1 Z' HB;refine zg hK ?_;clear hK K;refine zh rfl (by rfl) (fun K hK=>?_)
 go_simp
 refine BY.out.mono ?_;rintro e w2 ⟨A,n,c,k,rfl,b2,p1,p2⟩;have HB2:=qh (zn HBT.out b2);have HP:=qh (And.intro p1 (fun h=>(⟨(p2 h).1,(p2 h).2.1,(p2 h).2.2.base_le HBT.out.size⟩:k=0/\n=(hardBytes t v).length/\OB w2 w.heap.size A c (hardBytes t v))));clear b2 p1 p2 BY d0 d1;refine zg hK ?_;clear hK K;iterate 4 (refine zd ?_)
 refine zk ?_;go_wp2_with fail
 go_ret2
 exact⟨A,n,c,k,rfl,HB2.out,HP.out.1,HP.out.2⟩
end
end Go.Proofs.YtobdmlejabjmiaaGreatDoor
