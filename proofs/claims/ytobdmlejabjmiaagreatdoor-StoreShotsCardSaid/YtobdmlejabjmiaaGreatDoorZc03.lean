/- Made small by a program. -/
import Derived.Test.YtobdmlejabjmiaaGreatDoorZc01
import Derived.Test.YtobdmlejabjmiaaGreatDoorZc02
import Derived.Lib.ItoaNum
import Derived.Laws.BitsAllLaws
import Derived.Lib.SlBytesConst
import Derived.Laws.CopyOwn
import Derived.Test.YtobdmlejabjmiaaGreatDoorRows
import Derived.ProofKit
import Derived.OpenShut
import Derived.ShutString
import Derived.ChangeOld
import Derived.Below
import Derived.SizedLaws
set_option maxRecDepth 20000
set_option maxHeartbeats 8000000
namespace Go.Proofs.YtobdmlejabjmiaaGreatDoor
open Go.RowKit
def NewB(w:World)(l:List UInt8)(e:Ending)(w':World):Prop :=
 ∃(k:List UInt8) (A:Option Addr) (c:Nat),Hid (k=l)/\k.length<=l.length/\l.length<=k.length/\e=.returned (.slice A k.length c)/\OB w' w.heap.size A c k/\Below w.heap.size w w'
theorem newB{w w':World}{l k:List UInt8}{A:Option Addr}{c:Nat}(hk:k=l)(h:OB w' w.heap.size A c k)(hb:Below w.heap.size w w'):NewB w l (.returned (.slice A k.length c)) w' :=
 ⟨k,A,c,qh hk,by rw[hk];exact Nat.le_refl _,by rw[hk];exact Nat.le_refl _,rfl,h,hb⟩
theorem qc(A:Option Addr)(c:Nat)(l:List UInt8)(w:World)(h:RB w A l)(hl:l.length<=220000000000000) :
  Calls Tryz.prog 82 #[.slice A l.length c] w (NewB w l):=by
 have hnil:=fun w=>Lib.run_eql_slice_nil (P:=Tryz.prog) w 34 5 A l.length c 0 0 Tryz.underlying34
 rcases A with _ | ad
 ·have hl0:l=[]:=by
   rcases Nat.eq_zero_or_pos l.length with h0 | h0
   ·exact List.eq_nil_of_length_eq_zero h0
   ·obtain⟨b,off,e,_⟩:=h.at_ h0;cases e
  have HL:=qh hl0;clear h hl hl0;go_enter Tryz.func82,Tryz.ntmps82;go_wp2_with fail;go_ret;exact newB (k:=[]) HL.out.symm (OB.nil _ _) (Below.refl _ _)
 ·go_enter Tryz.func82,Tryz.ntmps82;go_wp2_with (at_builtin;refine zO _ rfl _ _ rfl w.heap.size _ _ _ _ [] l rfl rfl (OB.made0 _ (Nat.le_refl _)) (h.alloc _) (by simp;omega) (by simp) ?_;intro k A' c' w' hk hk1 hk2 hob hg);go_ret;exact newB (by simpa using hk.out) hob (((Below.refl _ _).alloc (Nat.le_refl _) _).grown hg (by simp) (by simp[Value.ownBlock]))
theorem clipB(A:Option Addr)(c:Nat)(l:List UInt8)(w:World)(hc:l.length<=c)(_hm:c<=9223372036854775807) :
  Calls Tryz.prog 156 #[.slice A l.length c] w fun e w'=>e=.returned (.slice A l.length l.length)/\w=w':=by
 go_enter Tryz.func156,Tryz.ntmps156;go_wp2_with fail;go_ret;exact⟨rfl,rfl⟩
theorem len64(n:Int)(w:World)(h0:0<=n)(h1:n<=18446744073709551615) :
  Calls Tryz.prog 155 #[.int .u64 n] w fun e w'=>e=.returned (.int .i64 (Lib.bitLen n.toNat))/\w=w' :=
 (Tryz.bits_Len64 n w h0 h1).mono fun _ _ h=>⟨h.1,h.2.symm⟩
end Go.Proofs.YtobdmlejabjmiaaGreatDoor
namespace Go.Proofs.YtobdmlejabjmiaaGreatDoor
def lowF:Nat->Nat->List UInt8
 | 0,_=>[]
 | f+1,n=>if n=0 then [] else UInt8.ofNat (n % 256)::lowF f (n / 256)
def low(n:Nat):List UInt8:=lowF 8 n
def putNum(n:Nat):List UInt8:=UInt8.ofNat (low n).length::(low n).reverse
theorem qs(f:Nat):lowF f 0=[]:=by cases f<;>simp[lowF]
theorem lowF_len (f n : Nat) : (lowF f n).length ≤ f := by
  induction f generalizing n with
  | zero => simp [lowF]
  | succ f ih => simp only [lowF]; split
                 · simp
                 · simp; exact ih _
theorem jJ(n:Nat):(low n).length<=8:=lowF_len 8 n
theorem qr(f n:Nat)(h:n<256 ^ f)(h0:n≠0):1<=(lowF f n).length/\256 ^ ((lowF f n).length - 1)<=n/\n<256 ^ (lowF f n).length:=by
 induction f generalizing n with
 | zero=>simp at h;omega
 | succ f ih =>
  simp only[lowF,if_neg h0];by_cases h1:n / 256=0
  ·rw[h1,qs];simp;omega
  ·obtain⟨a,b,c⟩:=ih (n / 256) (by rw[Nat.pow_succ] at h;omega) h1;refine⟨by simp,?_,?_⟩
   ·simp only[List.length_cons,Nat.add_sub_cancel];generalize hk:(lowF f (n / 256)).length=k at *;obtain⟨k,rfl⟩:∃j,k=j+1:=⟨k - 1,by omega⟩;rw[Nat.add_sub_cancel] at b;rw[Nat.pow_succ];omega
   ·simp only[List.length_cons];rw[Nat.pow_succ];omega
theorem zc2(f n i:Nat)(h:i<(lowF f n).length):(lowF f n)[i]=UInt8.ofNat (n / 256 ^ i % 256):=by
 induction f generalizing n i with
 | zero=>simp[lowF] at h
 | succ f ih =>
  by_cases h0:n=0
  ·subst h0;simp[lowF] at h
  ·have e:lowF (f+1) n=UInt8.ofNat (n % 256)::lowF f (n / 256):=(by simp[lowF,h0]);simp only[e] at h ⊢
   match i with
   | 0=>simp
   | i+1 =>
    simp only[List.getElem_cons_succ];rw[ih (n / 256) i (by simpa using h),Nat.pow_succ,Nat.mul_comm,Nat.div_div_eq_div_mul]
theorem low_get(n i:Nat)(h:i<(low n).length):(low n)[i]=UInt8.ofNat (n / 256 ^ i % 256):=zc2 8 n i h
theorem zdw(n:Nat)(h:n<18446744073709551616):(Lib.bitLen n+7) / 8=(low n).length:=by
 by_cases h0:n=0
 ·subst h0;decide
 ·obtain⟨a,b,c⟩:=Lib.bitLenAux_bounds 64 n (by omega) h0;obtain⟨a',b',c'⟩:=qr 8 n (by omega) h0;unfold Lib.bitLen low;generalize Lib.bitLenAux 64 n=x at *;generalize (lowF 8 n).length=y at *;have e1:(256:Nat) ^ y=2 ^ (8*y):=by rw[show(256:Nat)=2 ^ 8 from rfl,<-Nat.pow_mul]
  have e2:(256:Nat) ^ (y - 1)=2 ^ (8*(y - 1)):=by rw[show(256:Nat)=2 ^ 8 from rfl,<-Nat.pow_mul]
  rw[e1] at c';rw[e2] at b';have l1:x - 1<8*y:=(Nat.pow_lt_pow_iff_right (a:=2) (by omega)).1 (Nat.lt_of_le_of_lt b c');have l2:8*(y - 1)<x:=(Nat.pow_lt_pow_iff_right (a:=2) (by omega)).1 (Nat.lt_of_le_of_lt b' c);omega
theorem u8_of{n:Nat}(h:n<256):((UInt8.ofNat n).toNat:Int)=(n:Int):=by
 rw[UInt8.toNat_ofNat'];omega
theorem shr_byte(n:Int)(i:Nat)(h:0<=n):n / 2 ^ (8*i) % 256=((UInt8.ofNat (n.toNat / 256 ^ i % 256)).toNat:Int):=by
 obtain⟨m,rfl⟩:=Int.eq_ofNat_of_zero_le h;rw[u8_of (Nat.mod_lt _ (by omega)),Int.toNat_natCast,show(256:Nat) ^ i=2 ^ (8*i) by rw[show(256:Nat)=2 ^ 8 from rfl,<-Nat.pow_mul]];simp
theorem drop_rev{l:List UInt8}{i:Nat}(h:i<l.length):(l.drop i).reverse=(l.drop (i+1)).reverse++[l[i]]:=by
 rw[List.drop_eq_getElem_cons h];simp
def poly:Nat:=3988292384
def crcBit(r:Nat):Nat:=(r / 2) ^^^ (if r % 2=1 then poly else 0)
def crcBits:Nat->Nat->Nat
 | 0,r=>r
 | k+1,r=>crcBits k (crcBit r)
def crcByte(r x:Nat):Nat:=crcBits 8 (r ^^^ x)
def crcL(r:Nat)(l:List UInt8):Nat:=l.foldl (fun r x=>crcByte r x.toNat) r
theorem zfA{a b:Nat}(ha:a<4294967296)(hb:b<4294967296):a ^^^ b<4294967296:=Nat.xor_lt_two_pow (n:=32) ha hb
theorem zeo{r:Nat}(h:r<4294967296):crcBit r<4294967296:=by
 unfold crcBit;refine zfA (by omega) ?_;split<;>decide
theorem zai(k:Nat):∀{r:Nat},r<4294967296->crcBits k r<4294967296:=by
 induction k with
 | zero=>intro r h;exact h
 | succ k ih=>intro r h;exact ih (zeo h)
theorem zdy{r x:Nat}(h:r<4294967296)(hx:x<4294967296):crcByte r x<4294967296:=zai 8 (zfA h hx)
theorem zca{r:Nat}(h:r<4294967296)(l:List UInt8):crcL r l<4294967296:=by
 induction l generalizing r with
 | nil=>exact h
 | cons x l ih=>exact ih (zdy h (by have:=x.toNat_lt;omega))
theorem zep(r:Nat)(l:List UInt8)(x:UInt8):crcL r (l++[x])=crcByte (crcL r l) x.toNat:=by simp[crcL]
theorem zb9(r:Nat)(l m:List UInt8):crcL r (l++m)=crcL (crcL r l) m:=by simp[crcL]
theorem jQ(k r:Nat):crcBits (k+1) r=crcBit (crcBits k r):=by
 induction k generalizing r with
 | zero=>rfl
 | succ k ih=>rw[crcBits,ih];rfl
theorem ones_xor(s:Nat)(h:s<4294967296):4294967295 ^^^ s=4294967295 - s:=by
 have h1:(BitVec.allOnes 32 ^^^ BitVec.ofNat 32 s).toNat=(~~~ (BitVec.ofNat 32 s)).toNat:=by rw[BitVec.allOnes_xor]
 rw[BitVec.toNat_xor,BitVec.toNat_not,BitVec.toNat_allOnes,BitVec.toNat_ofNat,Nat.mod_eq_of_lt (by omega)] at h1;simpa using h1
def crc(l:List UInt8):Nat:=4294967295 - crcL 4294967295 l
end Go.Proofs.YtobdmlejabjmiaaGreatDoor
namespace Go.Proofs.YtobdmlejabjmiaaGreatDoor
open Go.RowKit
theorem zcr(A:Option Addr)(c:Nat)(b:List UInt8)(n:Int)(w:World)(h:RB w A b)(hl:b.length<=219000000000000)(h0:0<=n)(h1:n<=18446744073709551615) :
  Calls Tryz.prog 98 #[.slice A b.length c,.int .u64 n] w (NewB w (b++putNum n.toNat)):=by
 have hk:=zdw n.toNat (by omega);have hk8:=jJ n.toNat;have hb64:Lib.bitLen n.toNat<=64:=Lib.bitLen_le _ 64 (by omega) (by omega);have HK:=qh hk;clear hk;go_enter Tryz.func98,Tryz.ntmps98;go_wp2_with fail;refine(len64 n _ h0 h1).mono ?_;rintro e w' ⟨rfl,rfl⟩;obtain⟨bl,hbl⟩:∃bl,bl=Lib.bitLen n.toNat:=⟨_,rfl⟩;rw[<-hbl];rw[<-hbl] at hb64 HK;clear hbl;go_wp2_with fail;refine(qc A c b _ h (by omega)).mono ?_;rintro e w1 ⟨k1,A1,c1,hk1,hk2,hk3,rfl,ho1,hb1⟩;go_wp2_with fail;refine(clipB A1 c1 k1 _ ho1.cap.1 ho1.cap.2).mono ?_;rintro e w' ⟨rfl,rfl⟩;have x1:(((bl:Int)+7) / 8)<=8:=by omega
 have x0:0<=(((bl:Int)+7) / 8):=by omega
 have V:((bl:Int)+7) / 8=((UInt8.ofNat ((bl+7) / 8)).toNat:Int):=by rw[u8_of (by omega)];omega
 have HV:=qh V;clear V;go_wp2_with (at_builtin;refine zeg _ rfl (.tmp 14) (.tmp 17) rfl w.heap.size _ _ _ _ k1 [UInt8.ofNat ((bl+7) / 8)] rfl rfl ho1.none_len (ho1.rb.alloc _) (RB.one _ _ HV.out) (by simp) (by simp) (by simp;omega) (by have:=hb1.size;simp;omega) ?_;intro k2 A2 c2 w2 hk2' hk21 hk22 ho2 hb2);have hkk:k2.length<=b.length+1:=by simp at hk21;omega
 have H2:Hid (k2=b++UInt8.ofNat ((bl+7) / 8)::((low n.toNat).drop ((bl+7) / 8)).reverse):=qh (by
  rw[hk2'.out,hk1.out,HK.out,List.drop_length];simp)
 have hb2':Below w.heap.size w w2:=(hb1.alloc hb1.size _).trans (hb2.mono (by have:=hb1.size;simp;omega));clear hk2' hk1 HV h ho1 hk21 hk22;go_loopw [6,7] (fun v i wr=>∃(j:Nat) (k:List UInt8) (A:Option Addr) (cc:Nat),j<=(bl+7) / 8/\i=.int .i64 ((j:Int) - 1)/\v=.slice A k.length cc/\k.length+j<=b.length+9 /\
   Hid (k=b++UInt8.ofNat ((bl+7) / 8)::((low n.toNat).drop j).reverse)/\OB wr w.heap.size A cc k/\Below w.heap.size w wr)
  (fun _ i _=>(intOf i+1).toNat)
 case atStart=>exact⟨(bl+7) / 8,k2,A2,c2,by omega,by go_num,rfl,by omega,H2,ho2,hb2'⟩
 case round =>
  obtain⟨j,k,A3,c3,hj,rfl,rfl,hk9,hkk3,ho3,hb3⟩:=hrel;by_cases hj0:j=0
  ·subst hj0;go_wp2_with fail;go_ret;exact newB (by rw[hkk3.out,HK.out];simp[putNum]) ho3 hb3
  ·obtain⟨i,rfl⟩:∃i,j=i+1:=⟨j - 1,by omega⟩;clear hj0;have HV:=qh (shr_byte n i h0);go_wp2_with (at_builtin;refine zO _ rfl (.tmp 25) (.tmp 31) rfl w.heap.size _ _ _ _ k [UInt8.ofNat (n.toNat / 256 ^ i % 256)] rfl rfl (ho3.alloc _) (RB.one _ _ HV.out) (by simp;omega) (by have:=hb3.size;simp;omega) ?_;intro k4 A4 c4 w4 hk4 hk41 hk42 ho4 hg4);have hk4b:k4.length<=k.length+1:=(by simpa using hk41);have hb4:Below w.heap.size w w4:=(hb3.alloc hb3.size _).grown hg4 (by have:=hb3.size;simp;omega) fun g hg=>(ho3.own_lt g hg).1
   have H4:Hid (k4=b++UInt8.ofNat ((bl+7) / 8)::((low n.toNat).drop i).reverse):=qh (by
    have hi:i<(low n.toNat).length:=(by have:=HK.out;omega);rw[hk4.out,hkk3.out,drop_rev hi,low_get _ _ hi];simp)
   clear hk4 hk41 hk42 hg4 HV hb3 ho3 hkk3;go_roundw
   case rel=>exact⟨i,k4,A4,c4,by omega,by go_num,rfl,by omega,H4,ho4,hb4⟩
   case measure=>simp[intOf]
def putB(l:List UInt8):List UInt8:=putNum l.length++l
def putAll(L:List (Option Addr × Nat × List UInt8)):List UInt8:=L.flatMap fun t=>putB t.2.2
theorem yO(n:Nat):(putNum n).length<=9:=by simp[putNum];exact jJ n
theorem putB_len(l:List UInt8):(putB l).length<=l.length+9:=by have:=yO l.length;simp[putB];omega
theorem qG(L:List (Option Addr × Nat × List UInt8))(k:Nat)(h:k<L.length):putAll (L.take (k+1))=putAll (L.take k)++putNum L[k].2.2.length++L[k].2.2:=by
 rw[List.take_succ_eq_append_getElem h];unfold putAll;rw[List.flatMap_append];simp[putB]
theorem ze3(L:List (Option Addr × Nat × List UInt8))(k:Nat):(putAll (L.take k)).length<=(putAll L).length:=by
 conv=>rhs;rw[<-List.take_append_drop k L]
 unfold putAll;rw[List.flatMap_append];simp
theorem ze4(A X:Option Addr)(c d:Nat)(b:List UInt8)(L:List (Option Addr × Nat × List UInt8))(w:World)(h:RB w A b)(hX:RBB w X L)(hL:L.length<=9223372036854775807)
  (hl:b.length+(putAll L).length<=218000000000000) :
  Calls Tryz.prog 166 #[.slice A b.length c,.slice X L.length d] w (NewB w (b++putAll L)):=by
 go_enter Tryz.func166,Tryz.ntmps166;go_wp2_with fail;refine(qc A c b _ h (by omega)).mono ?_;rintro e w1 ⟨k1,A1,c1,hk1,hk2,hk3,rfl,ho1,hb1⟩;go_wp2_with fail;go_loopw [5,12] (fun v i wr=>∃(k:Nat) (q:List UInt8) (B:Option Addr) (cb:Nat),k<=L.length/\i=.int .i64 (k:Int)/\v=.slice B q.length cb /\
   Hid (q=b++putAll (L.take k))/\OB wr w.heap.size B cb q/\Below w.heap.size w wr)
  (fun _ i _=>L.length - (intOf i).toNat)
 case atStart=>exact⟨0,k1,A1,c1,Nat.zero_le _,rfl,rfl,qh (by rw[hk1.out];simp[putAll]),ho1,hb1⟩
 case round =>
  obtain⟨k,q,B,cb,hk,rfl,rfl,hq,ho,hb⟩:=hrel;by_cases hlt:k<L.length
  ·obtain⟨bb,off,rfl,hbl,hc⟩:=(hX.below hb).cell hlt;obtain⟨hr1,hr2⟩:=hX.each L[k] (List.getElem_mem hlt);have hq1:q.length+9+L[k].2.2.length<=219000000000000:=by
    have h1:=ze3 L (k+1);rw[qG L k hlt] at h1;have h2:=congrArg List.length hq.out;simp at h1 h2;omega
   obtain⟨y,hy⟩:∃y,y=L[k].2.2:=⟨_,rfl⟩;obtain⟨Y,hY⟩:∃Y,Y=L[k].1:=⟨_,rfl⟩;obtain⟨z,hz⟩:∃z,z=L[k].2.1:=⟨_,rfl⟩;rw[<-hy,<-hY,<-hz] at hc;rw[<-hy] at hq1 hr2;rw[<-hy,<-hY] at hr1;have HY:=qh hy;clear hy hY hz hk1 hk2 hk3 ho1 hb1;go_wp2_with fail;refine(zcr B cb q y.length _ ho.rb (by omega) (by omega) (by omega)).mono ?_;rintro e w2 ⟨k2,A2,c2,hk2,hk21,hk22,rfl,ho2,hb2⟩;have hk2b:k2.length<=q.length+9:=by
    have:=yO (y.length:Int).toNat;rw[List.length_append] at hk21;omega
   have hr2':RB w2 Y y:=(hr1.below hb).below hb2;have hb2':Below w.heap.size w w2:=hb.trans (hb2.mono hb.size);have H2:=qh (show k2=q++putNum y.length by rw[hk2.out];simp);clear hk2 hk21 hk22;go_wp2_with (at_builtin;refine zO _ rfl (.tmp 20) (.tmp 21) rfl w.heap.size _ _ _ _ k2 y rfl rfl (ho2.base_le hb.size) hr2' (by omega) hb2'.size ?_;intro k4 A4 c4 w4 hk4 hk41 hk42 ho4 hg4);have hb4:Below w.heap.size w w4:=hb2'.grown hg4 hb2'.size fun g hg=>(by have:=(ho2.own_lt g hg).1;have:=hb.size;omega);have H4:Hid (k4=b++putAll (L.take (k+1))):=qh (by
    rw[hk4.out,H2.out,hq.out,qG L k hlt,<-HY.out];simp)
   clear hk4 hk41 hk42 hg4 hb2 hb2' ho2 hr2' ho hb hq H2 hc hr1;go_roundw
   case rel=>exact⟨k+1,k4,A4,c4,by omega,by go_num,rfl,H4,ho4,hb4⟩
   case measure=>simp[intOf];omega
  ·go_wp2_with fail;go_ret;exact newB (by rw[hq.out,List.take_of_length_le (by omega)]) ho hb
end Go.Proofs.YtobdmlejabjmiaaGreatDoor
namespace Go.Proofs.YtobdmlejabjmiaaGreatDoor
open Go.Lib
def riseAt(l:List Int)(k:Nat):Bool:=decide (1<=l.getD k 0) && decide (l.getD k 0<=16) && (decide (k=0) || decide (l.getD (k - 1) 0<l.getD k 0))
def risesB(l:List Int):Bool:=(List.range l.length).all (riseAt l)
theorem zaA{l:List Int}(h:∀k,k<l.length->riseAt l k=true):risesB l=true:=by
 unfold risesB;rw[List.all_eq_true];exact fun k hk=>h k (List.mem_range.1 hk)
theorem xH{l:List Int}(h:risesB l=true){k:Nat}(hk:k<l.length):riseAt l k=true:=by
 unfold risesB at h;rw[List.all_eq_true] at h;exact h k (List.mem_range.2 hk)
theorem xl{l:List Int}{k:Nat}(hk:k<l.length)(h:riseAt l k=false):risesB l=false:=by
 cases e:risesB l with
 | false=>rfl
 | true=>rw[xH e hk] at h;cases h
theorem zdj{l:List Int}(h:risesB l=true):∀k,k<l.length->(k:Int)+1<=l.getD k 0
 | 0,hk=>by
  have:=xH h hk;unfold riseAt at this;simp only[Bool.and_eq_true,decide_eq_true_eq] at this;omega
 | k+1,hk=>by
  have h1:=zdj h k (by omega);have:=xH h hk;unfold riseAt at this;simp only[Bool.and_eq_true,Bool.or_eq_true,decide_eq_true_eq,Nat.add_sub_cancel] at this;omega
theorem zD{l:List Int}(h:risesB l=true):l.length<=16:=by
 rcases Nat.eq_zero_or_pos l.length with h0 | h0
 ·omega
 ·have h1:=zdj h (l.length - 1) (by omega);have:=xH h (k:=l.length - 1) (by omega);unfold riseAt at this;simp only[Bool.and_eq_true,decide_eq_true_eq] at this;omega
theorem j5{l:List Int}(h:risesB l=true):∀z∈l,1<=z/\z<=16:=by
 intro z hz;obtain⟨k,hk,rfl⟩:=List.mem_iff_getElem.1 hz;have:=xH h hk;unfold riseAt at this;simp only[Bool.and_eq_true,decide_eq_true_eq,List.getD_eq_getElem?_getD,List.getElem?_eq_getElem hk,Option.getD_some] at this;exact this.1
def confB(v l:List Int):Bool:=risesB v && risesB l && decide (0<v.length) && !(v.any fun n=>l.contains n)
def shotB(i t:Nat)(v l:List Int)(n:Nat):Bool:=confB v l && decide (n<=32768) && (decide (i=0) == decide (t=0)) && decide (i<=4611686018427387904) && decide (t<=4611686018427387904)
def hardB(v:Int):Bool:=decide (0<=v) && decide (v<=16)
theorem zP{v l:List Int}(h:confB v l=true):risesB v=true/\risesB l=true/\0<v.length:=by
 unfold confB at h;simp only[Bool.and_eq_true,decide_eq_true_eq] at h;exact⟨h.1.1.1,h.1.1.2,h.1.2⟩
theorem zI{i t n:Nat}{v l:List Int}(h:shotB i t v l n=true):confB v l=true/\n<=32768/\(i=0 ↔ t=0)/\i<=4611686018427387904/\t<=4611686018427387904:=by
 unfold shotB at h;simp only[Bool.and_eq_true,decide_eq_true_eq,beq_iff_eq] at h;refine⟨h.1.1.1.1,h.1.1.1.2,?_,h.1.2,h.2⟩;have:=h.1.1.2;by_cases h1:i=0<;>by_cases h2:t=0<;>simp_all
def putNums(ns:List Int):List UInt8:=ns.flatMap fun n=>putNum n.toNat
theorem xG(ns:List Int)(k:Nat)(h:k<ns.length):putNums (ns.take (k+1))=putNums (ns.take k)++putNum ns[k].toNat:=by
 unfold putNums;rw[List.take_add_one,List.getElem?_eq_getElem h,List.flatMap_append];simp
theorem zw(ns:List Int):(putNums ns).length<=9*ns.length:=by
 induction ns with
 | nil=>simp[putNums]
 | cons n l ih =>
  have h1:=yO n.toNat;unfold putNums at ih ⊢;simp only[List.flatMap_cons,List.length_append,List.length_cons];omega
def idsB(l:List Int):List UInt8:=putNums [(l.length:Int)]++putNums l
def shotBytes(i t:Nat)(v l:List Int)(d:List UInt8):List UInt8:=putNums [(i:Int),(t:Int)]++idsB v++idsB l++putB d
def hardBytes(t:Nat)(v:Int):List UInt8:=putNums [(t:Int),v]
theorem jm(t:Nat)(v:Int):(hardBytes t v).length<=18:=zw _
end Go.Proofs.YtobdmlejabjmiaaGreatDoor
namespace Go.Proofs.YtobdmlejabjmiaaGreatDoor
open Go.RowKit
theorem OV.made0(w:World){base:Nat}(T:TypeId)(hb:base<=w.heap.size):OV (w.alloc (.cells #[] T)) base T (some ⟨w.heap.size,0,none⟩) 0 [] :=
 World.ownsRow_made w #[] 0 hb (Nat.zero_le _) rfl
theorem jP(w:World){ops:Array Oper}{rest:List Oper}{o:Oper}{a:Act}{Q:Exit->Act->World->Prop}(hgd:o.guard=none)(s x:Operand)(t e:TypeId){i:TypeInfo}{z:Value}{bytes:Nat}
  (ho:o.op=.call { callee:=.builtin .append,args:=#[s,x],argTypes:=#[t,t] })
  (ht:Tryz.prog.underlying t=some (.slice e)) (hi:Tryz.prog.info? e=some i) (hz0:i.zero=some z) (hz1:i.size=1) (hz2:i.bytes=bytes) (hzs:z.cells.size=1)
  (base:Nat) (A X:Option Addr) (c d:Nat) (xs zs:List Value) (hs:a.eval s=.slice A xs.length c) (hx:a.eval x=.slice X zs.length d)
  (hown:OV w base e A c xs) (hv:RV w X zs) (h1:∀v∈zs,v.oneCell'=true) (hlen:(xs.length+zs.length)*bytes<=140737488355328) (hl2:xs.length+zs.length<=140737488355328) (hbase:base<=w.heap.size)
  (h:∀(ys:List Value) (A':Option Addr) (c':Nat) (w':World),Hid (ys=xs++zs)->ys.length<=xs.length+zs.length->xs.length+zs.length<=ys.length->OV w' base e A' c' ys->w.grownBy w' (Value.slice A xs.length c).ownBlock->(A'.map (·.block)=A.map (·.block)\/A'.map (·.block)=some w.heap.size) ->
   wpList Tryz.prog ops Q rest (a.put o.dst (.slice A' ys.length c')) w'):wpList Tryz.prog ops Q (o::rest) a w:=by
 rcases Nat.eq_zero_or_pos zs.length with h0 | h0
 ·have hm0:zs=[]:=List.eq_nil_of_length_eq_zero h0;subst hm0;refine wpList_plain hgd fun K hK=>?_
  have hrun:(Builtin.append_ #[t,t] o.type #[.slice A xs.length c,.slice X 0 d]).run Tryz.prog w=.ok (.slice A xs.length c) w:=by
   rcases hown.form with⟨rfl,rfl,rfl⟩ | ⟨g,rfl,_,_,hc,_⟩
   ·rcases X with _ | X
    ·simp[Builtin.append_,run_underlying ht,sizeOf,typeInfo,hi,Builtin.lenOf,Builtin.firstCells]
    ·have hf:=run_firstCells_some (P:=Tryz.prog) w i.size 0 X 0 d [] (by simp) (by simp);simp[Builtin.append_,run_underlying ht,sizeOf,typeInfo,hi,Builtin.lenOf,hf]
   ·rcases X with _ | X
    ·simp[Builtin.append_,run_underlying ht,sizeOf,typeInfo,hi,Builtin.lenOf,Builtin.firstCells,hc,storeCells]
    ·have hf:=run_firstCells_some (P:=Tryz.prog) w i.size 0 X 0 d [] (by simp) (by simp);simp[Builtin.append_,run_underlying ht,sizeOf,typeInfo,hi,Builtin.lenOf,hf,hc,storeCells]
  unfold Oper.wp;simp only[List.length_nil] at hx;simp only[execOp,ho,resolve,invoke,builtin,Sem.run_bind,Sem.run_pure,Result.andThen_ok,List.map_toArray,List.map_cons,List.map_nil,hs,hx,hrun];exact hK _ _ (h xs A c w (qh (by simp)) (by simp) (by simp) hown (World.grownBy.refl w _) (.inl rfl))
 ·obtain⟨b,off,rfl,hb,hc⟩:=hv.at_ h0;have hadd:∀j,(⟨b,off,none⟩:Addr).add j=⟨b,off+j,none⟩:=by intro j;unfold Addr.add;split<;>simp_all
  refine wpList_append_own_at w hgd s x t ho base e i z 1 bytes ht hi hz0 hz1 hz2 hzs (by decide) _ xs.length xs hs hown ⟨b,off,none⟩ zs.length d zs hx (by simp) ?_ h1 (by unfold maxLen;omega) hlen hbase ?_
  ·intro j u hu;rw[hadd];exact hc j u hu
  ·intro v' w' hown' hg _ hat;obtain⟨A',c',hv',hob⟩:=OV.of_own hown';subst hv';refine h _ _ _ _ (qh rfl) (by simp) (by simp) hob hg ?_;rw[yh,yh] at hat;exact hat
end Go.Proofs.YtobdmlejabjmiaaGreatDoor
namespace Go.Proofs.YtobdmlejabjmiaaGreatDoor
def I64(n:Int):Prop:=-9223372036854775808<=n/\n<=9223372036854775807
theorem zeJ{x:Int}(h:(Lit.int .i64 x).wf=true):I64 x:=by
 simp[Lit.wf,IntKind.min,IntKind.max,IntKind.signed,IntKind.bits] at h;exact⟨by omega,by omega⟩
end Go.Proofs.YtobdmlejabjmiaaGreatDoor
namespace Go.Proofs.YtobdmlejabjmiaaGreatDoor
open Go.RowKit
theorem zdF(l:List UInt8):∀s:ByteArray,(l.map fun x=>(x.toNat:Int)).foldl (fun r n=>r.push (UInt8.ofNat n.toNat)) s=⟨(s.data.toList++l).toArray⟩:=by
 induction l with
 | nil=>intro s;simp
 | cons x l ih =>
  intro s;simp only[List.map_cons,List.foldl_cons,ih,Int.toNat_natCast];simp[ByteArray.push]
theorem convB{W:World}{A:Option Addr}{l:List UInt8}(c:Nat)(h:RB W A l) :
  (convert 34 9 (.slice A l.length c)).run Tryz.prog W=.ok (.string ⟨l.toArray⟩) W:=by
 rw[run_convert_bytes_string (P:=Tryz.prog) W 34 9 5 A l.length c Tryz.underlying34 Tryz.underlying5 Tryz.underlying9]
 rcases A with _ | ad
 ·have hl0:l=[]:=by
   rcases Nat.eq_zero_or_pos l.length with h0 | h0
   ·exact List.eq_nil_of_length_eq_zero h0
   ·obtain⟨b,off,e,_⟩:=h.at_ h0;cases e
  subst hl0;simp[Conv.bytesToString]
  rfl
 ·have hcells:∀j v,(bcells l)[j]?=some v->W.cell? (ad.add j)=some v:=by
   rcases Nat.eq_zero_or_pos l.length with h0 | h0
   ·have hl0:l=[]:=List.eq_nil_of_length_eq_zero h0;subst hl0;simp[bcells]
   ·obtain⟨b,off,e,_,hcl⟩:=h.at_ h0;injection e with e
    subst e;intro j u hu;rw[zX] at hu;obtain⟨y,hy,rfl⟩:=Option.map_eq_some_iff.1 hu;have hadd:(⟨b,off,none⟩:Addr).add j=⟨b,off+j,none⟩:=(by unfold Addr.add;split<;>simp_all);rw[hadd];exact hcl j y hy
  have hload:=run_loadCells_list (P:=Tryz.prog) W ad (bcells l) hcells;rw[zx] at hload;have e:bcells l=(l.map fun x=>(x.toNat:Int)).map (Value.int .u8):=by simp[bcells]
  rw[run_bytesToString W ad l.length c (l.map fun x=>(x.toNat:Int)) (by rw[hload,e]),zdF];simp
theorem jE(x y:List UInt8)(h:x.length+y.length<=9223372036854775807)(W:World):(Op.stringOp .add ⟨x.toArray⟩ ⟨y.toArray⟩).run Tryz.prog W=.ok (.string ⟨(x++y).toArray⟩) W:=by
 rw[run_string_add_sum W _ _ (by simp[ByteArray.size];omega),ByteArray.mk_append_mk]
def Blk(w:World)(g:Nat)(T:TypeId)(cs:Array Value):Prop:=w.heap[g]?=some (.cells cs T (0,0))
section
variable {w w':World} {g:Nat} {T:TypeId} {cs:Array Value}
theorem Blk.new(w:World)(cs:Array Value)(T:TypeId):Blk (w.alloc (.cells cs T)) w.heap.size T cs:=heap_alloc_new w _
theorem Blk.lt(h:Blk w g T cs):g<w.heap.size:=lt_of_block h
theorem Blk.cell(h:Blk w g T cs)(j:Nat){v:Value}(hv:cs[j]?=some v):w.cell? ⟨g,j,none⟩=some v:=by
 rw[cell_of_row w g j cs T (0,0) h];exact hv
theorem Blk.free(h:Blk w g T cs)(j:Nat):w.frozen? ⟨g,j,none⟩=false:=by simp[World.frozen?,show w.heap[g]?=_ from h]
theorem Blk.below{B:Nat}(h:Blk w g T cs)(hb:Below B w w')(hg:g<B):Blk w' g T cs:=by
 unfold Blk;rw[hb.block g hg];exact h
theorem Blk.kept(h:Blk w g T cs)(hb:Below w.heap.size w w'):Blk w' g T cs:=h.below hb h.lt
theorem Blk.grown{row:Option Nat}(h:Blk w g T cs)(hg:w.grownBy w' row)(hne:row≠some g):Blk w' g T cs:=by
 unfold Blk;rw[hg.block g h.lt (fun e=>hne e.symm)];exact h
theorem Blk.setRow(h:Blk w g T cs)(ds:Array Value):Blk (w.setRow g ds) g T ds:=setRow_heap w g cs ds T (0,0) h
theorem Blk.setRow_other{k:Nat}(h:Blk w g T cs)(ds:Array Value)(hk:g≠k):Blk (w.setRow k ds) g T cs:=by
 unfold Blk;rw[Go.setRow_other w k g ds hk];exact h
theorem Blk.setCell(h:Blk w g T cs)(j:Nat)(v:Value):Blk (w.setCell ⟨g,j,none⟩ v) g T (cs.setIfInBounds j v):=by
 unfold Blk;rw[setCell_eq_setRow w g j cs T (0,0) v h];exact setRow_heap w g cs _ T (0,0) h
theorem Blk.setCell_other{a:Addr}(h:Blk w g T cs)(v:Value)(hk:g≠a.block):Blk (w.setCell a v) g T cs:=by
 unfold Blk;rw[Below.heap_setCell w a v g hk];exact h
theorem Blk.drewN(h:Blk w g T cs)(n:Nat):Blk (w.drewN n) g T cs:=h
theorem zu{base k:Nat}{e:TypeId}{size:Nat}{v:Value}{n:Nat}{xs:List Value}(h:w.ownsRow base e size v n xs)(hk:v.ownBlock≠some k)(ds:Array Value):(w.setRow k ds).ownsRow base e size v n xs:=by
 obtain⟨h1,h2⟩:=h;refine⟨h1,?_⟩
 rcases h2 with h2 | ⟨g,cap,cur,hv,hg,hh,r⟩
 ·exact Or.inl h2
 ·subst hv;exact Or.inr ⟨g,cap,cur,rfl,hg,by rw[Go.setRow_other w k g ds (fun e=>hk (by simp[Value.ownBlock,e]))];exact hh,r⟩
theorem OB.setRow{base k:Nat}{A:Option Addr}{c:Nat}{l:List UInt8}(h:OB w base A c l)(hk:A.map (·.block)≠some k)(ds:Array Value):OB (w.setRow k ds) base A c l :=
 zu h (by rw[yh];exact hk) ds
theorem OB.setCell{base:Nat}{A:Option Addr}{c:Nat}{l:List UInt8}{a:Addr}(h:OB w base A c l)(hk:a.block<base)(v:Value):OB (w.setCell a v) base A c l :=
 ownsRow_setCell_below h hk v
end
structure Mods(S:Nat->Prop)(w w':World):Prop where
 os:w'.os=w.os
 tape:w'.tape=w.tape
 output:w'.output=w.output
 size:w.heap.size<=w'.heap.size
 block:∀k,k<w.heap.size->¬S k->w'.heap[k]?=w.heap[k]?
section
variable {S T:Nat->Prop} {w a b w':World}
theorem Mods.refl(S:Nat->Prop)(w:World):Mods S w w:=⟨rfl,rfl,rfl,Nat.le_refl _,fun _ _ _=>rfl⟩
theorem Mods.trans(h:Mods S w a)(k:Mods T a b)(hs:∀i,T i->S i\/w.heap.size<=i):Mods S w b :=
 ⟨k.os.trans h.os,k.tape.trans h.tape,k.output.trans h.output,Nat.le_trans h.size k.size,fun i hi hn=>(k.block i (Nat.lt_of_lt_of_le hi h.size) fun ht=>by
  rcases hs i ht with h1 | h1
  ·exact hn h1
  ·omega).trans (h.block i hi hn)⟩
theorem Mods.then(h:Mods S w a)(k:Mods S a b):Mods S w b:=h.trans k fun _ h=>.inl h
theorem Mods.mono(h:Mods S w a)(hs:∀i,i<w.heap.size->S i->T i):Mods T w a:=⟨h.os,h.tape,h.output,h.size,fun i hi hn=>h.block i hi fun hs'=>hn (hs i hi hs')⟩
theorem Mods.of_below(h:Below w.heap.size w a):Mods S w a:=⟨h.os,h.tape,h.output,h.size,fun i hi _=>h.block i hi⟩
theorem Mods.of_grown{row:Option Nat}(h:w.grownBy a row)(hs:∀k,row=some k->S k):Mods S w a:=⟨h.os,h.tape,h.output,h.size,fun i hi hn=>h.block i hi fun e=>hn (hs i e.symm)⟩
theorem Mods.below(h:Mods S w a)(k:Below a.heap.size a b):Mods S w b:=h.then (.of_below k)
theorem Mods.alloc(h:Mods S w a)(o:Obj):Mods S w (a.alloc o):=h.below ((Below.refl _ _).alloc (Nat.le_refl _) o)
theorem Mods.drewN(h:Mods S w a)(n:Nat):Mods S w (a.drewN n):=⟨h.os,h.tape,h.output,h.size,h.block⟩
theorem Mods.setCell(h:Mods S w a)(p:Addr)(hp:S p.block\/w.heap.size<=p.block)(v:Value):Mods S w (a.setCell p v) :=
 h.trans (T:=fun i=>i=p.block) ⟨rfl,rfl,rfl,by simp[World.setCell],fun i _ hn=>Below.heap_setCell a p v i hn⟩ fun i hi=>by subst hi;exact hp
theorem Mods.setRow(h:Mods S w a)(g:Nat)(hp:S g\/w.heap.size<=g)(cs:Array Value):Mods S w (a.setRow g cs) :=
 h.trans (T:=fun i=>i=g) ⟨rfl,rfl,rfl,by simp,fun i _ hn=>Go.setRow_other a g i cs hn⟩ fun i hi=>by subst hi;exact hp
theorem Mods.setObj(h:Mods S w a)(g:Nat)(hp:S g\/w.heap.size<=g)(o:Obj):Mods S w { a with heap:=a.heap.setIfInBounds g o } :=
 h.trans (T:=fun i=>i=g) ⟨rfl,rfl,rfl,by simp,fun i _ hn=>by simp[Ne.symm hn]⟩ fun i hi=>by subst hi;exact hp
theorem Mods.old{B:Nat}{w0:World}(h0:Below B w0 w)(h:Mods S w a)(hB:B<=w.heap.size)(hs:∀i,i<w.heap.size->S i->B<=i):Below B w0 a :=
 ⟨h.os.trans h0.os,h.tape.trans h0.tape,h.output.trans h0.output,Nat.le_trans h0.size h.size,fun i hi=>(h.block i (by omega) fun hs'=>by
  have:=hs i (by omega) hs';omega).trans (h0.block i hi)⟩
theorem Mods.cell(h:Mods S w a){p:Addr}(hp:p.block<w.heap.size)(hn:¬S p.block):a.cell? p=w.cell? p:=World.cell?_of_block (w:=w) (h.block _ hp hn)
theorem Blk.mods{g:Nat}{Ty:TypeId}{cs:Array Value}(h:Blk w g Ty cs)(m:Mods S w a)(hn:¬S g):Blk a g Ty cs:=by
 unfold Blk;rw[m.block g h.lt hn];exact h
theorem RB.mods{A:Option Addr}{l:List UInt8}(h:RB w A l)(m:Mods S w a)(hn:0<l.length->∀k,A.map (·.block)=some k->¬S k):RB a A l :=
 h.keep m.size fun b off h0 e hlt j=>m.cell (p:=⟨b,_,none⟩) hlt (hn h0 b (by rw[e];rfl))
theorem OB.mods{base c:Nat}{A:Option Addr}{l:List UInt8}(h:OB w base A c l)(m:Mods S w a)(hn:∀k,A.map (·.block)=some k->¬S k):OB a base A c l:=by
 refine⟨h.1,?_⟩
 rcases h.2 with h2 | ⟨g,cap,cur,hv,hg,hh,r⟩
 ·exact .inl h2
 ·injection hv with hv1 hv2 hv3
  subst hv1 hv3;exact .inr ⟨g,_,cur,rfl,hg,by rw[m.block g (lt_of_block hh) (hn g rfl)];exact hh,r⟩
end
theorem OB.blk_lt{w:World}{base:Nat}{A:Option Addr}{c:Nat}{l:List UInt8}(h:OB w base A c l):∀k,A.map (·.block)=some k->base<=k/\k<w.heap.size:=fun k hk=>h.own_lt k (by rw[yh];exact hk)
theorem RB.take{w:World}{A:Option Addr}{l:List UInt8}(h:RB w A l)(n:Nat):RB w A (l.take n):=by
 refine⟨fun hn=>?_⟩;obtain⟨b,off,e,hb,hc⟩:=h.at_ (by simp at hn;omega);refine⟨b,off,e,hb,fun j x hx=>hc j x ?_⟩;rw[List.getElem?_take] at hx;split at hx
 ·exact hx
 ·cases hx
theorem RB.blk_lt{w:World}{A:Option Addr}{l:List UInt8}(h:RB w A l)(hl:0<l.length):∀k,A.map (·.block)=some k->k<w.heap.size:=by
 intro k hk;obtain⟨b,off,rfl,hb,_⟩:=h.at_ hl;have:b=k:=by simpa using hk
 omega
end Go.Proofs.YtobdmlejabjmiaaGreatDoor
namespace Go.Proofs.YtobdmlejabjmiaaGreatDoor
open Go.ChangeShapes Go.WideShapes Go.ChangeAt Go.RowKit
open Go.ChangeMaps (open_string shut_string)
theorem own:ownKnob Tryz.prog.godebug=none:=by kernel_rfl
theorem laidOut:laidOutB Tryz.prog=true:=by kernel_rfl
theorem jx{H:Type}{enc:TypeId × Value->H}{P:Program}(hl:laidOutB P=true){W W':World}(hb:Below W.heap.size W W') :
  ∀(ts:List TypeId) (vs:List Value) (ds:List (DataW H)) (ps:List MemPlace),
   ts.all (fun t=>P.readableRec t && decide (t<P.types.size))=true->DataW.TrodAll enc P W 0 (fun _=>true) true ts vs ds ps ->
   DataW.TrodAll enc P W' 0 (fun b=>decide (b<W.heap.size)) true ts vs ds ps
 | [],[],[],_,_,h=>h
 | [],[],_::_,_,_,h=>h.elim
 | [],_::_,_,_,_,h=>h.elim
 | _::_,[],_,_,_,h=>h.elim
 | _::_,_::_,[],_,_,h=>h.elim
 | t::ts,v::vs,d::ds,ps,ht,h=>by
  obtain⟨p,q,hp,hq,e⟩:=h;simp only[List.all_cons,Bool.and_eq_true,decide_eq_true_eq] at ht;refine⟨p,q,Below.trod hl ht.1.1 ht.1.2 hp hb ?_,jx hl hb ts vs ds q ht.2 hq,e⟩;obtain⟨m,hm⟩:=hp;exact DataW.trod_lt m _ _ _ hm
theorem law_post{H:Type}{enc:TypeId × Value->H}{f:Func}{s:ChangeSpec}{W W':World}{args:Array Value}{ds gs:List (DataW H)}{before:List MemPlace}
  (hv:s.vars=[]) (hr:f.resultTypes=#[4]) (ht:f.params.toList.all (fun t=>Tryz.prog.readableRec t && decide (t<Tryz.prog.types.size))=true)
  (hs:s.fn H (ds++gs)={ results:=[.lit (.bool true)],args:=ds })
  (hW:DataW.Whole enc Tryz.prog f.params.toList s.vars false W args.toList ds gs before) (hb:Below W.heap.size W W') :
  s.post enc Tryz.prog f false true false false W args (.bool true) W':=by
 have hW':=hW;obtain⟨p,q,hA,hV,rfl,hfz,hnd⟩:=hW;rw[hv] at hV;obtain⟨rfl,rfl⟩:=trodVars_none hV;refine⟨ds,[],_,[],p,[],hW',?_,?_,?_,hb.frame _,fun h=>by cases h⟩
 ·rw[hs,hr];exact trodAll_mk1 (shut_bool Tryz.underlying4 _)
 ·rw[hs];exact jx laidOut hb _ _ _ _ ht hA
 ·rw[hs,hv]
  rfl
end Go.Proofs.YtobdmlejabjmiaaGreatDoor
