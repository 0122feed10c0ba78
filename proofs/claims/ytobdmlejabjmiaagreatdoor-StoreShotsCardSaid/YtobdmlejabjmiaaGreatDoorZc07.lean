/- Made small by a program. -/
import Derived.Test.YtobdmlejabjmiaaGreatDoorZc03
set_option maxRecDepth 20000
set_option maxHeartbeats 8000000
namespace Go.Proofs.YtobdmlejabjmiaaGreatDoor
def unB(l:List UInt8):Nat:=l.foldl (fun n x=>n*256+x.toNat) 0
theorem zbj(l:List UInt8)(x:UInt8):unB (l++[x])=unB l*256+x.toNat:=by simp[unB]
theorem unB_acc(l:List UInt8):∀n,l.foldl (fun n x=>n*256+x.toNat) n=n*256 ^ l.length+unB l/\unB l<256 ^ l.length:=by
 induction l with
 | nil=>intro n;simp[unB]
 | cons x l ih =>
  have hx:=x.toNat_lt;have h0:=ih x.toNat;have e0:unB (x::l)=x.toNat*256 ^ l.length+unB l:=by
   show l.foldl _ (0*256+x.toNat)=_;rw[Nat.zero_mul,Nat.zero_add];exact h0.1
  have hlt:unB (x::l)<256 ^ (x::l).length:=by
   rw[e0,List.length_cons,Nat.pow_succ];have:x.toNat*256 ^ l.length<=255*256 ^ l.length:=Nat.mul_le_mul_right _ (by omega);omega
  intro n;refine⟨?_,hlt⟩;rw[List.foldl_cons,(ih _).1,e0,List.length_cons,Nat.pow_succ,Nat.add_mul];rw[Nat.mul_comm (256 ^ l.length) 256,Nat.mul_assoc];omega
theorem zdq(l:List UInt8):unB l<256 ^ l.length:=(unB_acc l 0).2
theorem pow_step{k:Nat}(h:k<=7):(256:Nat) ^ k<=72057594037927936:=Nat.le_trans (Nat.pow_le_pow_right (by omega) h) (by decide)
theorem pow_full{k:Nat}(h:k<=8):(256:Nat) ^ k<=18446744073709551616:=Nat.le_trans (Nat.pow_le_pow_right (by omega) h) (by decide)
theorem unB_7(l:List UInt8)(h:l.length<=7):unB l<72057594037927936:=Nat.lt_of_lt_of_le (zdq l) (pow_step h)
theorem unB_8(l:List UInt8)(h:l.length<=8):unB l<18446744073709551616:=Nat.lt_of_lt_of_le (zdq l) (pow_full h)
def numH (l : List UInt8) : Nat × Nat × Nat :=
  if 0 < l.length then
    (if 8 < (l.getD 0 0).toNat ∨ (1 < l.length ∧ 0 < (l.getD 0 0).toNat ∧ (l.getD 1 0).toNat = 0) then (0, 0, 4)
     else if l.length ≤ (l.getD 0 0).toNat then (0, 0, 5) else (unB ((l.drop 1).take (l.getD 0 0).toNat), 1 + (l.getD 0 0).toNat, 0))
  else (0, 0, 5)
def numAt(b:List UInt8)(i:Int):Int × Int × Int :=
 if 0<=i/\i<=(b.length:Int) then
  (if (numH (b.drop i.toNat)).2.2=0 then(((numH (b.drop i.toNat)).1:Int),i+((numH (b.drop i.toNat)).2.1:Int),0) else(0,0,((numH (b.drop i.toNat)).2.2:Int)))
 else(0,0,1)
theorem xD{b:List UInt8}{i:Int}(h:i<0\/(b.length:Int)<i):numAt b i=(0,0,1):=by
 rw[numAt,if_neg (by omega)]
theorem jq{b:List UInt8}:numAt b (b.length:Int)=(0,0,5):=by
 rw[numAt,if_pos (by omega)];simp[numH]
theorem xe(b:List UInt8)(a j:Nat):(b.drop a).getD j 0=b.getD (a+j) 0:=by simp[List.getD_eq_getElem?_getD,List.getElem?_drop]
theorem xO{b:List UInt8}{j:Nat}(h:j<b.length):b.getD j 0=b[j]:=by simp[List.getD_eq_getElem?_getD,h]
theorem yM{b:List UInt8}{a:Nat}(h:a<b.length)(hx:8<b[a].toNat\/(0<b[a].toNat/\∃h2:a+1<b.length,b[a+1].toNat=0)):numAt b (a:Int)=(0,0,4):=by
 have e:numH (b.drop a)=(0,0,4):=by
  rw[numH,if_pos (by rw[List.length_drop];omega),if_pos];rw[xe,xe,Nat.add_zero,xO h,List.length_drop]
  rcases hx with hx | ⟨h0,h2,h3⟩
  ·exact .inl hx
  ·exact .inr ⟨by omega,h0,by rw[xO h2];exact h3⟩
 rw[numAt,if_pos (by omega),Int.toNat_natCast,e,if_neg (by decide)]
 rfl
theorem xw{b:List UInt8}{a:Nat}(h:a<b.length)(hx:b[a].toNat<=8)(hz:∀h2:a+1<b.length,b[a].toNat=0\/b[a+1].toNat≠0)(hs:b.length<=a+b[a].toNat):numAt b (a:Int)=(0,0,5):=by
 have e:numH (b.drop a)=(0,0,5):=by
  rw[numH,if_pos (by rw[List.length_drop];omega),xe,xe,Nat.add_zero,xO h,List.length_drop,if_neg,if_pos (by omega)];rintro(h1 | ⟨h1,h2,h3⟩)
  ·omega
  ·rw[xO (show a+1<b.length by omega)] at h3
   rcases hz (by omega) with h4 | h4<;>omega
 rw[numAt,if_pos (by omega),Int.toNat_natCast,e,if_neg (by decide)]
 rfl
theorem xE{b:List UInt8}{a:Nat}(h:a<b.length)(hx:b[a].toNat<=8)(hz:∀h2:a+1<b.length,b[a].toNat=0\/b[a+1].toNat≠0)(hs:a+b[a].toNat<b.length) :
  numAt b (a:Int)=((unB ((b.drop (a+1)).take b[a].toNat):Int),(a:Int)+1+(b[a].toNat:Int),0):=by
 have e:numH (b.drop a)=(unB ((b.drop (a+1)).take b[a].toNat),1+b[a].toNat,0):=by
  rw[numH,if_pos (by rw[List.length_drop];omega),xe,xe,Nat.add_zero,xO h,List.length_drop,if_neg,if_neg (by omega),List.drop_drop];rintro(h1 | ⟨h1,h2,h3⟩)
  ·omega
  ·rw[xO (show a+1<b.length by omega)] at h3
   rcases hz (by omega) with h4 | h4<;>omega
 rw[numAt,if_pos (by omega),Int.toNat_natCast,e,if_pos rfl];simp only[Prod.mk.injEq,true_and,and_true];omega
theorem zbX(b:List UInt8)(a j:Nat)(h:a+j<b.length):((b.drop a).take (j+1))=(b.drop a).take j++[b[a+j]]:=by
 rw[List.take_succ_eq_append_getElem (by rw[List.length_drop];omega),List.getElem_drop]
theorem yS(b:List UInt8)(i:Int):0<=(numAt b i).1/\(numAt b i).1<=18446744073709551615/\0<=(numAt b i).2.1/\(numAt b i).2.1<=(b.length:Int)/\0<=(numAt b i).2.2/\(numAt b i).2.2<=5:=by
 by_cases hi:0<=i/\i<=(b.length:Int)
 ·obtain⟨a,rfl⟩:=Int.eq_ofNat_of_zero_le hi.1;by_cases ha:a<b.length
  ·by_cases hx:8<b[a].toNat\/(0<b[a].toNat/\∃h2:a+1<b.length,b[a+1].toNat=0)
   ·rw[yM ha hx];simp only;omega
   ·have hx8:b[a].toNat<=8:=(by omega);have hz:∀h2:a+1<b.length,b[a].toNat=0\/b[a+1].toNat≠0:=fun h2=>by
     by_cases h0:b[a].toNat=0
     ·exact .inl h0
     ·exact .inr fun h3=>hx (.inr ⟨by omega,h2,h3⟩)
    by_cases hs:b.length<=a+b[a].toNat
    ·rw[xw ha hx8 hz hs];simp only;omega
    ·rw[xE ha hx8 hz (by omega)];have:=unB_8 ((b.drop (a+1)).take b[a].toNat) (by simp;omega);simp only;omega
  ·have:a=b.length:=(by omega);subst this;rw[jq];simp only;omega
 ·rw[xD (by omega)];simp only;omega
theorem jr{b:List UInt8}{i:Int}(h:(numAt b i).2.2=0):0<=i/\i+1<=(numAt b i).2.1/\(numAt b i).2.1<=(b.length:Int):=by
 by_cases hi:0<=i/\i<=(b.length:Int)
 ·have hr:=(yS b i).2.2.2.1;refine⟨hi.1,?_,hr⟩;obtain⟨a,rfl⟩:=Int.eq_ofNat_of_zero_le hi.1;by_cases ha:a<b.length
  ·by_cases hx:8<b[a].toNat\/(0<b[a].toNat/\∃h2:a+1<b.length,b[a+1].toNat=0)
   ·rw[yM ha hx] at h;simp at h
   ·have hx8:b[a].toNat<=8:=(by omega);have hz:∀h2:a+1<b.length,b[a].toNat=0\/b[a+1].toNat≠0:=fun h2=>by
     by_cases h0:b[a].toNat=0
     ·exact .inl h0
     ·exact .inr fun h3=>hx (.inr ⟨by omega,h2,h3⟩)
    by_cases hs:b.length<=a+b[a].toNat
    ·rw[xw ha hx8 hz hs] at h;simp at h
    ·rw[xE ha hx8 hz (by omega)];simp only;omega
  ·have:a=b.length:=(by omega);subst this;rw[jq] at h;simp at h
 ·rw[xD (by omega)] at h;simp at h
def bytesAt(b:List UInt8)(i:Int):List UInt8 × Int × Int :=
 if (numAt b i).2.2=0 then
  (if (numAt b i).2.1+(numAt b i).1<=(b.length:Int) then((b.drop (numAt b i).2.1.toNat).take (numAt b i).1.toNat,(numAt b i).2.1+(numAt b i).1,0) else([],0,5))
 else([],0,(numAt b i).2.2)
def four4(n:Nat):List UInt8:=[UInt8.ofNat (n / 16777216),UInt8.ofNat (n / 65536 % 256),UInt8.ofNat (n / 256 % 256),UInt8.ofNat (n % 256)]
theorem zbk{n:Nat}(h:n<4294967296):unB (four4 n)=n:=by
 have e:unB (four4 n)=(((UInt8.ofNat (n / 16777216)).toNat*256+(UInt8.ofNat (n / 65536 % 256)).toNat)*256+(UInt8.ofNat (n / 256 % 256)).toNat)*256+(UInt8.ofNat (n % 256)).toNat:=by simp[unB,four4]
 rw[e];simp only[UInt8.toNat_ofNat'];omega
def unfrAt (b : List UInt8) (i : Int) : List UInt8 × Int × Int :=
  if 0 ≤ i ∧ i ≤ (b.length : Int) then
    (if (b.length : Int) - i < 8 then ([], 0, 5)
     else if 65536 < unB ((b.drop i.toNat).take 4) then ([], 0, 7)
     else if (b.length : Int) - i - 8 < (unB ((b.drop i.toNat).take 4) : Int) then ([], 0, 5)
     else if crc ((b.drop i.toNat).take 4 ++ (b.drop (i.toNat + 8)).take (unB ((b.drop i.toNat).take 4))) = unB ((b.drop (i.toNat + 4)).take 4) then ((b.drop (i.toNat + 8)).take (unB ((b.drop i.toNat).take 4)), i + 8 + (unB ((b.drop i.toNat).take 4) : Int), 0)
     else ([], 0, 6))
  else ([], 0, 1)
theorem lowF_un(f n:Nat)(h:n<256 ^ f):unB (lowF f n).reverse=n:=by
 induction f generalizing n with
 | zero=>simp at h;subst h;rfl
 | succ f ih =>
  by_cases h0:n=0
  ·subst h0;rw[qs];rfl
  ·rw[lowF,if_neg h0,List.reverse_cons,zbj,ih (n / 256) (by rw[Nat.pow_succ] at h;omega),UInt8.toNat_ofNat'];omega
theorem low_un(n:Nat)(h:n<18446744073709551616):unB (low n).reverse=n:=lowF_un 8 n (by omega)
theorem lowF_top(f n:Nat)(h:n<256 ^ f)(h0:0<(lowF f n).length):∀(h1:0<(lowF f n).reverse.length),(lowF f n).reverse[0].toNat≠0:=by
 intro h1;have hn:n≠0:=by rintro rfl;rw[qs] at h0;simp at h0
 obtain⟨a,b,c⟩:=qr f n h hn;have hg:(lowF f n).reverse[0]=(lowF f n)[(lowF f n).length - 1]'(by omega):=by rw[List.getElem_reverse];congr 1
 rw[hg,zc2,UInt8.toNat_ofNat',Nat.mod_mod];clear hg;obtain⟨k,hk⟩:∃k,(lowF f n).length - 1=k:=⟨_,rfl⟩;rw[hk] at b ⊢;have hc:n / 256 ^ k<256:=by
  rw[Nat.div_lt_iff_lt_mul (Nat.pow_pos (by omega)),Nat.mul_comm,<-Nat.pow_succ];rw[show k.succ=(lowF f n).length by omega];exact c
 have hp:1<=n / 256 ^ k:=(Nat.le_div_iff_mul_le (Nat.pow_pos (by omega))).2 (by rw[Nat.one_mul];exact b);omega
theorem qz(p r:List UInt8)(n:Nat)(h:n<18446744073709551616):numAt (p++(putNum n++r)) (p.length:Int)=((n:Int),(p.length:Int)+((putNum n).length:Int),0):=by
 have h8:=jJ n;have hpl:(putNum n).length=1+(low n).length:=by simp[putNum];omega
 have hlen:(p++(putNum n++r)).length=p.length+(1+(low n).length)+r.length:=by simp[hpl];omega
 have hb:p.length<(p++(putNum n++r)).length:=by omega
 have hx:(p++(putNum n++r))[p.length].toNat=(low n).length:=by
  rw[List.getElem_append_right (Nat.le_refl _)];simp only[Nat.sub_self,putNum,List.cons_append,List.getElem_cons_zero];rw[UInt8.toNat_ofNat'];omega
 have hd:(p++(putNum n++r)).drop (p.length+1)=(low n).reverse++r:=by
  rw[List.drop_append,List.drop_of_length_le (by omega),List.nil_append,show p.length+1 - p.length=1 by omega]
  rfl
 have hy:=xE hb (by omega) (fun h2=>by
  by_cases h0:(low n).length=0
  ·exact .inl (by omega)
  ·refine .inr ?_;have e:(p++(putNum n++r))[p.length+1]=(low n).reverse[0]'(by simp;omega):=by
    have h3:(p++(putNum n++r))[p.length+1]?=some ((low n).reverse[0]'(by simp;omega)):=by
     have h4:((p++(putNum n++r)).drop (p.length+1))[0]?=some ((low n).reverse[0]'(by simp;omega)):=by
      rw[hd,List.getElem?_append_left (by simp;omega)];exact List.getElem?_eq_getElem _
     rw[List.getElem?_drop,Nat.add_zero] at h4;exact h4
    rw[List.getElem?_eq_getElem h2] at h3;injection h3
   rw[e];exact lowF_top 8 n (by omega) (Nat.pos_of_ne_zero h0) _) (by omega)
 rw[hy,hx,hd,List.take_append_of_le_length (by simp),List.take_of_length_le (by simp),low_un n h,hpl];simp only[Prod.mk.injEq,true_and,and_true];omega
theorem zb5(p r d:List UInt8)(h:d.length<18446744073709551616):bytesAt (p++((putNum d.length++d)++r)) (p.length:Int)=(d,(p.length:Int)+((putNum d.length).length:Int)+(d.length:Int),0):=by
 have hn:=qz p (d++r) d.length h;rw[<-List.append_assoc (putNum d.length)] at hn;rw[bytesAt,hn];simp only[if_true];rw[if_pos (by simp;omega)];have e:((p.length:Int)+((putNum d.length).length:Int)).toNat=p.length+(putNum d.length).length:=by omega
 rw[e,Int.toNat_natCast];have e2:(p++((putNum d.length++d)++r)).drop (p.length+(putNum d.length).length)=d++r:=by
  rw[<-List.append_assoc,<-List.append_assoc,List.append_assoc (p++putNum d.length)];exact List.drop_left' (by simp)
 rw[e2,List.take_append_of_le_length (Nat.le_refl _),List.take_of_length_le (Nat.le_refl _)]
theorem zd9(p d f:List UInt8)(hf:f=four4 d.length++four4 (crc (four4 d.length++d))++d)(hd:d.length<=65536):unfrAt (p++f) (p.length:Int)=(d,(p.length:Int)+8+(d.length:Int),0):=by
 have hfl:f.length=8+d.length:=by rw[hf];simp[four4];omega
 have hcl:crc (four4 d.length++d)<4294967296:=by unfold crc;omega
 have e0:(p++f).drop p.length=f:=List.drop_left' rfl;have e4:(p++f).drop (p.length+4)=four4 (crc (four4 d.length++d))++d:=by
  rw[<-List.drop_drop,e0,hf,List.append_assoc];exact List.drop_left' rfl
 have e8:(p++f).drop (p.length+8)=d:=by
  rw[<-List.drop_drop,e0,hf];exact List.drop_left' (by simp[four4])
 have t4:f.take 4=four4 d.length:=by rw[hf,List.append_assoc];exact List.take_left' rfl
 have hn:unB (four4 d.length)=d.length:=zbk (by omega);rw[unfrAt,if_pos (by simp;omega),if_neg (by simp;omega),Int.toNat_natCast,e0,e4,e8,t4,hn,if_neg (by omega),if_neg (by simp;omega),if_pos]
 ·rw[List.take_of_length_le (Nat.le_refl _)]
 ·rw[List.take_of_length_le (Nat.le_refl _),List.take_left' (show(four4 (crc (four4 d.length++d))).length=4 from rfl),zbk hcl]
end Go.Proofs.YtobdmlejabjmiaaGreatDoor
namespace Go.Proofs.YtobdmlejabjmiaaGreatDoor
open Go.Lib
def rnum(b:List UInt8)(s:Int × Bool):Int × (Int × Bool) :=
 if s.2=true then(0,s) else if (numAt b s.1).2.2=0 then((numAt b s.1).1,((numAt b s.1).2.1,false)) else(0,(s.1,true))
def rup(b:List UInt8)(m:Int)(s:Int × Bool):Int × (Int × Bool):=if m<(rnum b s).1 then(0,((rnum b s).2.1,true)) else rnum b s
def rdat(b:List UInt8)(s:Int × Bool):List UInt8 × (Int × Bool) :=
 if s.2=true then([],s) else if (bytesAt b s.1).2.2=0 then((bytesAt b s.1).1,((bytesAt b s.1).2.1,false)) else([],(s.1,true))
def rstep(b:List UInt8)(x:List Int × (Int × Bool)):List Int × (Int × Bool):=(x.1++[(rup b 16 x.2).1],(rup b 16 x.2).2)
def ritr(b:List UInt8):Nat->List Int × (Int × Bool)->List Int × (Int × Bool)
 | 0,x=>x
 | k+1,x=>rstep b (ritr b k x)
def rids(b:List UInt8)(s:Int × Bool):List Int × (Int × Bool):=ritr b (rup b 16 s).1.toNat ([],(rup b 16 s).2)
def inB(b:List UInt8)(s:Int × Bool):Prop:=0<=s.1/\s.1<=(b.length:Int)
theorem zcB{b:List UInt8}{s:Int × Bool}(h:inB b s):inB b (rnum b s).2/\0<=(rnum b s).1/\(rnum b s).1<=18446744073709551615:=by
 unfold rnum;split
 ·exact⟨h,by simp,by simp⟩
 ·split
  ·rename_i h1 h2;have r:=yS b s.1;have k:=jr h2;exact⟨⟨by simp only;omega,by simp only;omega⟩,by simp only;omega,by simp only;omega⟩
  ·exact⟨h,by simp,by simp⟩
theorem zdm{b:List UInt8}{s:Int × Bool}(h:inB b s){m:Int}(hm:0<=m):inB b (rup b m s).2/\0<=(rup b m s).1/\(rup b m s).1<=m:=by
 have h1:=zcB h;unfold rup;split
 ·exact⟨h1.1,by simp,by simpa using hm⟩
 ·exact⟨h1.1,h1.2.1,by omega⟩
theorem za7{b:List UInt8}{x:List Int × (Int × Bool)}(h:inB b x.2):∀k,inB b (ritr b k x).2/\(ritr b k x).1.length=x.1.length+k
 | 0=>⟨h,rfl⟩
 | k+1=>by
  have ih:=za7 h k;exact⟨(zdm ih.1 (by decide)).1,by show((ritr b k x).1++_).length=_;rw[List.length_append,ih.2];rfl⟩
end Go.Proofs.YtobdmlejabjmiaaGreatDoor
namespace Go.Proofs.YtobdmlejabjmiaaGreatDoor
open Go.RowKit
theorem or_byte(n x:Nat)(hn:n<72057594037927936)(hx:x<256):bits BinOp.or IntKind.u64 ((n:Int)*256) (x:Int)=((n*256+x:Nat):Int):=by
 have h:=u64_or_nat (n*256) x (by omega) (by omega);rw[show((n*256:Nat):Int)=(n:Int)*256 from by omega] at h;rw[h];congr 1;have:=Nat.shiftLeft_add_eq_or_of_lt (a:=n) (b:=x) (i:=8) (by omega);rw[Nat.shiftLeft_eq] at this;exact this.symm
def insB(n:Nat)(i:Int):Bool:=decide (0<=i/\i<=(n:Int))
theorem zaY{n:Nat}{i:Int}(h:0<=i/\i<=(n:Int)):insB n i=true:=by simpa [insB] using h
theorem zaX{n:Nat}{i:Int}(h:¬(0<=i/\i<=(n:Int))):insB n i=false:=by simpa [insB] using h
theorem zv(A:Option Addr)(n c:Nat)(i:Int)(w:World)(_hn:n<=9223372036854775807) :
  Calls Tryz.prog 124 #[.slice A n c,.int .i64 i] w fun e w'=>e=.returned (.bool (insB n i))/\w=w':=by
 by_cases h0:0<=i
 ·by_cases h1:i<=(n:Int)
  ·rw[zaY ⟨h0,h1⟩];go_enter Tryz.func124,Tryz.ntmps124;go_wp2_with fail;go_ret;exact⟨rfl,rfl⟩
  ·rw[zaX (by omega)];go_enter Tryz.func124,Tryz.ntmps124;go_wp2_with fail;go_ret;exact⟨rfl,rfl⟩
 ·rw[zaX (by omega)];go_enter Tryz.func124,Tryz.ntmps124;go_wp2_with fail;go_ret;exact⟨rfl,rfl⟩
def NumE(b:List UInt8)(i:Int)(w:World)(e:Ending)(w':World):Prop :=
 e=.returned (.tuple #[.int .u64 (numAt b i).1,.int .i64 (numAt b i).2.1,.int .i64 (numAt b i).2.2])/\w=w'
theorem zau{b:List UInt8}{i x y z:Int}{w:World}(h:numAt b i=(x,y,z)):NumE b i w (.returned (.tuple #[.int .u64 x,.int .i64 y,.int .i64 z])) w:=by
 unfold NumE;rw[h];exact⟨rfl,rfl⟩
theorem zaO(A:Option Addr)(c:Nat)(b:List UInt8)(i:Int)(w:World)(h:RB w A b)(hc:b.length<=c)(hm:c<=9223372036854775807)(hl:b.length<=210000000000000)(hi:-9223372036854775808<=i/\i<=9223372036854775807) :
  Calls Tryz.prog 167 #[.slice A b.length c,.int .i64 i] w (NumE b i w):=by
 obtain⟨hi0,hi1⟩:=hi;by_cases hin:0<=i/\i<=(b.length:Int)
 ·have HI:=qh (show insB b.length i=true from zaY hin);obtain⟨a,rfl⟩:=Int.eq_ofNat_of_zero_le hin.1;by_cases ha:a<b.length
  ·obtain⟨bb,off,rfl,hbb,hx⟩:=h.cell ha;have hxl:=b[a].toNat_lt;have hac:a<c:=(by omega);have hsec:∀h2:a+1<b.length,w.cell? ⟨bb,off+a+1,none⟩=some (.int .u8 (b[a+1].toNat:Int)):=fun h2=>by
    obtain⟨b',off',e,_,hy⟩:=h.cell h2;injection e with e
    injection e with e1 e2
    subst e1 e2;rw[Nat.add_assoc];exact hy
   have hall:∀j,a+1+j<b.length->∃h:a+1+j<b.length,w.cell? ⟨bb,off+a+1+j,none⟩=some (.int .u8 (b[a+1+j].toNat:Int)):=fun j hj=>⟨hj,by
    obtain⟨b',off',e,_,hy⟩:=h.cell hj;injection e with e
    injection e with e1 e2
    subst e1 e2;rw[show off+a+1+j=off+(a+1+j) by omega];exact hy⟩
   by_cases hx8:8<b[a].toNat
   ·have HN:=qh (yM ha (.inl hx8));clear hsec hall hin;generalize b[a].toNat=x at *;go_enter Tryz.func167,Tryz.ntmps167;go_wp2_with fail;refine(zv _ _ _ _ _ (by omega)).mono ?_;rintro e w' ⟨rfl,rfl⟩;rw[HI.out];go_wp2_with fail
    go_ret3
    exact zau HN.out
   ·by_cases hz:0<b[a].toNat/\∃h2:a+1<b.length,b[a+1].toNat=0
    ·have HN:=qh (yM ha (.inr hz));obtain⟨hx0,h2,hz0⟩:=hz;have hy:=hsec h2;rw[hz0] at hy;clear hsec hall hin hz0;generalize b[a].toNat=x at *;go_enter Tryz.func167,Tryz.ntmps167;go_wp2_with fail;refine(zv _ _ _ _ _ (by omega)).mono ?_;rintro e w' ⟨rfl,rfl⟩;rw[HI.out];go_wp2_with fail
     go_ret3
     exact zau HN.out
    ·have hz':∀h2:a+1<b.length,b[a].toNat=0\/b[a+1].toNat≠0:=fun h2=>by
      by_cases h0:b[a].toNat=0
      ·exact .inl h0
      ·exact .inr fun h3=>hz ⟨by omega,h2,h3⟩
     by_cases hs:b.length<=a+b[a].toNat
     ·have HN:=qh (xw ha (by omega) hz' hs);have hx0:0<b[a].toNat:=(by omega);by_cases h2:a+1<b.length
      ·have hy:=hsec h2;have hy0:((b[a+1].toNat:Int) == 0)=false:=by
        rw[beq_eq_false_iff_ne];rcases hz' h2 with h | h<;>omega
       clear hsec hall hin hz hz';generalize b[a+1].toNat=y at *;generalize b[a].toNat=x at *;go_enter Tryz.func167,Tryz.ntmps167;go_wp2_with fail;refine(zv _ _ _ _ _ (by omega)).mono ?_;rintro e w' ⟨rfl,rfl⟩;rw[HI.out];go_wp2_with fail
       go_ret3
       exact zau HN.out
      ·clear hsec hall hin hz hz';generalize b[a].toNat=x at *;go_enter Tryz.func167,Tryz.ntmps167;go_wp2_with fail;refine(zv _ _ _ _ _ (by omega)).mono ?_;rintro e w' ⟨rfl,rfl⟩;rw[HI.out];go_wp2_with fail
       go_ret3
       exact zau HN.out
     ·have HN:=qh (xE ha (by omega) hz' (by omega));have HC:Hid (∀j,j<b[a].toNat->∃h:a+1+j<b.length,w.cell? ⟨bb,off+a+1+j,none⟩=some (.int .u8 (b[a+1+j].toNat:Int))):=qh fun j hj=>hall j (by omega)
      have HB:Hid (a+b[a].toNat<b.length):=qh (by omega);by_cases h2:a+1<b.length
      ·by_cases h0:b[a].toNat=0
       ·have hac1:a+1<c:=(by omega);clear hsec hall hin hz hz';generalize b[a].toNat=x at *;subst h0;go_enter Tryz.func167,Tryz.ntmps167;go_wp2_with fail;refine(zv _ _ _ _ _ (by omega)).mono ?_;rintro e w' ⟨rfl,rfl⟩;rw[HI.out];go_wp2_with fail;go_loop [4,57] (fun v i=>v=.int .u64 0/\i=.int .i64 0) (fun _ _=>0)
        case atStart=>exact⟨rfl,rfl⟩
        case round =>
         obtain⟨rfl,rfl⟩:=hrel;go_wp2_with fail
         go_ret3
         exact zau (by rw[HN.out];simp[unB])
       ·have hy:=hsec h2;have hy0:((b[a+1].toNat:Int) == 0)=false:=by
         rw[beq_eq_false_iff_ne];rcases hz' h2 with h | h<;>omega
        have hac1:a+1<c:=(by omega);clear hsec hall hin hz hz';generalize b[a+1].toNat=y at *;generalize b[a].toNat=x at *;go_enter Tryz.func167,Tryz.ntmps167;go_wp2_with fail;refine(zv _ _ _ _ _ (by omega)).mono ?_;rintro e w' ⟨rfl,rfl⟩;rw[HI.out];go_wp2_with fail;go_loop [4,57] (fun v i=>∃j:Nat,j<=x/\i=.int .i64 (j:Int)/\v=.int .u64 (unB ((b.drop (a+1)).take j):Nat)) (fun _ i=>x - (intOf i).toNat)
        case atStart=>exact⟨0,Nat.zero_le _,rfl,rfl⟩
        case round =>
         obtain⟨j,hj,rfl,rfl⟩:=hrel;by_cases hlt:j<x
         ·obtain⟨hb2,hy⟩:=HC.out j hlt;have hn7:=unB_7 ((b.drop (a+1)).take j) (by rw[List.length_take];omega);have HN1:=qh (show unB ((b.drop (a+1)).take (j+1))=unB ((b.drop (a+1)).take j)*256+b[a+1+j].toNat by rw[zbX _ _ _ hb2,zbj]);obtain⟨z,hz⟩:∃z,z=b[a+1+j].toNat:=⟨_,rfl⟩;have hz8:z<256:=(by rw[hz];exact UInt8.toNat_lt _);rw[<-hz] at hy HN1;generalize unB ((b.drop (a+1)).take j)=n at *;have hor:=or_byte n z hn7 hz8;clear hz;go_wp2_with fail
          go_round
          case rel=>exact⟨j+1,by omega,by go_num,by rw[HN1.out];go_num⟩
          case measure=>simp[intOf];omega
         ·obtain rfl:j=x:=(by omega);go_wp2_with fail
          go_ret3
          exact zau HN.out
      ·have h0:b[a].toNat=0:=(by omega);clear hsec hall hin hz hz';generalize b[a].toNat=x at *;subst h0;by_cases hac1:a+1<c
       ·skip
        go_enter Tryz.func167,Tryz.ntmps167;go_wp2_with fail;refine(zv _ _ _ _ _ (by omega)).mono ?_;rintro e w' ⟨rfl,rfl⟩;rw[HI.out];go_wp2_with fail;go_loop [4,57] (fun v i=>v=.int .u64 0/\i=.int .i64 0) (fun _ _=>0)
        case atStart=>exact⟨rfl,rfl⟩
        case round =>
         obtain⟨rfl,rfl⟩:=hrel;go_wp2_with fail
         go_ret3
         exact zau (by rw[HN.out];simp[unB])
       ·skip
        go_enter Tryz.func167,Tryz.ntmps167;go_wp2_with fail;refine(zv _ _ _ _ _ (by omega)).mono ?_;rintro e w' ⟨rfl,rfl⟩;rw[HI.out];go_wp2_with fail;go_loop [4,57] (fun v i=>v=.int .u64 0/\i=.int .i64 0) (fun _ _=>0)
        case atStart=>exact⟨rfl,rfl⟩
        case round =>
         obtain⟨rfl,rfl⟩:=hrel;go_wp2_with fail
         go_ret3
         exact zau (by rw[HN.out];simp[unB])
  ·obtain rfl:a=b.length:=(by omega);have HN:=qh (jq (b:=b));clear hin ha;by_cases hcl:b.length<c
   ·go_enter Tryz.func167,Tryz.ntmps167;go_wp2_with fail;refine(zv _ _ _ _ _ (by omega)).mono ?_;rintro e w' ⟨rfl,rfl⟩;rw[HI.out];go_wp2_with fail
    go_ret3
    exact zau HN.out
   ·obtain rfl:b.length=c:=(by omega);go_enter Tryz.func167,Tryz.ntmps167;go_wp2_with fail;refine(zv _ _ _ _ _ (by omega)).mono ?_;rintro e w' ⟨rfl,rfl⟩;rw[HI.out];go_wp2_with fail
    go_ret3
    exact zau HN.out
 ·have HI:=qh (show insB b.length i=false from zaX hin);have HN:=qh (xD (b:=b) (i:=i) (by omega));clear hin;go_enter Tryz.func167,Tryz.ntmps167;go_wp2_with fail;refine(zv _ _ _ _ _ (by omega)).mono ?_;rintro e w' ⟨rfl,rfl⟩;rw[HI.out];go_wp2_with fail
  go_ret3
  exact zau HN.out
theorem refNum(A:Option Addr)(c:Nat)(b:List UInt8)(i:Int)(w:World)(h:RB w A b)(hl:b.length<=210000000000000)(hi:-9223372036854775808<=i/\i<=9223372036854775807) :
  Calls Tryz.prog 258 #[.slice A b.length c,.int .i64 i] w (NumE b i w):=by
 obtain⟨hi0,hi1⟩:=hi;by_cases hneg:i<0
 ·have HN:=qh (xD (b:=b) (.inl hneg));go_enter Tryz.func258,Tryz.ntmps258;go_wp2_with fail
  go_ret3
  exact zau HN.out
 ·obtain⟨a,rfl⟩:=Int.eq_ofNat_of_zero_le (show 0<=i by omega);by_cases hout:b.length<a
  ·have HN:=qh (xD (b:=b) (i:=(a:Int)) (by omega));go_enter Tryz.func258,Tryz.ntmps258;go_wp2_with fail
   go_ret3
   exact zau HN.out
  ·by_cases hend:a=b.length
   ·subst hend;have HN:=qh (jq (b:=b));go_enter Tryz.func258,Tryz.ntmps258;go_wp2_with fail
    go_ret3
    exact zau HN.out
   ·have ha:a<b.length:=(by omega);have hnd:((a:Int) == (b.length:Int))=false:=(by rw[beq_eq_false_iff_ne];omega);obtain⟨bb,off,rfl,hbb,hx⟩:=h.cell ha;have hxl:=b[a].toNat_lt;have hall:∀j,a+j<b.length->∃h:a+j<b.length,w.cell? ⟨bb,off+(a+j),none⟩=some (.int .u8 (b[a+j].toNat:Int)):=fun j hj=>⟨hj,by
     obtain⟨b',off',e,_,hy⟩:=h.cell hj;injection e with e
     injection e with e1 e2
     subst e1 e2;exact hy⟩
    by_cases hx8:8<b[a].toNat
    ·have HN:=qh (yM ha (.inl hx8));clear hall;generalize b[a].toNat=x at *;go_enter Tryz.func258,Tryz.ntmps258;go_wp2_with fail
     go_ret3
     exact zau HN.out
    ·by_cases hz:0<b[a].toNat/\∃h2:a+1<b.length,b[a+1].toNat=0
     ·have HN:=qh (yM ha (.inr hz));obtain⟨hx0,h2,hz0⟩:=hz;obtain⟨_,hy⟩:=hall 1 h2;rw[hz0] at hy;clear hall hz0;generalize b[a].toNat=x at *;go_enter Tryz.func258,Tryz.ntmps258;go_wp2_with fail
      go_ret3
      exact zau HN.out
     ·have hz':∀h2:a+1<b.length,b[a].toNat=0\/b[a+1].toNat≠0:=fun h2=>by
       by_cases h0:b[a].toNat=0
       ·exact .inl h0
       ·exact .inr fun h3=>hz ⟨by omega,h2,h3⟩
      by_cases hs:b.length<=a+b[a].toNat
      ·have HN:=qh (xw ha (by omega) hz' hs);have hx0:0<b[a].toNat:=(by omega);by_cases h2:a+1<b.length
       ·obtain⟨_,hy⟩:=hall 1 h2;have hy0:((b[a+1].toNat:Int) == 0)=false:=by
         rw[beq_eq_false_iff_ne];rcases hz' h2 with h | h<;>omega
        clear hall hz hz';generalize b[a+1].toNat=y at *;generalize b[a].toNat=x at *;go_enter Tryz.func258,Tryz.ntmps258;go_wp2_with fail
        go_ret3
        exact zau HN.out
       ·clear hall hz hz';generalize b[a].toNat=x at *;go_enter Tryz.func258,Tryz.ntmps258;go_wp2_with fail
        go_ret3
        exact zau HN.out
      ·have HN:=qh (xE ha (by omega) hz' (by omega));have HC:Hid (∀j,j<b[a].toNat->∃h:a+(j+1)<b.length,w.cell? ⟨bb,off+(a+(j+1)),none⟩=some (.int .u8 (b[a+(j+1)].toNat:Int))):=qh fun j hj=>hall (j+1) (by omega)
       have HB:Hid (a+b[a].toNat<b.length):=qh (by omega);by_cases h0:b[a].toNat=0
       ·clear hall hz hz';generalize b[a].toNat=x at *;subst h0;go_enter Tryz.func258,Tryz.ntmps258;go_wp2_with fail;go_loop [8,9] (fun v i=>v=.int .u64 0/\i=.int .i64 1) (fun _ _=>0)
        case atStart=>exact⟨rfl,rfl⟩
        case round =>
         obtain⟨rfl,rfl⟩:=hrel;go_wp2_with fail
         go_ret3
         exact zau (by rw[HN.out];simp[unB])
       ·have h2:a+1<b.length:=(by omega);have hx0:0<b[a].toNat:=(by omega);obtain⟨_,hy⟩:=hall 1 h2;have hy0:((b[a+1].toNat:Int) == 0)=false:=by
         rw[beq_eq_false_iff_ne];rcases hz' h2 with h | h<;>omega
        clear hall hz hz';generalize b[a+1].toNat=y at *;generalize b[a].toNat=x at *;go_enter Tryz.func258,Tryz.ntmps258;go_wp2_with fail;go_loop [8,9] (fun v i=>∃j:Nat,j<=x/\i=.int .i64 ((j+1:Nat):Int)/\v=.int .u64 (unB ((b.drop (a+1)).take j):Nat)) (fun _ i=>x+1 - (intOf i).toNat)
        case atStart=>exact⟨0,Nat.zero_le _,rfl,rfl⟩
        case round =>
         obtain⟨j,hj,rfl,rfl⟩:=hrel;by_cases hlt:j<x
         ·obtain⟨hb2,hy⟩:=HC.out j hlt;have hn7:=unB_7 ((b.drop (a+1)).take j) (by rw[List.length_take];omega);have HN1:=qh (show unB ((b.drop (a+1)).take (j+1))=unB ((b.drop (a+1)).take j)*256+b[a+(j+1)].toNat by
           rw[zbX _ _ _ (show a+1+j<b.length by omega),zbj];congr 3;omega)
          obtain⟨z,hz⟩:∃z,z=b[a+(j+1)].toNat:=⟨_,rfl⟩;have hz8:z<256:=(by rw[hz];exact UInt8.toNat_lt _);rw[<-hz] at hy HN1;generalize unB ((b.drop (a+1)).take j)=n at *;clear hz;go_wp2_with fail
          go_round
          case rel=>exact⟨j+1,by omega,by go_num,by rw[HN1.out];go_num⟩
          case measure=>simp[intOf];omega
         ·obtain rfl:j=x:=(by omega);go_wp2_with fail
          go_ret3
          exact zau HN.out
end Go.Proofs.YtobdmlejabjmiaaGreatDoor
