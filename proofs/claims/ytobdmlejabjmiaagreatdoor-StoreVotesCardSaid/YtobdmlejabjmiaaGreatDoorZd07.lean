/- Made small by a program. -/
import Derived.Test.YtobdmlejabjmiaaGreatDoorZd06
import Derived.OneCell
import Derived.RegionTactic
import Derived.BigRegion
import Derived.StillTailTactics
set_option maxRecDepth 20000
set_option maxHeartbeats 8000000
namespace Go.Proofs.YtobdmlejabjmiaaGreatDoor
theorem lowF_un(f n:Nat)(h:n<256 ^ f):unB (lowF f n).reverse=n:=by
 induction f generalizing n with
 | zero=>simp at h;subst h;rfl
 | succ f ih =>
  by_cases h0:n=0
  ·subst h0;rw[lowF_zero];rfl
  ·rw[lowF,if_neg h0,List.reverse_cons,unB_snoc,ih (n / 256) (by rw[Nat.pow_succ] at h;omega),UInt8.toNat_ofNat']
   omega
theorem low_un(n:Nat)(h:n<18446744073709551616):unB (low n).reverse=n:=lowF_un 8 n (by omega)
theorem lowF_top(f n:Nat)(h:n<256 ^ f)(h0:0<(lowF f n).length):∀(h1:0<(lowF f n).reverse.length),(lowF f n).reverse[0].toNat≠0:=by
 intro h1
 have hn:n≠0:=by rintro rfl;rw[lowF_zero] at h0;simp at h0
 obtain⟨a,b,c⟩:=lowF_bounds f n h hn
 have hg:(lowF f n).reverse[0]=(lowF f n)[(lowF f n).length - 1]'(by omega):=by rw[List.getElem_reverse];congr 1
 rw[hg,lowF_get,UInt8.toNat_ofNat',Nat.mod_mod]
 clear hg
 obtain⟨k,hk⟩:∃k,(lowF f n).length - 1=k:=⟨_,rfl⟩
 rw[hk] at b ⊢
 have hc:n / 256 ^ k<256:=by
  rw[Nat.div_lt_iff_lt_mul (Nat.pow_pos (by omega)),Nat.mul_comm,<-Nat.pow_succ]
  rw[show k.succ=(lowF f n).length by omega]
  exact c
 have hp:1<=n / 256 ^ k:=(Nat.le_div_iff_mul_le (Nat.pow_pos (by omega))).2 (by rw[Nat.one_mul];exact b)
 omega
theorem numAt_put(p r:List UInt8)(n:Nat)(h:n<18446744073709551616):numAt (p++(putNum n++r)) (p.length:Int)=((n:Int),(p.length:Int)+((putNum n).length:Int),0):=by
 have h8:=low_len n
 have hpl:(putNum n).length=1+(low n).length:=by simp[putNum];omega
 have hlen:(p++(putNum n++r)).length=p.length+(1+(low n).length)+r.length:=by simp[hpl];omega
 have hb:p.length<(p++(putNum n++r)).length:=by omega
 have hx:(p++(putNum n++r))[p.length].toNat=(low n).length:=by
  rw[List.getElem_append_right (Nat.le_refl _)]
  simp only[Nat.sub_self,putNum,List.cons_append,List.getElem_cons_zero]
  rw[UInt8.toNat_ofNat']
  omega
 have hd:(p++(putNum n++r)).drop (p.length+1)=(low n).reverse++r:=by
  rw[List.drop_append,List.drop_of_length_le (by omega),List.nil_append,show p.length+1 - p.length=1 by omega]
  rfl
 have hy:=numAt_yes hb (by omega) (fun h2=>by
  by_cases h0:(low n).length=0
  ·exact .inl (by omega)
  ·refine .inr ?_
   have e:(p++(putNum n++r))[p.length+1]=(low n).reverse[0]'(by simp;omega):=by
    have h3:(p++(putNum n++r))[p.length+1]?=some ((low n).reverse[0]'(by simp;omega)):=by
     have h4:((p++(putNum n++r)).drop (p.length+1))[0]?=some ((low n).reverse[0]'(by simp;omega)):=by
      rw[hd,List.getElem?_append_left (by simp;omega)]
      exact List.getElem?_eq_getElem _
     rw[List.getElem?_drop,Nat.add_zero] at h4
     exact h4
    rw[List.getElem?_eq_getElem h2] at h3
    injection h3
   rw[e]
   exact lowF_top 8 n (by omega) (Nat.pos_of_ne_zero h0) _) (by omega)
 rw[hy,hx,hd,List.take_append_of_le_length (by simp),List.take_of_length_le (by simp),low_un n h,hpl]
 simp only[Prod.mk.injEq,true_and,and_true]
 omega
theorem bytesAt_put(p r d:List UInt8)(h:d.length<18446744073709551616):bytesAt (p++((putNum d.length++d)++r)) (p.length:Int)=(d,(p.length:Int)+((putNum d.length).length:Int)+(d.length:Int),0):=by
 have hn:=numAt_put p (d++r) d.length h
 rw[<-List.append_assoc (putNum d.length)] at hn
 rw[bytesAt,hn]
 simp only[if_true]
 rw[if_pos (by simp;omega)]
 have e:((p.length:Int)+((putNum d.length).length:Int)).toNat=p.length+(putNum d.length).length:=by omega
 rw[e,Int.toNat_natCast]
 have e2:(p++((putNum d.length++d)++r)).drop (p.length+(putNum d.length).length)=d++r:=by
  rw[<-List.append_assoc,<-List.append_assoc,List.append_assoc (p++putNum d.length)]
  exact List.drop_left' (by simp)
 rw[e2,List.take_append_of_le_length (Nat.le_refl _),List.take_of_length_le (Nat.le_refl _)]
theorem unfrAt_put(p d f:List UInt8)(hf:f=four4 d.length++four4 (crc (four4 d.length++d))++d)(hd:d.length<=65536):unfrAt (p++f) (p.length:Int)=(d,(p.length:Int)+8+(d.length:Int),0):=by
 have hfl:f.length=8+d.length:=by rw[hf];simp[four4];omega
 have hcl:crc (four4 d.length++d)<4294967296:=by unfold crc;omega
 have e0:(p++f).drop p.length=f:=List.drop_left' rfl
 have e4:(p++f).drop (p.length+4)=four4 (crc (four4 d.length++d))++d:=by
  rw[<-List.drop_drop,e0,hf,List.append_assoc]
  exact List.drop_left' rfl
 have e8:(p++f).drop (p.length+8)=d:=by
  rw[<-List.drop_drop,e0,hf]
  exact List.drop_left' (by simp[four4])
 have t4:f.take 4=four4 d.length:=by rw[hf,List.append_assoc];exact List.take_left' rfl
 have hn:unB (four4 d.length)=d.length:=un_four (by omega)
 rw[unfrAt,if_pos (by simp;omega),if_neg (by simp;omega),Int.toNat_natCast,e0,e4,e8,t4,hn,if_neg (by omega),if_neg (by simp;omega),if_pos]
 ·rw[List.take_of_length_le (Nat.le_refl _)]
 ·rw[List.take_of_length_le (Nat.le_refl _),List.take_left' (show(four4 (crc (four4 d.length++d))).length=4 from rfl),un_four hcl]
theorem unfrAt_cut(d f:List UInt8)(hf:f=four4 d.length++four4 (crc (four4 d.length++d))++d)(hd:d.length<=65536)(m:Nat)(hm:m<f.length):unfrAt (f.take m) 0=([],0,5):=by
 have hfl:f.length=8+d.length:=by rw[hf];simp[four4];omega
 have hl:(f.take m).length=m:=by rw[List.length_take];omega
 rw[unfrAt,if_pos (by omega),hl]
 by_cases h8:m<8
 ·rw[if_pos (by omega)]
 ·have t4:(f.take m).take 4=four4 d.length:=by
   rw[List.take_take,Nat.min_eq_left (by omega),hf,List.append_assoc];exact List.take_left' rfl
  have hn:unB (four4 d.length)=d.length:=un_four (by omega)
  rw[if_neg (by omega)]
  simp only[Int.toNat_zero,List.drop_zero,t4,hn]
  rw[if_neg (by omega),if_pos (by omega)]
end Go.Proofs.YtobdmlejabjmiaaGreatDoor
namespace Go.Proofs.YtobdmlejabjmiaaGreatDoor
open Go.Lib
def rnum(b:List UInt8)(s:Int × Bool):Int × (Int × Bool) :=
 if s.2=true then(0,s) else if (numAt b s.1).2.2=0 then((numAt b s.1).1,((numAt b s.1).2.1,false)) else(0,(s.1,true))
def rup(b:List UInt8)(m:Int)(s:Int × Bool):Int × (Int × Bool):=if m<(rnum b s).1 then(0,((rnum b s).2.1,true)) else rnum b s
def rdat(b:List UInt8)(s:Int × Bool):List UInt8 × (Int × Bool) :=
 if s.2=true then([],s) else if (bytesAt b s.1).2.2=0 then((bytesAt b s.1).1,((bytesAt b s.1).2.1,false)) else([],(s.1,true))
def rstep(b:List UInt8)(x:List Int × (Int × Bool)):List Int × (Int × Bool):=(x.1++[(rup b 16 x.2).1],(rup b 16 x.2).2)
def ritr(b:List UInt8):Nat->List Int × (Int × Bool)->List Int × (Int × Bool)
 | 0,x=>x
 | k+1,x=>rstep b (ritr b k x)
def rids(b:List UInt8)(s:Int × Bool):List Int × (Int × Bool):=ritr b (rup b 16 s).1.toNat ([],(rup b 16 s).2)
def inB(b:List UInt8)(s:Int × Bool):Prop:=0<=s.1/\s.1<=(b.length:Int)
theorem rnum_in{b:List UInt8}{s:Int × Bool}(h:inB b s):inB b (rnum b s).2/\0<=(rnum b s).1/\(rnum b s).1<=18446744073709551615:=by
 unfold rnum
 split
 ·exact⟨h,by simp,by simp⟩
 ·split
  ·rename_i h1 h2
   have r:=numAt_range b s.1
   have k:=numAt_ok h2
   exact⟨⟨by simp only;omega,by simp only;omega⟩,by simp only;omega,by simp only;omega⟩
  ·exact⟨h,by simp,by simp⟩
theorem rup_in{b:List UInt8}{s:Int × Bool}(h:inB b s){m:Int}(hm:0<=m):inB b (rup b m s).2/\0<=(rup b m s).1/\(rup b m s).1<=m:=by
 have h1:=rnum_in h
 unfold rup
 split
 ·exact⟨h1.1,by simp,by simpa using hm⟩
 ·exact⟨h1.1,h1.2.1,by omega⟩
theorem ritr_in{b:List UInt8}{x:List Int × (Int × Bool)}(h:inB b x.2):∀k,inB b (ritr b k x).2/\(ritr b k x).1.length=x.1.length+k
 | 0=>⟨h,rfl⟩
 | k+1=>by
  have ih:=ritr_in h k
  exact⟨(rup_in ih.1 (by decide)).1,by show((ritr b k x).1++_).length=_;rw[List.length_append,ih.2];rfl⟩
end Go.Proofs.YtobdmlejabjmiaaGreatDoor
namespace Go.Proofs.YtobdmlejabjmiaaGreatDoor
open Go.RowKit
theorem or_byte(n x:Nat)(hn:n<72057594037927936)(hx:x<256):bits BinOp.or IntKind.u64 ((n:Int)*256) (x:Int)=((n*256+x:Nat):Int):=by
 have h:=u64_or_nat (n*256) x (by omega) (by omega)
 rw[show((n*256:Nat):Int)=(n:Int)*256 from by omega] at h
 rw[h]
 congr 1
 have:=Nat.shiftLeft_add_eq_or_of_lt (a:=n) (b:=x) (i:=8) (by omega)
 rw[Nat.shiftLeft_eq] at this
 exact this.symm
def insB(n:Nat)(i:Int):Bool:=decide (0<=i/\i<=(n:Int))
theorem insB_yes{n:Nat}{i:Int}(h:0<=i/\i<=(n:Int)):insB n i=true:=by simpa [insB] using h
theorem insB_no{n:Nat}{i:Int}(h:¬(0<=i/\i<=(n:Int))):insB n i=false:=by simpa [insB] using h
theorem codecInside(A:Option Addr)(n c:Nat)(i:Int)(w:World)(_hn:n<=9223372036854775807) :
  Calls Tryz.prog 124 #[.slice A n c,.int .i64 i] w fun e w'=>e=.returned (.bool (insB n i))/\w=w':=by
 by_cases h0:0<=i
 ·by_cases h1:i<=(n:Int)
  ·rw[insB_yes ⟨h0,h1⟩]
   go_enter Tryz.func124,Tryz.ntmps124
   go_wp2_with fail
   go_ret
   exact⟨rfl,rfl⟩
  ·rw[insB_no (by omega)]
   go_enter Tryz.func124,Tryz.ntmps124
   go_wp2_with fail
   go_ret
   exact⟨rfl,rfl⟩
 ·rw[insB_no (by omega)]
  go_enter Tryz.func124,Tryz.ntmps124
  go_wp2_with fail
  go_ret
  exact⟨rfl,rfl⟩
def NumE(b:List UInt8)(i:Int)(w:World)(e:Ending)(w':World):Prop :=
 e=.returned (.tuple #[.int .u64 (numAt b i).1,.int .i64 (numAt b i).2.1,.int .i64 (numAt b i).2.2])/\w=w'
theorem numE{b:List UInt8}{i x y z:Int}{w:World}(h:numAt b i=(x,y,z)):NumE b i w (.returned (.tuple #[.int .u64 x,.int .i64 y,.int .i64 z])) w:=by
 unfold NumE;rw[h];exact⟨rfl,rfl⟩
theorem codecNum(A:Option Addr)(c:Nat)(b:List UInt8)(i:Int)(w:World)(h:RB w A b)(hc:b.length<=c)(hm:c<=9223372036854775807)(hl:b.length<=210000000000000)(hi:-9223372036854775808<=i/\i<=9223372036854775807) :
  Calls Tryz.prog 167 #[.slice A b.length c,.int .i64 i] w (NumE b i w):=by
 obtain⟨hi0,hi1⟩:=hi
 by_cases hin:0<=i/\i<=(b.length:Int)
 ·have HI:=qh (show insB b.length i=true from insB_yes hin)
  obtain⟨a,rfl⟩:=Int.eq_ofNat_of_zero_le hin.1
  by_cases ha:a<b.length
  ·obtain⟨bb,off,rfl,hbb,hx⟩:=h.cell ha
   have hxl:=b[a].toNat_lt
   have hac:a<c:=by omega
   have hsec:∀h2:a+1<b.length,w.cell? ⟨bb,off+a+1,none⟩=some (.int .u8 (b[a+1].toNat:Int)):=fun h2=>by
    obtain⟨b',off',e,_,hy⟩:=h.cell h2
    injection e with e
    injection e with e1 e2
    subst e1 e2
    rw[Nat.add_assoc]
    exact hy
   have hall:∀j,a+1+j<b.length->∃h:a+1+j<b.length,w.cell? ⟨bb,off+a+1+j,none⟩=some (.int .u8 (b[a+1+j].toNat:Int)):=fun j hj=>⟨hj,by
    obtain⟨b',off',e,_,hy⟩:=h.cell hj
    injection e with e
    injection e with e1 e2
    subst e1 e2
    rw[show off+a+1+j=off+(a+1+j) by omega]
    exact hy⟩
   by_cases hx8:8<b[a].toNat
   ·have HN:=qh (numAt_text ha (.inl hx8))
    clear hsec hall hin
    generalize b[a].toNat=x at *
    go_enter Tryz.func167,Tryz.ntmps167
    go_wp2_with fail
    refine(codecInside _ _ _ _ _ (by omega)).mono ?_
    rintro e w' ⟨rfl,rfl⟩
    rw[HI.out]
    go_wp2_with fail
    go_ret3
    exact numE HN.out
   ·by_cases hz:0<b[a].toNat/\∃h2:a+1<b.length,b[a+1].toNat=0
    ·have HN:=qh (numAt_text ha (.inr hz))
     obtain⟨hx0,h2,hz0⟩:=hz
     have hy:=hsec h2
     rw[hz0] at hy
     clear hsec hall hin hz0
     generalize b[a].toNat=x at *
     go_enter Tryz.func167,Tryz.ntmps167
     go_wp2_with fail
     refine(codecInside _ _ _ _ _ (by omega)).mono ?_
     rintro e w' ⟨rfl,rfl⟩
     rw[HI.out]
     go_wp2_with fail
     go_ret3
     exact numE HN.out
    ·have hz':∀h2:a+1<b.length,b[a].toNat=0\/b[a+1].toNat≠0:=fun h2=>by
      by_cases h0:b[a].toNat=0
      ·exact .inl h0
      ·exact .inr fun h3=>hz ⟨by omega,h2,h3⟩
     by_cases hs:b.length<=a+b[a].toNat
     ·have HN:=qh (numAt_short ha (by omega) hz' hs)
      have hx0:0<b[a].toNat:=by omega
      by_cases h2:a+1<b.length
      ·have hy:=hsec h2
       have hy0:((b[a+1].toNat:Int) == 0)=false:=by
        rw[beq_eq_false_iff_ne];rcases hz' h2 with h | h<;>omega
       clear hsec hall hin hz hz'
       generalize b[a+1].toNat=y at *
       generalize b[a].toNat=x at *
       go_enter Tryz.func167,Tryz.ntmps167
       go_wp2_with fail
       refine(codecInside _ _ _ _ _ (by omega)).mono ?_
       rintro e w' ⟨rfl,rfl⟩
       rw[HI.out]
       go_wp2_with fail
       go_ret3
       exact numE HN.out
      ·clear hsec hall hin hz hz'
       generalize b[a].toNat=x at *
       go_enter Tryz.func167,Tryz.ntmps167
       go_wp2_with fail
       refine(codecInside _ _ _ _ _ (by omega)).mono ?_
       rintro e w' ⟨rfl,rfl⟩
       rw[HI.out]
       go_wp2_with fail
       go_ret3
       exact numE HN.out
     ·have HN:=qh (numAt_yes ha (by omega) hz' (by omega))
      have HC:Hid (∀j,j<b[a].toNat->∃h:a+1+j<b.length,w.cell? ⟨bb,off+a+1+j,none⟩=some (.int .u8 (b[a+1+j].toNat:Int))):=qh fun j hj=>hall j (by omega)
      have HB:Hid (a+b[a].toNat<b.length):=qh (by omega)
      by_cases h2:a+1<b.length
      ·by_cases h0:b[a].toNat=0
       ·have hac1:a+1<c:=by omega
        clear hsec hall hin hz hz'
        generalize b[a].toNat=x at *
        subst h0
        go_enter Tryz.func167,Tryz.ntmps167
        go_wp2_with fail
        refine(codecInside _ _ _ _ _ (by omega)).mono ?_
        rintro e w' ⟨rfl,rfl⟩
        rw[HI.out]
        go_wp2_with fail
        go_loop [4,57] (fun v i=>v=.int .u64 0/\i=.int .i64 0) (fun _ _=>0)
        case atStart=>exact⟨rfl,rfl⟩
        case round =>
         obtain⟨rfl,rfl⟩:=hrel
         go_wp2_with fail
         go_ret3
         exact numE (by rw[HN.out];simp[unB])
       ·have hy:=hsec h2
        have hy0:((b[a+1].toNat:Int) == 0)=false:=by
         rw[beq_eq_false_iff_ne];rcases hz' h2 with h | h<;>omega
        have hac1:a+1<c:=by omega
        clear hsec hall hin hz hz'
        generalize b[a+1].toNat=y at *
        generalize b[a].toNat=x at *
        go_enter Tryz.func167,Tryz.ntmps167
        go_wp2_with fail
        refine(codecInside _ _ _ _ _ (by omega)).mono ?_
        rintro e w' ⟨rfl,rfl⟩
        rw[HI.out]
        go_wp2_with fail
        go_loop [4,57] (fun v i=>∃j:Nat,j<=x/\i=.int .i64 (j:Int)/\v=.int .u64 (unB ((b.drop (a+1)).take j):Nat)) (fun _ i=>x - (intOf i).toNat)
        case atStart=>exact⟨0,Nat.zero_le _,rfl,rfl⟩
        case round =>
         obtain⟨j,hj,rfl,rfl⟩:=hrel
         by_cases hlt:j<x
         ·obtain⟨hb2,hy⟩:=HC.out j hlt
          have hn7:=unB_7 ((b.drop (a+1)).take j) (by rw[List.length_take];omega)
          have HN1:=qh (show unB ((b.drop (a+1)).take (j+1))=unB ((b.drop (a+1)).take j)*256+b[a+1+j].toNat by rw[take_getD _ _ _ hb2,unB_snoc])
          obtain⟨z,hz⟩:∃z,z=b[a+1+j].toNat:=⟨_,rfl⟩
          have hz8:z<256:=by rw[hz];exact UInt8.toNat_lt _
          rw[<-hz] at hy HN1
          generalize unB ((b.drop (a+1)).take j)=n at *
          have hor:=or_byte n z hn7 hz8
          clear hz
          go_wp2_with fail
          go_round
          case rel=>exact⟨j+1,by omega,by go_num,by rw[HN1.out];go_num⟩
          case measure=>simp[intOf];omega
         ·obtain rfl:j=x:=by omega
          go_wp2_with fail
          go_ret3
          exact numE HN.out
      ·have h0:b[a].toNat=0:=by omega
       clear hsec hall hin hz hz'
       generalize b[a].toNat=x at *
       subst h0
       by_cases hac1:a+1<c
       ·skip
        go_enter Tryz.func167,Tryz.ntmps167
        go_wp2_with fail
        refine(codecInside _ _ _ _ _ (by omega)).mono ?_
        rintro e w' ⟨rfl,rfl⟩
        rw[HI.out]
        go_wp2_with fail
        go_loop [4,57] (fun v i=>v=.int .u64 0/\i=.int .i64 0) (fun _ _=>0)
        case atStart=>exact⟨rfl,rfl⟩
        case round =>
         obtain⟨rfl,rfl⟩:=hrel
         go_wp2_with fail
         go_ret3
         exact numE (by rw[HN.out];simp[unB])
       ·skip
        go_enter Tryz.func167,Tryz.ntmps167
        go_wp2_with fail
        refine(codecInside _ _ _ _ _ (by omega)).mono ?_
        rintro e w' ⟨rfl,rfl⟩
        rw[HI.out]
        go_wp2_with fail
        go_loop [4,57] (fun v i=>v=.int .u64 0/\i=.int .i64 0) (fun _ _=>0)
        case atStart=>exact⟨rfl,rfl⟩
        case round =>
         obtain⟨rfl,rfl⟩:=hrel
         go_wp2_with fail
         go_ret3
         exact numE (by rw[HN.out];simp[unB])
  ·obtain rfl:a=b.length:=by omega
   have HN:=qh (numAt_end (b:=b))
   clear hin ha
   by_cases hcl:b.length<c
   ·go_enter Tryz.func167,Tryz.ntmps167
    go_wp2_with fail
    refine(codecInside _ _ _ _ _ (by omega)).mono ?_
    rintro e w' ⟨rfl,rfl⟩
    rw[HI.out]
    go_wp2_with fail
    go_ret3
    exact numE HN.out
   ·obtain rfl:b.length=c:=by omega
    go_enter Tryz.func167,Tryz.ntmps167
    go_wp2_with fail
    refine(codecInside _ _ _ _ _ (by omega)).mono ?_
    rintro e w' ⟨rfl,rfl⟩
    rw[HI.out]
    go_wp2_with fail
    go_ret3
    exact numE HN.out
 ·have HI:=qh (show insB b.length i=false from insB_no hin)
  have HN:=qh (numAt_out (b:=b) (i:=i) (by omega))
  clear hin
  go_enter Tryz.func167,Tryz.ntmps167
  go_wp2_with fail
  refine(codecInside _ _ _ _ _ (by omega)).mono ?_
  rintro e w' ⟨rfl,rfl⟩
  rw[HI.out]
  go_wp2_with fail
  go_ret3
  exact numE HN.out
structure OneN(w w':World)(g:Nat)(T:TypeId)(k:IntKind)(r:Int):Prop where
 only:w.grownBy w' (some g)
 blk:w'.heap[g]?=some (.cells #[.int k r] T (0,0))
theorem OneN.cell{w w':World}{g:Nat}{T:TypeId}{k:IntKind}{r:Int}(h:OneN w w' g T k r):w'.cell? ⟨g,0,none⟩=some (.int k r):=cell_of_one h.blk
theorem OneN.free{w w':World}{g:Nat}{T:TypeId}{k:IntKind}{r:Int}(h:OneN w w' g T k r):w'.frozen? ⟨g,0,none⟩=false:=free_of_one h.blk
theorem OneN.drew{w w':World}{g:Nat}{T:TypeId}{k:IntKind}{r:Int}(h:OneN w w' g T k r):OneN w w'.drew g T k r:=⟨⟨h.only.os,h.only.tape,h.only.output,h.only.size,h.only.block⟩,h.blk⟩
theorem OneN.set{w w':World}{g:Nat}{T:TypeId}{k:IntKind}{r:Int}(h:OneN w w' g T k r)(s:Int):OneN w (w'.setCell ⟨g,0,none⟩ (.int k s)) g T k s :=
 ⟨⟨h.only.os,h.only.tape,h.only.output,by simpa [World.setCell] using h.only.size,fun i hi hne=>(Below.heap_setCell w' ⟨g,0,none⟩ _ i (fun e=>hne (by rw[e]))).trans (h.only.block i hi hne)⟩,one_setCell h.blk⟩
theorem OneN.refl{w:World}{g:Nat}{T:TypeId}{k:IntKind}{r:Int}(h:w.heap[g]?=some (.cells #[.int k r] T (0,0))):OneN w w g T k r:=⟨World.grownBy.refl w _,h⟩
theorem RB.one_{w w':World}{A:Option Addr}{l:List UInt8}{g:Nat}{T:TypeId}{k:IntKind}{r:Int}(h:RB w A l)(hne:∀b off,0<l.length->A=some ⟨b,off,none⟩->b≠g)(ho:OneN w w' g T k r):RB w' A l :=
 h.keep ho.only.size fun b off hn e hb _=>World.cell?_of_block (w:=w) (ho.only.block b hb (fun e'=>hne b off hn e (by injection e')))
theorem summerAdd(g:Nat)(r:Nat)(A:Option Addr)(c:Nat)(l:List UInt8)(w:World)(hr:r<4294967296)(hg:w.heap[g]?=some (.cells #[.int .u32 (r:Int)] 245 (0,0)))(h:RB w A l)(hne:∀b off,0<l.length->A=some ⟨b,off,none⟩->b≠g)(hl:l.length<=9223372036854775807) :
  Calls Tryz.prog 176 #[.pointer (some ⟨g,0,none⟩),.slice A l.length c] w fun e w'=>e=.returned (.tuple #[])/\OneN w w' g 245 .u32 (crcL r l):=by
 go_enter Tryz.func176,Tryz.ntmps176
 go_wp2_with fail
 go_loopw [8] (fun i wr=>∃k:Nat,k<=l.length/\i=.int .i64 (k:Int)/\OneN w wr g 245 .u32 (crcL r (l.take k)))
  (fun i _=>l.length - (intOf i).toNat)
 case atStart=>exact⟨0,Nat.zero_le _,rfl,by simpa [crcL] using OneN.refl hg⟩
 case round =>
  obtain⟨k,hk,rfl,ho⟩:=hrel
  by_cases hlt:k<l.length
  ·obtain⟨b,off,rfl,hb,hc⟩:=(h.one_ hne ho).cell hlt
   have hcg:=ho.cell
   have hfg:=ho.free
   have hs:crcL r (l.take k)<4294967296:=crcL_lt hr _
   obtain⟨s,hs'⟩:∃s,s=crcL r (l.take k):=⟨_,rfl⟩
   rw[<-hs'] at hs hcg ho
   have HS:=qh hs'
   clear hs'
   obtain⟨x,hx'⟩:∃x,x=l[k]:=⟨_,rfl⟩
   rw[<-hx'] at hc
   have HX:=qh hx'
   clear hx'
   have hxx:=x.toNat_lt
   have e1:bits BinOp.xor IntKind.u32 (s:Int) (x.toNat:Int)=((s ^^^ x.toNat:Nat):Int):=u32_xor_nat _ _ hs (by omega)
   go_wp2_with fail
   obtain⟨wo,rfl⟩:∃wo:World,wo=wr:=⟨_,rfl⟩
   clear hc hcg hfg e1
   go_loopw [21] (fun i wr=>∃j:Nat,j<=8/\i=.int .i64 (j:Int)/\OneN w wr g 245 .u32 (crcBits j (s ^^^ x.toNat)))
    (fun i _=>8 - (intOf i).toNat)
   case atStart=>exact⟨0,Nat.zero_le _,rfl,ho.set _⟩
   case round =>
    obtain⟨j,hj,rfl,hoj⟩:=hrel
    by_cases hj8:j<8
    ·have hcg:=hoj.cell
     have hfg:=hoj.free
     have hq:crcBits j (s ^^^ x.toNat)<4294967296:=crcBits_lt j (xor_lt hs (by omega))
     obtain⟨q,hq'⟩:∃q,q=crcBits j (s ^^^ x.toNat):=⟨_,rfl⟩
     rw[<-hq'] at hq hcg hoj
     have HQ:=qh hq'
     clear hq'
     have hx1:bits BinOp.xor IntKind.u32 ((q:Int) / 2) 3988292384=((q / 2 ^^^ 3988292384:Nat):Int):=u32_xor_nat (q / 2) 3988292384 (by omega) (by omega)
     have hx0:bits BinOp.xor IntKind.u32 ((q:Int) / 2) 0=((q / 2 ^^^ 0:Nat):Int):=u32_xor_nat (q / 2) 0 (by omega) (by omega)
     have ha:bits BinOp.and IntKind.u32 (q:Int) 1=((q &&& 1:Nat):Int):=u32_and_nat q 1 hq (by omega)
     rw[nat_mask1] at ha
     have hb1:bits BinOp.and IntKind.u32 4294967295 3988292384=3988292384:=by decide
     have hb0:bits BinOp.and IntKind.u32 0 3988292384=0:=by decide
     have hn1:IntKind.u32.wrap (-1)=4294967295:=by decide
     rcases Nat.mod_two_eq_zero_or_one q with hm | hm
     ·have HM:=qh hm
      rw[hm] at ha
      clear hm
      go_wp2_with fail
      go_region
      go_wp2_with fail
      go_roundw
      case rel=>exact⟨j+1,by omega,by go_num,by
       rw[crcBits_succ,<-HQ.out,crcBit,HM.out]
       rw[show((q / 2 ^^^ (if 0=1 then poly else 0):Nat):Int)=(q:Int) / 2 from by simp]
       exact(hoj.set _).drew⟩
      case measure=>simp[intOf];omega
     ·have HM:=qh hm
      rw[hm] at ha
      clear hm
      go_wp2_with fail
      go_region
      go_wp2_with fail
      go_roundw
      case rel=>exact⟨j+1,by omega,by go_num,by
       rw[crcBits_succ,<-HQ.out,crcBit,HM.out];exact(hoj.set _).drew⟩
      case measure=>simp[intOf];omega
    ·obtain rfl:j=8:=by omega
     have hfin:crcBits 8 (s ^^^ x.toNat)=crcL r (l.take (k+1)):=by
      rw[List.take_succ_eq_append_getElem hlt,crcL_snoc,<-HS.out,<-HX.out,crcByte]
     rw[hfin] at hoj
     clear hfin
     go_wp2_with fail
     go_roundw
     case rel=>exact⟨k+1,by omega,by go_num,hoj⟩
     case measure=>simp[intOf];omega
  ·go_wp2_with fail
   go_end0
   exact⟨rfl,by rw[List.take_of_length_le (by omega)] at ho;exact ho⟩
def allB(L:List (Option Addr × Nat × List UInt8)):List UInt8:=L.flatMap fun t=>t.2.2
theorem codecSum(X:Option Addr)(c:Nat)(L:List (Option Addr × Nat × List UInt8))(w:World)(h:RBB w X L)(hl:L.length<=9223372036854775807) :
  Calls Tryz.prog 126 #[.slice X L.length c] w fun e w'=>e=.returned (.int .u32 (crc (allB L)))/\Below w.heap.size w w':=by
 go_enter Tryz.func126,Tryz.ntmps126
 go_wp2_with fail
 have hw0:Below w.heap.size w (w.alloc (.cells #[.int .u32 4294967295] 245)):=(Below.refl _ _).alloc (Nat.le_refl _) _
 have hg0:(w.alloc (.cells #[.int .u32 4294967295] 245)).heap[w.heap.size]?=some (.cells #[.int .u32 4294967295] 245 (0,0)):=heap_alloc_new w _
 have ho0:OneN (w.alloc (.cells #[.int .u32 4294967295] 245)) (w.alloc (.cells #[.int .u32 4294967295] 245)) w.heap.size 245 .u32 (crcL 4294967295 (allB (L.take 0))):=OneN.refl hg0
 generalize w.alloc (.cells #[.int .u32 4294967295] 245)=w0 at hw0 hg0 ho0 ⊢
 clear hg0
 go_loopw [9] (fun i wr=>∃k:Nat,k<=L.length/\i=.int .i64 (k:Int)/\OneN w0 wr w.heap.size 245 .u32 (crcL 4294967295 (allB (L.take k))))
  (fun i _=>L.length - (intOf i).toNat)
 case atStart=>exact⟨0,Nat.zero_le _,rfl,ho0⟩
 case round =>
  obtain⟨k,hk,rfl,ho⟩:=hrel
  have hb:Below w.heap.size w wr:=hw0.grown ho.only hw0.size (fun g hg=>by injection hg with hg;omega)
  by_cases hlt:k<L.length
  ·obtain⟨b,off,rfl,hbl,hc⟩:=(h.below hb).cell hlt
   obtain⟨hr1,hr2⟩:=h.each L[k] (List.getElem_mem hlt)
   have hr1':=hr1.below hb
   have hfar:∀b off,0<L[k].2.2.length->L[k].1=some ⟨b,off,none⟩->b≠w.heap.size:=by
    intro b off hpos e
    obtain⟨b',off',e',hb',_⟩:=hr1.at_ hpos
    rw[e] at e'
    injection e' with e'
    injection e' with e'
    omega
   have hs:crcL 4294967295 (allB (L.take k))<4294967296:=crcL_lt (by omega) _
   obtain⟨s,hs'⟩:∃s,s=crcL 4294967295 (allB (L.take k)):=⟨_,rfl⟩
   rw[<-hs'] at hs ho
   have HS:=qh hs'
   have C:=qh (summerAdd w.heap.size s L[k].1 L[k].2.1 L[k].2.2 wr hs ho.blk hr1' hfar (by omega))
   have HN:Hid (crcL s L[k].2.2=crcL 4294967295 (allB (L.take (k+1)))):=qh (by
    rw[List.take_succ_eq_append_getElem hlt,HS.out];unfold allB;rw[List.flatMap_append,crcL_append];simp)
   clear hs' hfar hr1 hr1' hr2 HS
   go_wp2_with fail
   refine C.out.mono ?_
   rintro e w' ⟨rfl,ho'⟩
   rw[HN.out] at ho'
   have ho2:OneN w0 w' w.heap.size 245 .u32 (crcL 4294967295 (allB (L.take (k+1)))) :=
    ⟨⟨ho'.only.os.trans ho.only.os,ho'.only.tape.trans ho.only.tape,ho'.only.output.trans ho.only.output,Nat.le_trans ho.only.size ho'.only.size,fun i hi hne=>(ho'.only.block i (Nat.lt_of_lt_of_le hi ho.only.size) hne).trans (ho.only.block i hi hne)⟩,ho'.blk⟩
   clear C HN ho' ho hc hb
   go_wp2_with fail
   go_roundw
   case rel=>exact⟨k+1,by omega,by go_num,ho2⟩
   case measure=>simp[intOf];omega
  ·rw[List.take_of_length_le (by omega)] at ho
   have hcg:=ho.cell
   have hs:crcL 4294967295 (allB L)<4294967296:=crcL_lt (by omega) _
   have hfin:Hid (crc (allB L)=4294967295 - crcL 4294967295 (allB L)):=qh rfl
   generalize crcL 4294967295 (allB L)=s at *
   clear ho
   go_wp2_with fail
   go_ret
   exact⟨ret_intB (by rw[show IntKind.u32.max=((4294967295:Nat):Int) from rfl,u32_xor_nat _ _ (by omega) hs,ones_xor s hs,hfin.out]),hb⟩
def fourB(n:Nat):List UInt8:=[UInt8.ofNat (n / 16777216),UInt8.ofNat (n / 65536 % 256),UInt8.ofNat (n / 256 % 256),UInt8.ofNat (n % 256)]
def frameB(d:List UInt8):List UInt8:=fourB d.length++fourB (crc (fourB d.length++d))++d
theorem fourB_len(n:Nat):(fourB n).length=4:=rfl
theorem u8_ofNat{n:Nat}(h:n<256):((UInt8.ofNat n).toNat:Int)=(n:Int):=by
 rw[UInt8.toNat_ofNat'];omega
theorem OB.lit4(w:World){base:Nat}(hb:base<=w.heap.size)(x0 x1 x2 x3:UInt8){V0 V1 V2 V3:Int}(h0:V0=(x0.toNat:Int))(h1:V1=(x1.toNat:Int))(h2:V2=(x2.toNat:Int))(h3:V3=(x3.toNat:Int)) :
  OB (w.alloc (.cells #[.int .u8 V0,.int .u8 V1,.int .u8 V2,.int .u8 V3] 5)) base (some ⟨w.heap.size,0,none⟩) 4 [x0,x1,x2,x3]:=by
 subst h0;subst h1;subst h2;subst h3
 exact World.ownsRow_lit w (bcells [x0,x1,x2,x3]).toArray 4 hb (by unfold maxLen;omega) rfl
theorem codecFour(n:Int)(w:World)(h0:0<=n)(h1:n<=4294967295) :
  Calls Tryz.prog 152 #[.int .u32 n] w (NewB w (fourB n.toNat)):=by
 obtain⟨m,rfl⟩:=Int.eq_ofNat_of_zero_le h0
 go_enter Tryz.func152,Tryz.ntmps152
 go_wp2_with fail
 go_ret
 refine newB (k:=[UInt8.ofNat (m / 16777216),UInt8.ofNat (m / 65536 % 256),UInt8.ofNat (m / 256 % 256),UInt8.ofNat (m % 256)]) (by simp[fourB]) (OB.lit4 w (Nat.le_refl _) _ _ _ _ ?_ ?_ ?_ ?_) ((Below.refl _ _).alloc (Nat.le_refl _) _)
 all_goals (rw[u8_ofNat (by omega)];omega)
def NewBE(w:World)(l:List UInt8)(err:Int)(e:Ending)(w':World):Prop :=
 ∃(k:List UInt8) (A:Option Addr) (c:Nat),Hid (k=l)/\k.length<=l.length/\l.length<=k.length/\e=.returned (.tuple #[.slice A k.length c,.int .i64 err])/\OB w' w.heap.size A c k/\Below w.heap.size w w'
theorem newBE{w w':World}{l k:List UInt8}{A:Option Addr}{c:Nat}{err:Int}(hk:k=l)(h:OB w' w.heap.size A c k)(hb:Below w.heap.size w w'):NewBE w l err (.returned (.tuple #[.slice A k.length c,.int .i64 err])) w' :=
 ⟨k,A,c,qh hk,by rw[hk];exact Nat.le_refl _,by rw[hk];exact Nat.le_refl _,rfl,h,hb⟩
theorem crc_le(l:List UInt8):crc l<=4294967295:=by unfold crc;omega
theorem frameB_len(d:List UInt8):(frameB d).length=8+d.length:=by simp[frameB,fourB];omega
theorem codecFrame(A:Option Addr)(c:Nat)(d:List UInt8)(w:World)(h:RB w A d)(hl:d.length<=65536) :
  Calls Tryz.prog 87 #[.slice A d.length c] w (NewBE w (frameB d) 0):=by
 have h1:¬(65536:Int)<(d.length:Int):=by omega
 go_enter Tryz.func87,Tryz.ntmps87
 go_wp2_with fail
 refine(codecFour d.length w (by omega) (by omega)).mono ?_
 rintro e w1 ⟨k1,A1,c1,hk1,hk11,hk12,rfl,ho1,hb1⟩
 have hk1l:k1.length=4:=by rw[hk1.out];rfl
 have hk1l1:k1.length<=4:=by omega
 have hk1l2:4<=k1.length:=by omega
 have E1:Hid (k1=fourB d.length):=qh (by rw[hk1.out,Int.toNat_natCast])
 clear hk1 hk11 hk12 hk1l
 go_wp2_with fail
 have C2:=codecSum (some ⟨w1.heap.size,0,none⟩) 2 [(A1,c1,k1),(A,c,d)] _ (RBB.two_at _ c1 c rfl ho1.rb (h.below hb1) (by omega) (by omega)) (by simp)
 have hall:allB [(A1,c1,k1),(A,c,d)]=k1++d:=by simp[allB]
 rw[hall] at C2
 have hcr:=crc_le (k1++d)
 obtain⟨s,hs⟩:∃s,s=crc (k1++d):=⟨_,rfl⟩
 rw[<-hs] at C2 hcr
 have HS:=qh hs
 clear hs hall
 refine C2.mono ?_
 rintro e w2 ⟨rfl,hb2⟩
 clear C2
 have B2:Below w.heap.size w w2:=(hb1.alloc hb1.size _).trans (hb2.mono (by have:=hb1.size;simp;omega))
 have ho2:OB w2 w.heap.size A1 c1 k1:=(ho1.alloc _).below hb2
 clear hb2 ho1 hb1
 go_wp2_with fail
 refine(codecFour s w2 (by omega) (by omega)).mono ?_
 rintro e w3 ⟨k3,A3,c3,hk3,hk31,hk32,rfl,ho3,hb3⟩
 have hk3l1:k3.length<=4:=by rw[hk3.out,fourB_len];omega
 have E3:Hid (k3=fourB s):=qh (by rw[hk3.out,Int.toNat_natCast])
 have B3:Below w.heap.size w w3:=B2.trans (hb3.mono B2.size)
 have ho2':=ho2.below hb3
 clear hk3 hk31 hk32 ho2 hb3
 go_wp2_with (first
  | (at_builtin;refine wp_appendB _ rfl (.tmp 12) (.tmp 17) rfl w.heap.size _ _ _ _ k1 k3 rfl rfl ho2' ho3.rb (by omega) B3.size ?_;intro k4 A4 c4 w4 hk4 hk41 hk42 ho4 hg4;have B4:Below w.heap.size w w4:=B3.grown hg4 B3.size fun g hg=>(ho2'.own_lt g hg).1;have hd4:=h.below B4)
  | (at_builtin;refine wp_appendB _ rfl (.tmp 19) (.tmp 20) rfl w.heap.size _ _ _ _ k4 d rfl rfl ho4 hd4 (by omega) B4.size ?_;intro k5 A5 c5 w5 hk5 hk51 hk52 ho5 hg5))
 go_ret2
 exact newBE (by rw[hk5.out,hk4.out,E3.out,HS.out,E1.out];simp[frameB]) ho5 (B4.grown hg5 B4.size fun g hg=>(ho4.own_lt g hg).1)
def Ext(w w':World):Prop:=Below w.heap.size w w'
theorem Ext.refl(w:World):Ext w w:=Below.refl _ _
theorem Ext.trans{a b c:World}(h:Ext a b)(k:Ext b c):Ext a c:=Below.trans h (Below.mono k h.size)
def planB(md:Region.Mode)(ops:Array Oper):List (Nat × Bool)->Array Bool->Bool
 | [],listed=>(Region.ready md ops listed).isEmpty
 | (i,true)::r,listed=>Region.free md ops listed i && (Region.ready md ops listed).contains i && planB md ops r (listed.setIfInBounds i true)
 | (i,false)::r,listed=>(Region.ready md ops listed == [i]) && planB md ops r (listed.setIfInBounds i true)
def wpPlan(P:Program)(ops:Array Oper)(Q:Exit->Act->World->Prop):List (Nat × Bool)->Act->World->Prop
 | [],a,w=>Q .normal a w
 | (i,true)::r,a,w=>∃o v,ops[i]?=some o/\YieldsIf P ops (Ext w) o v a/\wpPlan P ops Q r (a.put o.dst v) w
 | (i,false)::r,a,w=>∃o,ops[i]?=some o/\wpOp P ops Q i (fun a' w'=>Ext w w'/\wpPlan P ops Q r a' w') a w
section
variable {P:Program} {ops:Array Oper} {Q:Exit->Act->World->Prop} {md:Region.Mode}
theorem held_mono{S S':World->Prop}(h:∀w,S' w->S w):∀(fuel:Nat) (listed:Array Bool) (a:Act) (w:World),wpAnyH P md ops Q S' fuel listed a w->wpAnyH P md ops Q S fuel listed a w
 | 0,_,_,_,hh=>hh
 | fuel+1,_,_,_,hh=>⟨hh.1,fun i hi=>wpOp_mono (fun a' w' h'=>⟨h _ h'.1,held_mono h fuel _ a' w' h'.2⟩) (hh.2 i hi)⟩
theorem plan_sound(hs:Region.noSelect ops=true)(hQ:∀c a w,¬Q (.panic c) a w):∀(plan:List (Nat × Bool)) (fuel:Nat) (listed:Array Bool) (a:Act) (w:World),
  plan.length<=fuel->planB md ops plan listed=true->wpPlan P ops Q plan a w->wpAnyH P md ops Q (Ext w) fuel listed a w
 | [],fuel,listed,a,w,_,hp,h=>wpAnyH_done (by simpa [planB] using hp) h fuel
 | (i,true)::r,0,_,_,_,hf,_,_=>by simp at hf
 | (i,false)::r,0,_,_,_,hf,_,_=>by simp at hf
 | (i,true)::r,fuel+1,listed,a,w,hf,hp,h=>by
  obtain⟨o,v,ho,hy,hr⟩:=h
  simp only[planB,Bool.and_eq_true] at hp
  exact wpAnyH_take ho hs hp.1.1 hp.1.2 (fun c a w hh=>absurd hh (hQ _ _ _)) hy (Ext.refl w) (plan_sound hs hQ r fuel _ _ w (by simpa using hf) hp.2 hr)
 | (i,false)::r,fuel+1,listed,a,w,hf,hp,h=>by
  obtain⟨o,ho,hw⟩:=h
  simp only[planB,Bool.and_eq_true,beq_iff_eq] at hp
  refine wpAnyH_all hp.1 (by simp) fun j hj=>?_
  rw[List.mem_singleton] at hj
  subst hj
  exact wpOp_mono (fun a' w' ⟨he,hr⟩=>⟨he,held_mono (fun x hx=>he.trans hx) fuel _ a' w' (plan_sound hs hQ r fuel _ a' w' (by simpa using hf) hp.2 hr)⟩) hw
theorem wp_region_plan{id:Nat}{a:Act}{w:World}(hm:P.follows .mixedOrders=true)(plan:List (Nat × Bool))(hs:Region.noSelect ops=true)
  (hp:planB .any ops plan (Array.replicate ops.size false)=true) (hl:plan.length<=ops.size) (h:wpPlan P ops (NoPanic Q) plan a w.drew):(Code.region id ops true).wp P Q a w :=
 wp_region_noPanic (wp_region_held (S:=Ext w.drew) hm (plan_sound hs (fun _ _ _ hh=>hh) plan _ _ a _ hl hp h))
theorem plan_pure{i:Nat}{r:List (Nat × Bool)}{a:Act}{w:World}{o:Oper}{v:Value}(ho:ops[i]?=some o)(hw:Region.wanted o (yielded ops a.tmps)=true)
  (hy:∀w',Ext w w'->(execOp a.eval o).run P w'=.ok (.value v) w') (h:wpPlan P ops Q r (a.put o.dst v) w):wpPlan P ops Q ((i,true)::r) a w :=
 ⟨o,v,ho,.inl ⟨hw,hy⟩,h⟩
theorem plan_call{i:Nat}{r:List (Nat × Bool)}{a:Act}{w:World}{o:Oper}(ho:ops[i]?=some o)(hw:Region.wanted o (yielded ops a.tmps)=true)
  (h:∀K:Act->World->Prop,(∀a' w',Ext w w'->wpPlan P ops Q r a' w'->K a' w')->o.wp P a w K Q):wpPlan P ops Q ((i,false)::r) a w:=by
 refine⟨o,ho,?_⟩
 unfold wpOp
 rw[ho]
 simp only[hw,if_true]
 exact .inl (h _ fun a' w' h1 h2=>⟨h1,h2⟩)
theorem plan_end{a:Act}{w:World}(h:Q .normal a w):wpPlan P ops (NoPanic Q) [] a w:=NoPanic.normal h
end
end Go.Proofs.YtobdmlejabjmiaaGreatDoor
