/- Made small by a program. -/
import Derived.Test.YtobdmlejabjmiaaGreatDoorZd43
set_option maxRecDepth 20000
set_option maxHeartbeats 8000000
namespace Go.Proofs.YtobdmlejabjmiaaGreatDoor
open Go.RowKit
inductive VoF (H Z:List UInt8) (x:List (List UInt8)):FS->Prop
 | a (m:Nat):VoF H Z x [(hN,H),(wN,(recsB 1 x).take m)]
 | b (m:Nat) (y:List (List UInt8)) (hm:m<Z.length) (hy:y=[]\/y=x):VoF H Z x [(hN,H),(sN,Z.take m),(wN,recsB 1 y)]
 | c (y:List (List UInt8)) (hy:y=[]\/y=x):VoF H Z x [(hN,H),(sN,Z),(wN,recsB 1 y)]
 | d (y:List (List UInt8)) (hy:y=[]\/y=x):VoF H Z x [(hN,H),(sN,Z),(wN,recsB 1 y),(fN,[])]
 | e:VoF H Z x [(hN,H),(sN,Z),(fN,[])]
inductive VoS (H Z:List UInt8) (x:List (List UInt8)):FS->List Wr->Prop
 | a0:VoS H Z x [(hN,H),(wN,[])] []
 | a1:VoS H Z x [(hN,H),(wN,[])] [⟨1,wN,0,recsB 1 x⟩]
 | a2:VoS H Z x [(hN,H),(wN,recsB 1 x)] []
 | b1 (y:List (List UInt8)) (hy:y=[]\/y=x):VoS H Z x [(hN,H),(wN,recsB 1 y)] [⟨1,sN,0,Z⟩]
 | c0 (y:List (List UInt8)) (hy:y=[]\/y=x):VoS H Z x [(hN,H),(sN,Z),(wN,recsB 1 y)] []
 | d1 (y:List (List UInt8)) (hy:y=[]\/y=x):VoS H Z x [(hN,H),(sN,Z),(wN,recsB 1 y)] [⟨1,fN,0,[]⟩]
 | d0 (y:List (List UInt8)) (hy:y=[]\/y=x):VoS H Z x [(hN,H),(sN,Z),(wN,recsB 1 y),(fN,[])] []
 | e1 (y:List (List UInt8)) (hy:y=[]\/y=x):VoS H Z x [(hN,H),(sN,Z),(wN,recsB 1 y),(fN,[])] [⟨3,wN,0,[]⟩]
 | e0:VoS H Z x [(hN,H),(sN,Z),(fN,[])] []
theorem fall_putE{D:DSt}{f:Nm}{x:List UInt8}(h:D.unsure=[⟨1,f,0,x⟩])(hf:(fget D.sure f).getD []=[])(mask:Nat)(torn:Int) :
  (fallD D mask torn).sure=D.sure\/(fallD D mask torn).sure=fset D.sure f x\/∃t,t<x.length/\(fallD D mask torn).sure=fset D.sure f (x.take t):=by
 unfold fallD
 simp only[h,fallUs,keepAt]
 split
 ·simp only[cutLast,List.any_nil,Bool.false_eq_true,if_false]
  rw[if_pos (show isPut ⟨1,f,0,x⟩=true from rfl)]
  unfold cutW
  split
  ·rename_i ht
   refine .inr (.inr ⟨torn.toNat,by have h2:=ht.2;have h1:=ht.1;simp only at h2;omega,?_⟩)
   simp only[List.foldl_cons,List.foldl_nil,doF,if_true,hf,putD_new]
  ·refine .inr (.inl ?_)
   simp only[List.foldl_cons,List.foldl_nil,doF,if_true,hf,putD_new]
 ·exact .inl rfl
section
variable {H Z:List UInt8} {x:List (List UInt8)}
theorem VoF.log{y:List (List UInt8)}(hy:y=[]\/y=x):VoF H Z x [(hN,H),(wN,recsB 1 y)]:=by
 rcases hy with e | e
 ·have h:=VoF.a (H:=H) (Z:=Z) (x:=x) 0
  rw[List.take_zero] at h
  rw[e]
  exact h
 ·have h:=VoF.a (H:=H) (Z:=Z) (x:=x) (recsB 1 x).length
  rw[List.take_of_length_le (Nat.le_refl _)] at h
  rw[e]
  exact h
theorem fset_w{b c:List UInt8}:fset [(hN,H),(wN,b)] wN c=[(hN,H),(wN,c)]:=rfl
theorem fset_s{b c:List UInt8}:fset [(hN,H),(wN,b)] sN c=[(hN,H),(sN,c),(wN,b)]:=rfl
theorem fset_f{b:List UInt8}:fset [(hN,H),(sN,Z),(wN,b)] fN []=[(hN,H),(sN,Z),(wN,b),(fN,[])]:=rfl
theorem fdel_w{b:List UInt8}:fdel [(hN,H),(sN,Z),(wN,b),(fN,[])] wN=[(hN,H),(sN,Z),(fN,[])]:=rfl
theorem VoS.fall{D:DSt}(h:VoS H Z x D.sure D.unsure)(mask:Nat)(torn:Int):VoF H Z x (fallD D mask torn).sure:=by
 generalize hs:D.sure=F at h
 generalize hu:D.unsure=us at h
 cases h with
 | a0 =>
  rw[fall_none hu,hs]
  exact VoF.log (.inl rfl)
 | a1 =>
  rcases fall_putE hu (by rw[hs];rfl) mask torn with e | e | ⟨t,ht,e⟩<;>rw[e,hs]
  ·exact VoF.log (.inl rfl)
  ·exact VoF.log (.inr rfl)
  ·exact VoF.a t
 | a2 =>
  rw[fall_none hu,hs]
  exact VoF.log (.inr rfl)
 | b1 y hy =>
  rcases fall_putE hu (by rw[hs];rfl) mask torn with e | e | ⟨t,ht,e⟩<;>rw[e,hs]
  ·exact VoF.log hy
  ·exact VoF.c y hy
  ·exact VoF.b t y ht hy
 | c0 y hy =>
  rw[fall_none hu,hs]
  exact VoF.c y hy
 | d1 y hy =>
  rcases fall_putE hu (by rw[hs];rfl) mask torn with e | e | ⟨t,ht,e⟩
  ·rw[e,hs];exact VoF.c y hy
  ·rw[e,hs];exact VoF.d y hy
  ·exact absurd ht (Nat.not_lt_zero _)
 | d0 y hy =>
  rw[fall_none hu,hs]
  exact VoF.d y hy
 | e1 y hy =>
  rcases fall_rm hu mask torn with e | e<;>rw[e,hs]
  ·exact VoF.d y hy
  ·exact VoF.e
 | e0 =>
  rw[fall_none hu,hs]
  exact VoF.e
/-! ### Changes of a disk that may fail -/
theorem burn_two{D:DSt}(hd:D.down=false):∃k dn,burnD D={ D with fuse:=k,down:=dn }:=by
 unfold burnD
 split
 ·exact⟨_,_,rfl⟩
 ·exact⟨D.fuse,false,by cases D;simp only at hd;subst hd;rfl⟩
theorem change_two{D:DSt}{c:Wr}{off:Int}(hd:D.down=false)(hr:refuseD D c off=0):(∃k,changeD D c off=(11,{ D with fuse:=k,down:=true }))\/∃k,changeD D c off=(0,⟨D.sure,D.unsure++[c],D.room,k,false⟩):=by
 obtain⟨k,dn,h⟩:=burn_two hd
 unfold changeD
 rw[if_neg (by rw[hr];simp),h]
 cases dn with
 | true=>exact .inl ⟨k,by rw[if_pos rfl]⟩
 | false=>exact .inr ⟨k,by rw[if_neg (by simp)]⟩
theorem sync_two{D:DSt}(hd:D.down=false):(∃k,syncD D=(11,{ D with fuse:=k,down:=true }))\/∃k,syncD D=(0,⟨D.files,[],D.room,k,false⟩):=by
 obtain⟨k,dn,h⟩:=burn_two hd
 unfold syncD
 rw[if_neg (by rw[hd];simp),h]
 cases dn with
 | true=>exact .inl ⟨k,by rw[if_pos rfl]⟩
 | false=>exact .inr ⟨k,by rw[if_neg (by simp)]⟩
def dK(F:FS)(us:List Wr)(r k:Int):DSt:=⟨F,us,r,k,false⟩
theorem syncW_two{F:FS}{us:List Wr}{r k:Int}{l:Lg}(hl:l.down=false):((syncW l (dK F us r k)).1=11/\(syncW l (dK F us r k)).2.2.sure=F/\(syncW l (dK F us r k)).2.2.unsure=us)\/∃k',syncW l (dK F us r k)=(0,l,dK (us.foldl doF F) [] r k'):=by
 unfold syncW
 rw[if_neg (by rw[hl];simp)]
 rcases sync_two (D:=dK F us r k) rfl with⟨k',h⟩ | ⟨k',h⟩
 ·rw[h]
  exact .inl ⟨rfl,rfl,rfl⟩
 ·rw[h]
  refine .inr ⟨k',?_⟩
  have:l.fell 0=l:=by unfold Lg.fell;cases l;simp only at hl;subst hl;rfl
  simp only[this]
  rfl
theorem slD(r k:Int)(hx:∀y∈x,y.length<=65520)(hr:(H.length:Int)+(recsB 1 x).length<=r) :
  (∃k',saveLogD lg1 (dK [(hN,H),(wN,[])] [] r k) x=(0,lgB x,dK [(hN,H),(wN,recsB 1 x)] [] r k'))\/((saveLogD lg1 (dK [(hN,H),(wN,[])] [] r k) x).1=11/\VoS H Z x (saveLogD lg1 (dK [(hN,H),(wN,[])] [] r k) x).2.2.sure (saveLogD lg1 (dK [(hN,H),(wN,[])] [] r k) x).2.2.unsure):=by
 obtain⟨D,hD⟩:∃D,D=dK [(hN,H),(wN,[])] [] r k:=⟨_,rfl⟩
 rw[<-hD]
 by_cases hx0:x=[]
 ·subst hx0
  have ha:appendW lg1 D []=(0,lgB [],D):=by
   unfold appendW
   rw[if_neg (by simp[lg1]),if_neg (by simp),if_pos rfl];rfl
  unfold saveLogD
  rw[ha,if_neg (by simp)]
  simp only[hD]
  rcases syncW_two (F:=[(hN,H),(wN,[])]) (us:=[]) (r:=r) (k:=k) (l:=lgB []) rfl with⟨h1,h2,h3⟩ | ⟨k',h⟩
  ·exact .inr ⟨h1,by rw[h2,h3];exact VoS.a0⟩
  ·exact .inl ⟨k',h⟩
 ·have hrf:refuseD D ⟨1,wN,0,recsB 1 x⟩ ((0:Nat):Int)=0:=by
   have hg:fget D.files wN=some []:=by rw[hD];rfl
   have hfs:fsize D.files=H.length:=by rw[hD];show(H.length+0)+0=_;omega
   unfold refuseD
   rw[if_neg (by simp[hD,dK]),if_neg (by rw[ok_w];simp),if_neg (by simp[hg]),if_neg]
   simp only[hg,hfs,Option.getD_some,afterN]
   simp[hD,dK]
   omega
  have hany:¬(x.any fun r=>decide (65520<r.length))=true:=by
   rw[List.any_eq_true]
   rintro⟨y,hy,h2⟩
   have:=hx y hy
   simp at h2;omega
  have hto:lg1.to=⟨wN,1,[0]⟩:=by rw[<-wN_eq];rfl
  have hpd:putW D (Sg.mk wN 1 [0]).name (Sg.mk wN 1 [0]).stop (recsB lg1.next x)=changeD D ⟨1,wN,0,recsB 1 x⟩ ((0:Nat):Int):=rfl
  rcases change_two (D:=D) (by rw[hD];rfl) hrf with⟨k',h⟩ | ⟨k',h⟩
  ·have ha:appendW lg1 D x=(11,lg1.fell 11,{ D with fuse:=k',down:=true }):=by
    unfold appendW
    rw[if_neg (by simp[lg1]),if_neg hany,if_neg hx0,hto,hpd,h,if_pos (by simp)]
   unfold saveLogD
   rw[ha,if_pos (by simp)]
   refine .inr ⟨rfl,?_⟩
   show VoS H Z x D.sure D.unsure
   rw[hD]
   exact VoS.a0
  ·have ha:appendW lg1 D x=(0,lgB x,dK [(hN,H),(wN,[])] [⟨1,wN,0,recsB 1 x⟩] r k'):=by
    unfold appendW
    rw[if_neg (by simp[lg1]),if_neg hany,if_neg hx0,hto,hpd,h,if_neg (by simp)]
    unfold lgB
    rw[wN_eq,hD]
    rfl
   unfold saveLogD
   rw[ha,if_neg (by simp)]
   simp only
   rcases syncW_two (F:=[(hN,H),(wN,[])]) (us:=[⟨1,wN,0,recsB 1 x⟩]) (r:=r) (k:=k') (l:=lgB x) rfl with⟨h1,h2,h3⟩ | ⟨k2,h⟩
   ·exact .inr ⟨h1,by rw[h2,h3];exact VoS.a1⟩
   ·refine .inl ⟨k2,?_⟩
    rw[h]
    have h2:([⟨1,wN,0,recsB 1 x⟩]:List Wr).foldl doF [(hN,H),(wN,[])]=[(hN,H),(wN,recsB 1 x)]:=by
     have h2:fget [(hN,H),(wN,([]:List UInt8))] wN=some []:=rfl
     simp only[List.foldl_cons,List.foldl_nil,doF,if_true,h2,Option.getD_some,putD_new,fset_w]
    rw[h2]
theorem ssD(X:List UInt8)(hX:X.length<=65520)(r k:Int)(y:List (List UInt8))(hy:y=[]\/y=x)(hr:(H.length:Int)+(recsB 1 y).length+X.length+8<=r) :
  (∃k',(saveS (openS nmShot Sc.zero) (dK [(hN,H),(wN,recsB 1 y)] [] r k) X).1=0/\(saveS (openS nmShot Sc.zero) (dK [(hN,H),(wN,recsB 1 y)] [] r k) X).2.2=dK [(hN,H),(sN,frameB X),(wN,recsB 1 y)] [] r k')\/((saveS (openS nmShot Sc.zero) (dK [(hN,H),(wN,recsB 1 y)] [] r k) X).1=11/\VoS H (frameB X) x (saveS (openS nmShot Sc.zero) (dK [(hN,H),(wN,recsB 1 y)] [] r k) X).2.2.sure (saveS (openS nmShot Sc.zero) (dK [(hN,H),(wN,recsB 1 y)] [] r k) X).2.2.unsure):=by
 obtain⟨b,hb⟩:∃b,b=recsB 1 y:=⟨_,rfl⟩
 rw[<-hb] at hr ⊢
 have hV0:VoS H (frameB X) x [(hN,H),(wN,b)] []:=by
  rw[hb]
  rcases hy with e | e<;>rw[e]
  ·exact VoS.a0
  ·exact VoS.a2
 obtain⟨D,hD⟩:∃D,D=dK [(hN,H),(wN,b)] [] r k:=⟨_,rfl⟩
 rw[<-hD]
 have hfl:=frame_len X
 have hrf:refuseD D ⟨1,sN,0,frameB X⟩ 0=0:=by
  have hg:fget D.files sN=none:=by rw[hD];rfl
  have hfs:fsize D.files=H.length+b.length:=by rw[hD];show H.length+(b.length+0)=_;omega
  unfold refuseD
  rw[if_neg (by simp[hD,dK]),if_neg (by rw[ok_s];simp),if_neg (by rw[hD];simp[dK,DSt.files]),if_neg]
  simp only[hg,hfs,Option.getD_none,afterN]
  simp[hD,dK]
  omega
 have hpd:putS D (fileN nmShot (0+1)) X=changeD D ⟨1,sN,0,frameB X⟩ 0:=by
  show putS D (fileN nmShot 1) X=_
  rw[sN_eq];rfl
 have e0:(openS nmShot Sc.zero).base=nmShot:=rfl
 have e1:(openS nmShot Sc.zero).last=0:=rfl
 have e2:(openS nmShot Sc.zero).old=[]:=rfl
 have e3:(openS nmShot Sc.zero).down=false:=rfl
 unfold saveS
 rw[if_neg (by rw[e3];simp),if_neg (by omega),e0,e1,e2,hpd]
 rcases change_two (D:=D) (by rw[hD];rfl) hrf with⟨k',h⟩ | ⟨k',h⟩
 ·rw[h,if_pos (by simp)]
  refine .inr ⟨rfl,?_⟩
  show VoS H (frameB X) x D.sure D.unsure
  rw[hD]
  exact hV0
 ·rw[h,if_neg (by simp)]
  simp only
  have hD2:(⟨D.sure,D.unsure++[⟨1,sN,0,frameB X⟩],D.room,k',false⟩:DSt)=dK [(hN,H),(wN,b)] [⟨1,sN,0,frameB X⟩] r k':=by rw[hD];rfl
  rw[hD2]
  rcases sync_two (D:=dK [(hN,H),(wN,b)] [⟨1,sN,0,frameB X⟩] r k') rfl with⟨k2,h2⟩ | ⟨k2,h2⟩
  ·rw[h2,if_pos (by simp)]
   refine .inr ⟨rfl,?_⟩
   show VoS H (frameB X) x [(hN,H),(wN,b)] [⟨1,sN,0,frameB X⟩]
   rw[hb]
   exact VoS.b1 y hy
  ·rw[h2,if_neg (by simp),clean_none]
   refine .inl ⟨k2,rfl,?_⟩
   have h3:(dK [(hN,H),(wN,b)] [⟨1,sN,0,frameB X⟩] r k').files=[(hN,H),(sN,frameB X),(wN,b)]:=by
    have h4:fget [(hN,H),(wN,b)] sN=none:=rfl
    simp only[dK,DSt.files,List.foldl_cons,List.foldl_nil,doF,if_true,h4,Option.getD_none,putD_new,fset_s]
   rw[h3]
   rfl
theorem dropD(r k:Int)(y:List (List UInt8))(hy:y=[]\/y=x):VoS H Z x (dropW (lgB y) (dK [(hN,H),(sN,Z),(wN,recsB 1 y)] [] r k) 2).2.2.sure (dropW (lgB y) (dK [(hN,H),(sN,Z),(wN,recsB 1 y)] [] r k) 2).2.2.unsure:=by
 unfold dropW
 rw[if_neg (by simp[lgB])]
 split
 ·exact VoS.c0 y hy
 ·rcases syncW_two (F:=[(hN,H),(sN,Z),(wN,recsB 1 y)]) (us:=[]) (r:=r) (k:=k) (l:=lgB y) rfl with⟨h1,h2,h3⟩ | ⟨k',h⟩
  ·rw[if_pos (by rw[h1];simp),h2,h3]
   exact VoS.c0 y hy
  ·rw[h,if_neg (by simp)]
   exact VoS.c0 y hy
theorem resetD(r k:Int)(y:List (List UInt8))(hy:y=[]\/y=x):VoS H Z x (resetW (lgB y) (dK [(hN,H),(sN,Z),(wN,recsB 1 y)] [] r k) 2).2.2.sure (resetW (lgB y) (dK [(hN,H),(sN,Z),(wN,recsB 1 y)] [] r k) 2).2.2.unsure:=by
 obtain⟨D,hD⟩:∃D,D=dK [(hN,H),(sN,Z),(wN,recsB 1 y)] [] r k:=⟨_,rfl⟩
 rw[<-hD]
 have hrf:refuseD D ⟨1,fN,0,[]⟩ ((0:Nat):Int)=0:=by
  have hg:fget D.files fN=none:=by rw[hD];rfl
  unfold refuseD
  rw[if_neg (by simp[hD,dK]),if_neg (by rw[ok_f];simp),if_neg (by rw[hD];simp[dK,DSt.files]),if_neg (by simp[hg,afterN])]
 have hpd:putW D fN 0 []=changeD D ⟨1,fN,0,[]⟩ ((0:Nat):Int):=rfl
 have hsegs:(lgB y).segs.map Sg.name=[wN]:=by rw[<-wN_eq];rfl
 unfold resetW
 rw[if_neg (by simp[lgB]),if_neg (by decide),show(lgB y).era+1=1 from rfl,fN_eq,hpd,hsegs]
 rcases change_two (D:=D) (by rw[hD];rfl) hrf with⟨k',h⟩ | ⟨k',h⟩
 ·rw[h,if_pos (by simp)]
  show VoS H Z x D.sure D.unsure
  rw[hD]
  exact VoS.c0 y hy
 ·rw[h,if_neg (by simp)]
  simp only
  have hD2:(⟨D.sure,D.unsure++[⟨1,fN,0,[]⟩],D.room,k',false⟩:DSt)=dK [(hN,H),(sN,Z),(wN,recsB 1 y)] [⟨1,fN,0,[]⟩] r k':=by rw[hD];rfl
  rw[hD2]
  rcases syncW_two (F:=[(hN,H),(sN,Z),(wN,recsB 1 y)]) (us:=[⟨1,fN,0,[]⟩]) (r:=r) (k:=k') (l:=lgB y) rfl with⟨h1,h2,h3⟩ | ⟨k2,h2⟩
  ·rw[if_pos (by rw[h1];simp),h2,h3]
   exact VoS.d1 y hy
  ·have h3:([⟨1,fN,0,[]⟩]:List Wr).foldl doF [(hN,H),(sN,Z),(wN,recsB 1 y)]=[(hN,H),(sN,Z),(wN,recsB 1 y),(fN,[])]:=by
    have h4:fget [(hN,H),(sN,Z),(wN,recsB 1 y)] fN=none:=rfl
    simp only[List.foldl_cons,List.foldl_nil,doF,if_true,h4,Option.getD_none,putD_new,fset_f]
   rw[h3] at h2
   rw[h2,if_neg (by simp)]
   simp only
   have hrr:refuseD (dK [(hN,H),(sN,Z),(wN,recsB 1 y),(fN,[])] [] r k2) ⟨3,wN,0,[]⟩ 0=0:=by
    unfold refuseD
    rw[if_neg (by simp[dK]),if_neg (by rw[ok_w];simp),if_neg (by simp),if_neg (by simp[afterN])]
   unfold removeW rmD
   rcases change_two (D:=dK [(hN,H),(sN,Z),(wN,recsB 1 y),(fN,[])] [] r k2) rfl hrr with⟨k3,h5⟩ | ⟨k3,h5⟩
   ·rw[h5,if_pos (by simp)]
    exact VoS.d0 y hy
   ·rw[h5,if_neg (by simp)]
    unfold removeW
    show VoS H Z x (syncW _ (dK [(hN,H),(sN,Z),(wN,recsB 1 y),(fN,[])] [⟨3,wN,0,[]⟩] r k3)).2.2.sure (syncW _ (dK [(hN,H),(sN,Z),(wN,recsB 1 y),(fN,[])] [⟨3,wN,0,[]⟩] r k3)).2.2.unsure
    rcases syncW_two (F:=[(hN,H),(sN,Z),(wN,recsB 1 y),(fN,[])]) (us:=[⟨3,wN,0,[]⟩]) (r:=r) (k:=k3) (l:=Lg.fell { lgB y with era:=1,segs:=[⟨fN,2,[0]⟩],recs:=[],first:=2 } 0) rfl with⟨h6,h7,h8⟩ | ⟨k4,h7⟩
    ·rw[h7,h8]
     exact VoS.e1 y hy
    ·rw[h7]
     exact VoS.e0
theorem sshD(X:List UInt8)(hX:X.length<=65520)(r k:Int)(y:List (List UInt8))(hy:y=[]\/y=x)(hr:(H.length:Int)+(recsB 1 y).length+X.length+8<=r)(keep:Bool) :
  VoS H (frameB X) x (saveShotD (openS nmShot Sc.zero) (lgB y) (dK [(hN,H),(wN,recsB 1 y)] [] r k) keep 1 X).2.sure (saveShotD (openS nmShot Sc.zero) (lgB y) (dK [(hN,H),(wN,recsB 1 y)] [] r k) keep 1 X).2.unsure:=by
 unfold saveShotD
 rcases ssD (H:=H) (x:=x) X hX r k y hy hr with⟨k',h1,h2⟩ | ⟨h1,h2⟩
 ·rw[if_neg (by rw[h1];simp),h2]
  cases keep with
  | true =>
   rw[if_pos rfl]
   exact dropD r k' y hy
  | false =>
   rw[if_neg (by simp)]
   exact resetD r k' y hy
 ·rw[if_pos (by rw[h1];simp)]
  exact h2
end
section
variable {B g:Nat} {S:Nat->Prop} {w w':World}
def OpenV(B:Nat)(S:Nat->Prop)(w:World)(g:Nat)(ht:Nat)(hv:Int)(e:Ending)(w':World):Prop :=
 ∃(i t:Nat) (v l:List Int) (d:List UInt8) (fits:Bool) (es:List En) (sh ss:Sl) (lg:Lg) (D:DSt),OpenG B S w g ht hv i t v l d fits es sh ss lg D e w'
theorem sound_log{es es':List En}(hes:∀e∈es,e.sound)(hy:es'=[]\/es'=es):∀e∈es',e.sound:=by
 rcases hy with e | e<;>rw[e]
 ·intro x hx;cases hx
 ·exact hes
theorem lgB_seg{x:List (List UInt8)}:∀s∈(lgB x).segs,s.name.length<=1000:=fun s hs=>by
 have:s=⟨walName 0 1,1,0::marksB 0 1 x⟩:=by simpa [lgB] using hs
 subst this
 show(walName 0 1).length<=1000
 rw[walName_one];decide
theorem lgR_seg:∀s∈(lgR fN 2).segs,s.name.length<=1000:=fun s hs=>by
 have:s=⟨fN,2,[0]⟩:=by simpa [lgR] using hs
 subst this
 show fN.length<=1000
 decide
theorem some2{H b:List UInt8}:Some4 [(hN,H),(wN,b)]:=⟨fun p hp=>by
 have:p=(hN,H)\/p=(wN,b):=by simpa using hp
 rcases this with e | e<;>rw[e]
 ·exact .inl rfl
 ·exact .inr (.inr (.inl rfl)),by show(2:Nat)<=4;decide⟩
theorem some3{H Z b:List UInt8}:Some4 [(hN,H),(sN,Z),(wN,b)]:=⟨fun p hp=>by
 have:p=(hN,H)\/p=(sN,Z)\/p=(wN,b):=by simpa using hp
 rcases this with e | e | e<;>rw[e]
 ·exact .inl rfl
 ·exact .inr (.inl rfl)
 ·exact .inr (.inr (.inl rfl)),by show(3:Nat)<=4;decide⟩
theorem some3f{H Z b:List UInt8}:Some4 [(hN,H),(sN,Z),(fN,b)]:=⟨fun p hp=>by
 have:p=(hN,H)\/p=(sN,Z)\/p=(fN,b):=by simpa using hp
 rcases this with e | e | e<;>rw[e]
 ·exact .inl rfl
 ·exact .inr (.inl rfl)
 ·exact .inr (.inr (.inr rfl)),by show(3:Nat)<=4;decide⟩
theorem some4{H Z b c:List UInt8}:Some4 [(hN,H),(sN,Z),(wN,b),(fN,c)]:=⟨fun p hp=>by
 have:p=(hN,H)\/p=(sN,Z)\/p=(wN,b)\/p=(fN,c):=by simpa using hp
 rcases this with e | e | e | e<;>rw[e]
 ·exact .inl rfl
 ·exact .inr (.inl rfl)
 ·exact .inr (.inr (.inl rfl))
 ·exact .inr (.inr (.inr rfl)),by show(4:Nat)<=4;decide⟩
theorem found2{H b:List UInt8}{r:Int}:foundL (namesD (dF [(hN,H),(wN,b)] r))=[⟨wN,0,1⟩]:=by
 rw[names_dF]
 simp[foundL,part_h,part_w]
theorem found3{H Z b:List UInt8}{r:Int}:foundL (namesD (dF [(hN,H),(sN,Z),(wN,b)] r))=[⟨wN,0,1⟩]:=by
 rw[names_dF]
 simp[foundL,part_h,part_s,part_w]
theorem found3f{H Z b:List UInt8}{r:Int}:foundL (namesD (dF [(hN,H),(sN,Z),(fN,b)] r))=[⟨fN,1,2⟩]:=by
 rw[names_dF]
 simp[foundL,part_h,part_s,part_f]
theorem found4{H Z b c:List UInt8}{r:Int}:foundL (namesD (dF [(hN,H),(sN,Z),(wN,b),(fN,c)] r))=[⟨wN,0,1⟩,⟨fN,1,2⟩]:=by
 rw[names_dF]
 simp[foundL,part_h,part_s,part_w,part_f]
theorem sorted_two(f f':Fd)(h:f.first<=f'.first):Sorted1 [f,f']:=by
 intro i a b h1 h2
 match i,h1,h2 with
 | 0,h1,h2 =>
  simp at h1 h2
  rw[<-h1,<-h2]
  exact h
 | i+1,h1,h2=>simp at h2
theorem walOpenV{F:FS}{r:Int}(h4:Some4 F)(hf:foundL (namesD (dF F r))=[⟨wN,0,1⟩]\/foundL (namesD (dF F r))=[⟨fN,1,2⟩]\/foundL (namesD (dF F r))=[⟨wN,0,1⟩,⟨fN,1,2⟩])(hE:WEnv B w) :
  ∀(S':Nat->Prop) (wx:World),DI S' wx g (dF F r)->(∀b,S' b->B<=b)->Below B w wx->B<=wx.heap.size->Calls Tryz.prog 27 #[.pointer (some ⟨g,0,none⟩)] wx (OpenE B S' wx g (openW (dF F r))):=fun S' wx h1 h2 h3 h5=>by
 obtain⟨n1,n2,n3,n4⟩:=h4.wal (r:=r)
 refine walOpenG h1 rfl ?_ ?_ ?_ ?_ n1 n2 ?_ h5 h2 (hE.below h3) n3 n4
 ·rcases hf with e | e | e<;>rw[e]<;>simp
 ·rcases hf with e | e | e<;>rw[e]
  ·exact(sorted_one _).1
  ·exact(sorted_one _).1
  ·exact sorted_two _ _ (by decide)
 ·rcases hf with e | e | e<;>rw[e]
  ·rfl
  ·rfl
  ·rfl
 ·rcases hf with e | e | e<;>rw[e]<;>simp
 ·intro f hm
  rcases hf with e | e | e<;>rw[e] at hm
  ·rw[List.mem_singleton.1 hm];exact⟨by decide,by decide⟩
  ·rw[List.mem_singleton.1 hm];exact⟨by decide,by decide⟩
  ·have:f=⟨wN,0,1⟩\/f=⟨fN,1,2⟩:=by simpa using hm
   rcases this with e | e<;>rw[e]
   ·exact⟨by decide,by decide⟩
   ·exact⟨by decide,by decide⟩
theorem shot11:shotB 1 1 [1,2] [] 0=true:=by decide
theorem openVia{F0 F1 F2 F3:FS}{r:Int}{t:Nat}{v:Int}{sc2:Sc}{lg:Lg}{es:List En}(ht:t<18446744073709551616)(hv5:hardB v=true)(W:OpWay (dF F0 r) (dF F1 r) (dF F2 r) (dF F3 r) ⟨1,1,true,hardBytes t v,[hN]⟩ sc2 lg es)(hD:DI S w g (dF F0 r))(hB:B<=w.heap.size)(hS:∀b,S b->B<=b)(hE:WEnv B w)(V:Addr)(hv:RV w (some V) (ncells .i64 [1,2]))(hVS:¬S V.block)
  (i t1:Nat) (hi:i<=1) (hSh:ShotOf (openS nmShot sc2) i t1 [1,2] [] [] 0 0 [1,2] [] []) (h2:Some4 F2) (hf:foundL (namesD (dF F2 r))=[⟨wN,0,1⟩]\/foundL (namesD (dF F2 r))=[⟨fN,1,2⟩]\/foundL (namesD (dF F2 r))=[⟨wN,0,1⟩,⟨fN,1,2⟩]) (fits:Bool) (hfit:fitsB lg es i t1=fits) (hrs:fits=false->(resetW lg (dF F3 r) (i+1)).1=0) :
  Calls Tryz.prog 8 #[.pointer (some ⟨g,0,none⟩),.agg (shotC 0 0 [1,2] [] [] (some V) 2 none 0 none 0)] w (OpenV B S w g t v):=by
 unfold hardB at hv5
 simp only[Bool.and_eq_true,decide_eq_true_eq] at hv5
 refine(storeOpenG t v i t1 [1,2] [] [] 0 0 [1,2] [] [] (some V) 2 none 0 none 0 _ _ _ _ _ _ _ es W hD hB hS hE.se hv RV.nil RB.nil (fun _=>blk_some hVS) (fun h=>by simp at h) (fun h=>by simp at h) shot12
  ⟨rfl,.inr ⟨rfl,rfl,ht,hv5.1,hv5.2⟩⟩ hSh (by omega) (by decide) (walOpenV h2 hf hE) fits hfit hrs).mono ?_
 intro e w' h
 exact⟨_,_,_,_,_,_,_,_,_,_,_,h⟩
theorem openV(r:Int)(hr0:0<=r)(t:Nat)(v:Int)(ht:t<18446744073709551616)(hv5:hardB v=true)(es:List En)(hes:∀e∈es,e.sound)(hel:es.length<=100)(F:FS)(hF:VoF (frameB (hardBytes t v)) (frameB (shotBytes 1 1 [1,2] [] [])) (es.map En.bytes) F)(hD:DI S w g (dF F r))(hB:B<=w.heap.size)(hS:∀b,S b->B<=b)(hE:WEnv B w)(V:Addr)(hv:RV w (some V) (ncells .i64 [1,2]))(hVS:¬S V.block) :
  Calls Tryz.prog 8 #[.pointer (some ⟨g,0,none⟩),.agg (shotC 0 0 [1,2] [] [] (some V) 2 none 0 none 0)] w (OpenV B S w g t v):=by
 have hH:(hardBytes t v).length<=65520:=by have:=hardBytes_len t v;omega
 have hZ:(shotBytes 1 1 [1,2] [] []).length<=65520:=by have:=shotBytes_len (d:=[]) shot11;simp at this;omega
 have hrec:=rec_bound hes
 have hrl:=recsB_bound (es.map En.bytes) 1 hrec
 rw[List.length_map] at hrl
 have hrec':∀y∈es.map En.bytes,y.length<=65520:=fun y hy=>by have:=hrec y hy;omega
 have ylog:∀y:List (List UInt8),(y=[]\/y=es.map En.bytes)->∃es',(es'=[]\/es'=es)/\y=es'.map En.bytes:=fun y hy=>by
  rcases hy with e | e
  ·exact⟨[],.inl rfl,e⟩
  ·exact⟨es,.inr rfl,e⟩
 cases hF with
 | a m =>
  obtain⟨j,hj,ho⟩:=openW_torn (F:=[(hN,frameB (hardBytes t v)),(wN,(recsB 1 (es.map En.bytes)).take m)]) (r:=r) (x:=es.map En.bytes) (m:=m) found2 rfl rfl hrec' (by rw[List.length_map];omega) hr0 (by omega)
  rw[fset_w] at ho
  have W:OpWay (dF [(hN,frameB (hardBytes t v)),(wN,(recsB 1 (es.map En.bytes)).take m)] r) (dF [(hN,frameB (hardBytes t v)),(wN,(recsB 1 (es.map En.bytes)).take m)] r) (dF [(hN,frameB (hardBytes t v)),(wN,(recsB 1 (es.map En.bytes)).take m)] r) _ ⟨1,1,true,hardBytes t v,[hN]⟩ Sc.zero (lgB ((es.map En.bytes).take j)) (es.take j) :=
   wayOf some2 some2 some2 (openHard hH (fun p hp=>by rw[List.mem_singleton.1 hp];exact .inr (.inl rfl))) openShot_none ho (fun e he=>hes e (List.mem_of_mem_take he)) (by rw[List.map_take];rfl) rfl (by show(1:Nat)<=_;decide) (by rw[List.length_take];omega) (by show(0:Nat)<=_;decide) lgB_seg (by show(1:Nat)<=_;decide)
  exact openVia ht hv5 W hD hB hS hE V hv hVS 0 0 (by decide) ⟨rfl,.inl ⟨rfl,by decide,rfl,rfl,rfl,rfl,rfl⟩⟩ some2 (.inl found2) true rfl (fun h=>by cases h)
 | b m y hm hy =>
  obtain⟨es',he',rfl⟩:=ylog y hy
  have hs':=sound_log hes he'
  have hl':es'.length<=100:=by rcases he' with e | e<;>rw[e]<;>first | exact hel | exact Nat.zero_le _
  have W:OpWay (dF [(hN,frameB (hardBytes t v)),(sN,(frameB (shotBytes 1 1 [1,2] [] [])).take m),(wN,recsB 1 (es'.map En.bytes))] r) (dF [(hN,frameB (hardBytes t v)),(sN,(frameB (shotBytes 1 1 [1,2] [] [])).take m),(wN,recsB 1 (es'.map En.bytes))] r) (dF [(hN,frameB (hardBytes t v)),(wN,recsB 1 (es'.map En.bytes))] r) (dF [(hN,frameB (hardBytes t v)),(wN,recsB 1 (es'.map En.bytes))] r) ⟨1,1,true,hardBytes t v,[hN]⟩ ⟨1,0,false,[],[sN]⟩ (lgB (es'.map En.bytes)) es' :=
   wayOf some3 some3 some2 (openHard hH (fun p hp=>by
    have:p=(sN,(frameB (shotBytes 1 1 [1,2] [] [])).take m)\/p=(wN,recsB 1 (es'.map En.bytes)):=by simpa using hp
    rcases this with e | e<;>rw[e]
    ·exact .inl rfl
    ·exact .inr (.inl rfl))) (openShot_torn hZ hm) (openW_G (rest_dF _ _) found2 rfl (fun y hy=>by have:=rec_bound hs' y hy;omega) (by rw[List.length_map];omega)) hs' rfl rfl (by show(1:Nat)<=_;decide) (by omega) (by show(0:Nat)<=_;decide) lgB_seg (by show(1:Nat)<=_;decide)
  exact openVia ht hv5 W hD hB hS hE V hv hVS 0 0 (by decide) ⟨rfl,.inl ⟨rfl,by decide,rfl,rfl,rfl,rfl,rfl⟩⟩ some2 (.inl found2) true rfl (fun h=>by cases h)
 | c y hy =>
  obtain⟨es',he',rfl⟩:=ylog y hy
  have hs':=sound_log hes he'
  have hl':es'.length<=100:=by rcases he' with e | e<;>rw[e]<;>first | exact hel | exact Nat.zero_le _
  have W:OpWay (dF [(hN,frameB (hardBytes t v)),(sN,frameB (shotBytes 1 1 [1,2] [] [])),(wN,recsB 1 (es'.map En.bytes))] r) (dF [(hN,frameB (hardBytes t v)),(sN,frameB (shotBytes 1 1 [1,2] [] [])),(wN,recsB 1 (es'.map En.bytes))] r) (dF [(hN,frameB (hardBytes t v)),(sN,frameB (shotBytes 1 1 [1,2] [] [])),(wN,recsB 1 (es'.map En.bytes))] r) (dF [(hN,frameB (hardBytes t v)),(sN,frameB (shotBytes 1 1 [1,2] [] [])),(wN,recsB 1 (es'.map En.bytes))] r) ⟨1,1,true,hardBytes t v,[hN]⟩ ⟨1,1,true,shotBytes 1 1 [1,2] [] [],[sN]⟩ (lgB (es'.map En.bytes)) es' :=
   wayOf some3 some3 some3 (openHard hH (fun p hp=>by
    have:p=(sN,frameB (shotBytes 1 1 [1,2] [] []))\/p=(wN,recsB 1 (es'.map En.bytes)):=by simpa using hp
    rcases this with e | e<;>rw[e]
    ·exact .inl rfl
    ·exact .inr (.inl rfl))) (openShot hZ (fun p hp=>by rw[List.mem_singleton.1 hp];exact .inl rfl)) (openW_G (rest_dF _ _) found3 rfl (fun y hy=>by have:=rec_bound hs' y hy;omega) (by rw[List.length_map];omega)) hs' rfl rfl (by show(1:Nat)<=_;decide) (by omega) (by show(0:Nat)<=_;decide) lgB_seg (by show(1:Nat)<=_;decide)
  exact openVia ht hv5 W hD hB hS hE V hv hVS 1 1 (by decide) ⟨rfl,.inr ⟨rfl,rfl,shot11⟩⟩ some3 (.inl found3) _ rfl (fun _=>reset_ok)
 | d y hy =>
  have hdl:fdel [(hN,frameB (hardBytes t v)),(sN,frameB (shotBytes 1 1 [1,2] [] [])),(wN,recsB 1 y),(fN,[])] wN=[(hN,frameB (hardBytes t v)),(sN,frameB (shotBytes 1 1 [1,2] [] [])),(fN,[])]:=fdel_w
  have ho:=openW_wf (r:=r) (found4 (H:=frameB (hardBytes t v)) (Z:=frameB (shotBytes 1 1 [1,2] [] [])) (b:=recsB 1 y) (c:=[])) rfl (by rw[hdl];rfl)
  rw[hdl] at ho
  have W:OpWay (dF [(hN,frameB (hardBytes t v)),(sN,frameB (shotBytes 1 1 [1,2] [] [])),(wN,recsB 1 y),(fN,[])] r) (dF [(hN,frameB (hardBytes t v)),(sN,frameB (shotBytes 1 1 [1,2] [] [])),(wN,recsB 1 y),(fN,[])] r) (dF [(hN,frameB (hardBytes t v)),(sN,frameB (shotBytes 1 1 [1,2] [] [])),(wN,recsB 1 y),(fN,[])] r) (dF [(hN,frameB (hardBytes t v)),(sN,frameB (shotBytes 1 1 [1,2] [] [])),(fN,[])] r) ⟨1,1,true,hardBytes t v,[hN]⟩ ⟨1,1,true,shotBytes 1 1 [1,2] [] [],[sN]⟩ (lgR fN 2) [] :=
   wayOf some4 some4 some3f (openHard hH (fun p hp=>by
    have:p=(sN,frameB (shotBytes 1 1 [1,2] [] []))\/p=(wN,recsB 1 y)\/p=(fN,[]):=by simpa using hp
    rcases this with e | e | e<;>rw[e]
    ·exact .inl rfl
    ·exact .inr (.inl rfl)
    ·exact .inr (.inr rfl))) (openShot hZ (fun p hp=>by
    have:p=(wN,recsB 1 y)\/p=(fN,[]):=by simpa using hp
    rcases this with e | e<;>rw[e]
    ·exact .inl rfl
    ·exact .inr rfl)) ho (fun x hx=>by cases hx) rfl rfl (by show(2:Nat)<=_;decide) (by decide) (by show(1:Nat)<=_;decide) lgR_seg (by show(1:Nat)<=_;decide)
  exact openVia ht hv5 W hD hB hS hE V hv hVS 1 1 (by decide) ⟨rfl,.inr ⟨rfl,rfl,shot11⟩⟩ some4 (.inr (.inr found4)) true (fits_new fN 1 1) (fun h=>by cases h)
 | e =>
  have W:OpWay (dF [(hN,frameB (hardBytes t v)),(sN,frameB (shotBytes 1 1 [1,2] [] [])),(fN,[])] r) (dF [(hN,frameB (hardBytes t v)),(sN,frameB (shotBytes 1 1 [1,2] [] [])),(fN,[])] r) (dF [(hN,frameB (hardBytes t v)),(sN,frameB (shotBytes 1 1 [1,2] [] [])),(fN,[])] r) (dF [(hN,frameB (hardBytes t v)),(sN,frameB (shotBytes 1 1 [1,2] [] [])),(fN,[])] r) ⟨1,1,true,hardBytes t v,[hN]⟩ ⟨1,1,true,shotBytes 1 1 [1,2] [] [],[sN]⟩ (lgR fN 2) [] :=
   wayOf some3f some3f some3f (openHard hH (fun p hp=>by
    have:p=(sN,frameB (shotBytes 1 1 [1,2] [] []))\/p=(fN,[]):=by simpa using hp
    rcases this with e | e<;>rw[e]
    ·exact .inl rfl
    ·exact .inr (.inr rfl))) (openShot hZ (fun p hp=>by rw[List.mem_singleton.1 hp];exact .inr rfl)) (openW_fN found3f rfl) (fun x hx=>by cases hx) rfl rfl (by show(2:Nat)<=_;decide) (by decide) (by show(1:Nat)<=_;decide) lgR_seg (by show(1:Nat)<=_;decide)
  exact openVia ht hv5 W hD hB hS hE V hv hVS 1 1 (by decide) ⟨rfl,.inr ⟨rfl,rfl,shot11⟩⟩ some3f (.inr (.inl found3f)) true (fits_new fN 1 1) (fun h=>by cases h)
end
section
variable {w w':World}
theorem field_term(a b:Value)(w:World):(Instr.field 25 (.agg #[a,b]) 0).run Tryz.prog w=.ok a w:=by kernel_rfl
theorem lawAnswersS(w:World)(hE:SEnv w.heap.size w):Calls Tryz.prog 11 #[] w fun e w'=>e=.returned (.bool true)/\Below w.heap.size w w':=by
 have HE:=qh hE
 have ND:=qh (diskNew 9000 w (by decide) (by decide))
 clear hE
 go_enter Tryz.func11,Tryz.ntmps11
 go_wp2_with (go_at_call 7;refine ND.out.mono ?_)
 first | rintro e w1 ⟨g,rfl,hd,b1⟩ | rintro e w1 g rfl hd b1
 have HB1:=qh b1
 have HD:=qh hd
 clear b1 hd ND
 go_wp2_with fail
 refine lawFirst.mono ?_
 rintro e w2 ⟨V,rfl,ho,b2⟩
 have hb2:=belowTrans HB1.out b2
 have hsz1:=HB1.out.size
 have OP:=qh (storeOpenYes (B:=w.heap.size) (g:=g) 0 0 [1,2] [] [] (some V) 2 none 0 none 0 (HD.out.below b2) hb2.size (fun b e=>e.1) (HE.out.below hb2) ho.rv RV.nil RB.nil
  (fun _ k hk e=>by have h1:=(ho.blk_lt k hk).1;have h2:=e.2;omega) (fun h0=>by cases h0) (fun h0=>by cases h0) (by decide))
 have HB2:=qh hb2
 have HNS:Hid (∀b,News w w1 b->w.heap.size<=b/\b<w1.heap.size):=qh (fun b e=>e)
 clear ho b2 hb2 HD
 go_wp2_with fail
 refine OP.out.mono ?_
 rintro e w3 ⟨q,ph,ps,pl,nb,A,ac,Bb,bc,C,cc,A',ac',B',bc',C',cc',rfl,hq,o1,o2,o3,hqw,hqn,m3,hy⟩
 obtain⟨S3,V3,cv3,O3,co3,r3,k3,hqS,hSn,hpn,hqp⟩:=hy rfl
 have hb3:Below w.heap.size w w3:=Mods.old HB2.out m3 HB2.out.size (fun i _ e=>(HNS.out i e).1)
 have hb4:Below w3.heap.size w3 (w3.alloc (.cells state0 38)):=(Below.refl _ _).alloc (Nat.le_refl _) _
 have T4:=qh (Blk.new w3 state0 38)
 have hB4:=below_setRow (g:=w3.heap.size) (hb3.trans (hb4.mono hb3.size)) hb3.size (stateC 0 0 0 0 [1,2] [] [] A' ac' B' bc' C' cc')
 have hB43:=below_setRow (g:=w3.heap.size) hb4 (Nat.le_refl _) (stateC 0 0 0 0 [1,2] [] [] A' ac' B' bc' C' cc')
 obtain⟨w4,hw4⟩:∃w4,w4=(w3.alloc (.cells state0 38)).setRow w3.heap.size (stateC 0 0 0 0 [1,2] [] [] A' ac' B' bc' C' cc'):=⟨_,rfl⟩
 rw[<-hw4] at hB4 hB43
 have HW4:=qh hw4.symm
 have o1':=o1.below hB43
 have r4:=r3.below hB43
 have SH:=qh (storeSaveHard (nb:=nb) 5 2 [1,2] A ac Bb bc C cc (hq.kept hB43) r4 hB4.size (HE.out.below hB4) hqS hqp o1' hSn hpn hqn (by decide) (by decide))
 have hsg:∀b,S3 b->w.heap.size<=b:=r3.sge
 have hpg:=r3.ge
 have G4:=qh (And.intro hB4 (And.intro hsg hpg))
 have HR:=qh (And.intro (o2.below hB43) (And.intro (o3.below hB43) (And.intro r4.di.bnd hSn)))
 have hqw':w.heap.size<=q:=by have:=HB2.out.size;omega
 clear OP hq o1 o2 o3 m3 hy r3 k3 hb3 hb4 hB4 hB43 hw4 o1' r4 hsg HB1 HNS
 go_wp2_with (first
  | (refine wpList_store_row rfl 38 (.tmp 4) (.tmp 16) rfl w3.heap.size (stateC 0 0 0 0 [1,2] [] [] A' ac' B' bc' C' cc') rfl rfl _ _ T4.out state_size rfl (by simp[Value.oneCell']) ?_;rw[HW4.out])
  | (go_at_call 14;refine SH.out.mono ?_))
 rintro e w5 ⟨rfl,hq5,o5,m5⟩
 have HB5:=qh (Mods.old G4.out.1 m5 G4.out.1.size (fun i _ e=>e.elim (G4.out.2.1 i) (fun e=>e.elim (fun e=>by rw[e];exact G4.out.2.2) (fun e=>by rw[e];exact hqw'))))
 have ST:=qh (storeState 5 2 0 0 [1,2] [] [] A ac Bb bc C cc hq5 o5.rv RV.nil RB.nil (by decide) (by decide) (by decide))
 clear SH hq5 o5 m5 G4 HR
 go_wp2_with (go_at_call 16;refine ST.out.mono ?_)
 rintro e w6 ⟨A6,ac6,B6,bc6,C6,cc6,rfl,_,_,_,b6⟩
 have HB6:=qh (HB5.out.trans (b6.mono HB5.out.size))
 have f1:=field_hard (.int .u64 5) (.int .i64 2) (.int .u64 0) (.int .u64 0) (.slice A6 2 ac6) (.slice B6 0 bc6) (.slice C6 0 cc6) (.slice none 0 0) w6
 have f2:=field_term (.int .u64 5) (.int .i64 2) w6
 clear b6 ST HB5
 unfold stateC
 go_wp2_with fail
 go_ret
 exact⟨rfl,HB6.out⟩
end
section
variable {w w':World}
theorem refHardOK(t:Nat)(v:Int)(w:World)(r:Bool)(hr:hardB v=r) :
  Calls Tryz.prog 13 #[.agg #[.int .u64 (t:Int),.int .i64 v]] w fun e w'=>e=.returned (.bool r)/\Below w.heap.size w w':=by
 have HAL:Hid (Below w.heap.size w (w.alloc (.cells #[.int .u64 (t:Int),.int .i64 v] 25))):=qh ((Below.refl _ _).alloc (Nat.le_refl _) _)
 have HR:=qh hr
 clear hr
 go_enter Tryz.func13,Tryz.ntmps13
 by_cases h0:0<=v
 ·go_wp2_with fail
  go_ret
  exact⟨by rw[<-HR.out];unfold hardB;refine ret_boolB ?_;simp[h0],HAL.out⟩
 ·go_wp2_with fail
  go_ret
  exact⟨by rw[<-HR.out];unfold hardB;refine ret_boolB ?_;rw[decide_eq_false (show ¬0<=v by omega)];rfl,HAL.out⟩
theorem hard_eq(t v:Int)(w:World):(Op.equalIn 10000 25 (.agg #[.int .u64 t,.int .i64 v]) (.agg #[.int .u64 t,.int .i64 v])).run Tryz.prog w=.ok true w:=by
 have u1:=Tryz.underlying3
 have a1:=Tryz.isAgg3
 have z1:=Tryz.sizeOf3
 have u3:=Tryz.underlying23
 have a3:=Tryz.isAgg23
 have z3:=Tryz.sizeOf23
 have hS:=Tryz.underlying25
 unfold Op.equalIn
 simp only[Sem.run_bind,run_underlying hS,Result.andThen_ok]
 go_simp
end
section
variable {w w':World} {lo hi n ht i t ac bc cc ec:Nat} {hv:Int} {v l:List Int} {d:List UInt8} {es:List En} {A Bb C E:Option Addr} {es':List ERow}
end
theorem fine1:lg1.fine:=by
 have e:∀s∈lg1.segs,s=⟨walName 0 1,1,[0]⟩:=fun s hs=>by simpa [lg1] using hs
 refine⟨fun s hs=>?_,by decide,by decide,by decide,by decide,fun r hr=>by cases hr⟩
 rw[e s hs]
 exact⟨by decide,by decide,by show(walName 0 1).length<=1000;rw[walName_one];decide,by decide⟩
section
variable {w w':World}
end
end Go.Proofs.YtobdmlejabjmiaaGreatDoor
