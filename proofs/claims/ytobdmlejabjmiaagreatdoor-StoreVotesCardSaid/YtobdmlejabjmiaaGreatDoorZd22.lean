/- Made small by a program. -/
import Derived.Test.YtobdmlejabjmiaaGreatDoorZd21
set_option maxRecDepth 20000
set_option maxHeartbeats 8000000
namespace Go.Proofs.YtobdmlejabjmiaaGreatDoor
open Go.RowKit
structure CA(B p c6 c7:Nat)(b:Nm)(n:Nat)(w:World):Prop where
 six:Blk w c6 69 #[.pointer (some ⟨p,0,none⟩)]
 seven:Blk w c7 23 #[.int .u64 (n:Int)]
 slot:∃cs,Blk w p TS cs/\cs[1]?=some (.string ⟨b.toArray⟩)
 env:SEnv B w
 lo:B<=w.heap.size
 bl:b.length<=8
 nn:n<18446744073709551616
theorem CA.below{B p c6 c7:Nat}{b:Nm}{n:Nat}{w w':World}(h:CA B p c6 c7 b n w)(hb:Below w.heap.size w w'):CA B p c6 c7 b n w':=by
 obtain⟨h1,h2,⟨cs,h3,h4⟩,h5,h6,h7,h8⟩:=h
 exact⟨h1.kept hb,h2.kept hb,⟨cs,h3.kept hb,h4⟩,h5.below (hb.mono h6),Nat.le_trans h6 hb.size,h7,h8⟩
theorem CA.mods{B p c6 c7 k:Nat}{b:Nm}{n:Nat}{w w':World}(h:CA B p c6 c7 b n w)(m:Mods (·=k) w w')(hk:B<=k)(h1:c6≠k)(h2:c7≠k)(h3:p≠k):CA B p c6 c7 b n w':=by
 obtain⟨q1,q2,⟨cs,q3,q4⟩,q5,q6,q7,q8⟩:=h
 exact⟨q1.mods m h1,q2.mods m h2,⟨cs,q3.mods m h3,q4⟩,q5.below (Mods.old (Below.refl _ _) m q6 (fun i _ e=>by subst e;exact hk)),Nat.le_trans q6 m.size,q7,q8⟩
section
variable {B p c6 c7 n:Nat} {b:Nm} {w w':World}
theorem slotPick(h:CA B p c6 c7 b n w)(f:List UInt8)(r:Bool)(hr:(f == fileN b n)=r) :
  Calls Tryz.prog 62 #[.string ⟨f.toArray⟩,.pointer (some ⟨c6,0,none⟩),.pointer (some ⟨c7,0,none⟩)] w fun e w'=>e=.returned (.bool r)/\Below w.heap.size w w':=by
 obtain⟨h1,h2,⟨cs,h3,h4⟩,h5,h6,h7,h8⟩:=h
 have e6:w.cell? ⟨c6,0,none⟩=some (.pointer (some ⟨p,0,none⟩)):=h1.cell 0 rfl
 have e7:w.cell? ⟨c7,0,none⟩=some (.int .u64 (n:Int)):=h2.cell 0 rfl
 have FI:=qh (slotFile h3 h4 h7 n h8 h5 h6)
 generalize fileN b n=y at *
 clear h1 h2 h3 h4 h5 h6
 go_enter Tryz.func62,Tryz.ntmps62
 go_wp2_with (go_at_call 63;refine FI.out.mono ?_)
 rintro e w1 ⟨rfl,b1⟩
 have HB:=qh b1
 clear b1 FI
 go_wp2_with fail
 go_ret
 exact⟨rfl,HB.out⟩
abbrev pickV(c6 c7:Nat):Value:=.func (.func 62) #[] #[.pointer (some ⟨c6,0,none⟩),.pointer (some ⟨c7,0,none⟩)]
theorem slotIndex(h:CA B p c6 c7 b n w)(l1 l2:List Nm)(O:Option Addr)(co m:Nat)(hm:m=(l1++fileN b n::l2).length)(hl:RV w O ((l1++fileN b n::l2).map encStr))(h1:fileN b n ∉ l1)(hn:m<=1000000) :
  Calls Tryz.prog 127 #[.slice O m co,pickV c6 c7] w fun e w'=>e=.returned (.int .i64 (l1.length:Int))/\Below w.heap.size w w':=by
 have HC:=qh h
 have HL:=qh hl
 have HNI:=qh h1
 have HM:=qh hm
 have hm1:l1.length<m:=by rw[hm];simp
 clear h hl h1 hm
 go_enter Tryz.func127,Tryz.ntmps127
 go_wp2_with fail
 go_loopw [8] (fun i wr=>∃k:Nat,k<=l1.length/\i=.int .i64 (k:Int)/\Hid (Below w.heap.size w wr)) (fun i _=>l1.length - (intOf i).toNat)
 case atStart=>exact⟨0,Nat.zero_le _,rfl,qh (Below.refl _ _)⟩
 case round =>
  obtain⟨k,hk,rfl,HW⟩:=hrel
  have hki:(k:Int)<(m:Int):=by omega
  have hki0:(0:Int)<=(k:Int):=by omega
  have hkm:k<(l1++fileN b n::l2).length:=by rw[<-HM.out];omega
  have hc0:=(HL.out.below HW.out).cell (j:=k) (by rw[List.length_map];exact hkm)
  obtain⟨ob,off,rfl,hbl,hc⟩:=hc0
  rw[show((l1++fileN b n::l2).map encStr)[k]'(by rw[List.length_map];exact hkm)=.string ⟨((l1++fileN b n::l2)[k]).toArray⟩ from by rw[List.getElem_map]] at hc
  have HCW:=qh (HC.out.below HW.out)
  by_cases hlt:k<l1.length
  ·have hne:((l1++fileN b n::l2)[k] == fileN b n)=false:=by
    rw[List.getElem_append_left hlt]
    exact beq_eq_false_iff_ne.2 (fun e=>HNI.out (by rw[<-e];exact List.getElem_mem hlt))
   have PK:=qh (slotPick HCW.out _ _ hne)
   generalize (l1++fileN b n::l2)[k]=f at *
   clear HCW hne
   go_wp2_with fail
   refine PK.out.mono ?_
   rintro e w1 ⟨rfl,b1⟩
   have HW1:=qh (HW.out.trans (b1.mono HW.out.size))
   clear b1 PK
   go_wp2_with fail
   go_roundw
   case rel=>exact⟨k+1,by omega,by go_num,HW1⟩
   case measure=>simp[intOf];omega
  ·obtain rfl:k=l1.length:=by omega
   have he:((l1++fileN b n::l2)[l1.length] == fileN b n)=true:=by
    rw[List.getElem_append_right (Nat.le_refl _)]
    simp
   have PK:=qh (slotPick HCW.out _ _ he)
   generalize (l1++fileN b n::l2)[l1.length]=f at *
   clear HCW he
   go_wp2_with fail
   refine PK.out.mono ?_
   rintro e w1 ⟨rfl,b1⟩
   have HW1:=qh (HW.out.trans (b1.mono HW.out.size))
   clear b1 PK
   go_wp2_with fail
   go_ret
   exact⟨rfl,HW1.out⟩
end
theorem run_clear1{P:Program}(w:World)(t e ty:TypeId){z:Value}{k:Nat}(ht:P.underlying t=some (.slice e))(hz:∀w,(zeroValue e).run P w=.ok z w)(hzs:z.cells.size=k)(k0:0<k)(hz1:∀v∈z.cells.toList,v.oneCell'=true)
  (b off c:Nat) (cur:Array Value) (hg:w.heap[b]?=some (.cells cur e (0,0))) (hfit:off+k<=cur.size) :
  ∃zs:List Value,zs.length=k/\(Builtin.clear_ #[t] ty #[.slice (some ⟨b,off,none⟩) 1 c]).run P w=.ok (.tuple #[]) (w.setRow b (cur.toList.take off++zs++cur.toList.drop (off+zs.length)).toArray):=by
 have hzl:(Builtin.zeroCells z.cells 1).toList.length=k:=by simp[Builtin.zeroCells,hzs]
 have hst:=run_storeCells_at P b off e (Builtin.zeroCells z.cells 1).toList 0 cur w hg (by rw[hzl];omega) (fun v hv=>by
  simp only[Builtin.zeroCells,Array.toList_map,List.mem_map,Array.toList_range,List.mem_range] at hv
  obtain⟨i,hi,rfl⟩:=hv
  refine hz1 _ ?_
  have hlt:i % z.cells.size<z.cells.size:=Nat.mod_lt _ (by omega)
  rw[getElem!_pos z.cells _ hlt]
  exact Array.getElem_mem_toList hlt)
 simp only[Nat.add_zero] at hst
 refine⟨_,hzl,?_⟩
 simp[Builtin.clear_,run_underlying ht,hz,hst]
theorem OV.store{w:World}{base c k:Nat}{e:TypeId}{g:Nat}{xs:List Value}(h:OV w base e (some ⟨g,0,none⟩) c xs)(hk:k<xs.length)(v:Value) :
  w.cell? ⟨g,k,none⟩=some xs[k]/\w.frozen? ⟨g,k,none⟩=false/\OV (w.setCell ⟨g,k,none⟩ v) base e (some ⟨g,0,none⟩) c (xs.set k v):=by
 refine⟨?_,World.ownsRow.frozenAt h k,?_⟩
 ·have:=World.ownsRow.cellAt h k (by omega)
  rw[this,List.getElem?_eq_getElem hk]
 ·have:=(World.ownsRow.stored h k v).1
  unfold OV
  rw[List.length_set]
  exact this
theorem OV.cur{w:World}{base c g:Nat}{e:TypeId}{xs:List Value}(h:OV w base e (some ⟨g,0,none⟩) c xs):∃cur,w.heap[g]?=some (.cells cur e (0,0))/\base<=g/\xs.length<=c/\c<=maxLen/\cur.size=c/\cur.toList.take xs.length=xs:=by
 rcases h.2 with⟨hv,_⟩ | ⟨g',cap,cur,hv,hb,hg,hc,hm,hs,ht⟩
 ·injection hv with h1;cases h1
 ·injection hv with h1 _ h3
  injection h1 with h1
  injection h1 with h1
  subst h1 h3
  exact⟨cur,hg,hb,hc,hm,by omega,by simpa using ht⟩
theorem OV.cutAt{w:World}{base c g:Nat}{e:TypeId}{xs:List Value}(h:OV w base e (some ⟨g,0,none⟩) c xs){cur:Array Value}(hg:w.heap[g]?=some (.cells cur e (0,0)))(n:Nat)(hn:n<=xs.length)(zs:List Value)(hz:n+zs.length<=cur.size) :
  OV (w.setRow g (cur.toList.take n++zs++cur.toList.drop (n+zs.length)).toArray) base e (some ⟨g,0,none⟩) c (xs.take n):=by
 obtain⟨cur',hg',hb,hc,hm,hs,ht⟩:=h.cur
 rw[hg] at hg'
 injection hg' with hg'
 injection hg' with hg'
 subst hg'
 refine⟨by simp,.inr ⟨g,c,_,rfl,hb,setRow_heap w g cur _ e _ hg,?_,hm,?_,?_⟩⟩
 ·rw[List.length_take];omega
 ·simp only[List.size_toArray,List.length_append,List.length_take,List.length_drop,Array.length_toList]
  omega
 ·rw[List.length_take,Nat.min_eq_left hn,Nat.mul_one]
  simp only
  rw[List.append_assoc,List.take_append_of_le_length (by simp;omega),List.take_take,Nat.min_self]
  rw[<-ht,List.take_take,Nat.min_eq_left hn]
theorem str_zero(w:World):(zeroValue 9).run Tryz.prog w=.ok (.string ⟨#[]⟩) w:=by kernel_rfl
structure DelAt(B p c6 c7 g co:Nat)(b:Nm)(n:Nat)(w:World)(l1 l2:List Nm)(t:Nat)(wr:World):Prop where
 row:OV wr B 9 (some ⟨g,0,none⟩) co ((l1++l2.take t++(fileN b n::l2).drop t).map encStr)
 ca:CA B p c6 c7 b n wr
 mods:Mods (·=g) w wr
section
variable {B p c6 c7 n:Nat} {b:Nm} {w w':World}
theorem slotStrike(h:CA B p c6 c7 b n w)(l1 l2:List Nm)(g co m:Nat)(hm:m=l1.length+1+l2.length)(ho:OV w B 9 (some ⟨g,0,none⟩) co ((l1++fileN b n::l2).map encStr))(h1:fileN b n ∉ l1)(h2:fileN b n ∉ l2)(hn:m<=1000000) :
  Calls Tryz.prog 61 #[.slice (some ⟨g,0,none⟩) m co,pickV c6 c7] w fun e w'=>e=.returned (.slice (some ⟨g,0,none⟩) (l1.length+l2.length) co)/\OV w' B 9 (some ⟨g,0,none⟩) co ((l1++l2).map encStr)/\Mods (·=g) w w':=by
 have IX:=qh (slotIndex h l1 l2 (some ⟨g,0,none⟩) co m (by rw[hm];simp;omega) ho.rv h1 hn)
 have hcap:=ho.cap
 rw[List.length_map] at hcap
 have hgB:=(ho.blk_lt g rfl).1
 have n6:c6≠g:=fun e=>ho.ne_blk h.six (by decide) (by rw[e];rfl)
 have n7:c7≠g:=fun e=>ho.ne_blk h.seven (by decide) (by rw[e];rfl)
 have np:p≠g:=fun e=>by obtain⟨cs,hp,_⟩:=h.slot;exact ho.ne_blk hp (by decide) (by rw[e];rfl)
 have HC:=qh h
 have HO:=qh ho
 have H2:=qh h2
 have hco:m<=co/\co<=9223372036854775807:=by
  have:=hcap.1;simp only[List.length_append,List.length_cons] at this;omega
 obtain⟨hco1,hco2⟩:=hco
 have hne1:(((l1.length:Nat):Int) == -1)=false:=by rw[beq_eq_false_iff_ne];omega
 have hm1:m<=l1.length+1+l2.length:=by omega
 have hm2:l1.length+1+l2.length<=m:=by omega
 clear h ho h1 h2 hcap hm
 go_enter Tryz.func61,Tryz.ntmps61
 go_wp2_with (go_at_call 127;refine IX.out.mono ?_)
 rintro e w1 ⟨rfl,b1⟩
 have HA:Hid (DelAt B p c6 c7 g co b n w l1 l2 0 w1):=qh ⟨by simpa using HO.out.below b1,HC.out.below b1,Mods.of_below b1⟩
 clear b1 IX HC HO
 go_wp2_with fail
 go_loopw [5,6] (fun s5 s6 wr=>∃t:Nat,t<=l2.length/\s5=.int .i64 ((l1.length+t:Nat):Int)/\s6=.int .i64 ((l1.length+1+t:Nat):Int)/\Hid (DelAt B p c6 c7 g co b n w l1 l2 t wr)) (fun _ s6 _=>m - (intOf s6).toNat)
 case atStart=>exact⟨0,Nat.zero_le _,by go_num,by go_num,HA⟩
 case round =>
  obtain⟨t,ht,rfl,rfl,HD⟩:=hrel
  by_cases hlt:t<l2.length
  ·obtain⟨P,hP⟩:∃P,P=l1++l2.take t:=⟨_,rfl⟩
   have hPl:P.length=l1.length+t:=by rw[hP,List.length_append,List.length_take];omega
   obtain⟨y,hy⟩:∃y,y=(fileN b n::l2)[t]'(by simp;omega):=⟨_,rfl⟩
   have hrow:l1++l2.take t++(fileN b n::l2).drop t=P++y::l2[t]::l2.drop (t+1):=by
    rw[hP,hy,List.drop_eq_getElem_cons (by simp;omega),List.drop_succ_cons,List.drop_eq_getElem_cons hlt]
   have hrow2:l1++l2.take (t+1)++(fileN b n::l2).drop (t+1)=P++l2[t]::l2[t]::l2.drop (t+1):=by
    have e1:l2.take (t+1)=l2.take t++[l2[t]]:=List.take_succ_eq_append_getElem hlt
    have e2:l2.drop t=l2[t]::l2.drop (t+1):=List.drop_eq_getElem_cons hlt
    rw[hP,List.drop_succ_cons,e1,e2]
    simp only[List.append_assoc,List.cons_append,List.nil_append]
   have hov:=HD.out.row
   rw[hrow] at hov
   have hc:=(hov.store (k:=P.length+1) (by simp only[List.length_map,List.length_append,List.length_cons];omega) (encStr l2[t])).1
   rw[show((P++y::l2[t]::l2.drop (t+1)).map encStr)[P.length+1]'(by simp only[List.length_map,List.length_append,List.length_cons];omega)=.string ⟨(l2[t]).toArray⟩ from by rw[List.getElem_map,List.getElem_append_right (by omega)];simp] at hc
   obtain⟨hi1,hi2,hi3⟩:=hov.store (k:=P.length) (by simp) (encStr l2[t])
   rw[show((P++y::l2[t]::l2.drop (t+1)).map encStr)[P.length]'(by simp)=.string ⟨y.toArray⟩ from by rw[List.getElem_map,List.getElem_append_right (Nat.le_refl _)];simp] at hi1
   rw[show((P++y::l2[t]::l2.drop (t+1)).map encStr).set P.length (encStr l2[t])=(P++l2[t]::l2[t]::l2.drop (t+1)).map encStr from by
    rw[List.map_append,List.set_append_right _ _ (by simp)];simp] at hi3
   have hne:(l2[t] == fileN b n)=false:=beq_eq_false_iff_ne.2 (fun e=>H2.out (by rw[<-e];exact List.getElem_mem hlt))
   have PK:=qh (slotPick HD.out.ca _ _ hne)
   rw[hPl,show l1.length+t+1=l1.length+1+t from by omega] at hc
   rw[hPl] at hi1 hi2 hi3
   rw[<-hrow2] at hi3
   have hovb:=HD.out.row
   rw[hrow] at hovb
   have HOVB:=qh hovb
   have HR2:=qh hrow2
   have HPL:=qh hPl
   have HCA:=qh HD.out.ca
   have HMD:=qh HD.out.mods
   generalize l2[t]=f at *
   have hj0:(0:Int)<=((l1.length+1+t:Nat):Int):=by omega
   have hj1:((l1.length+1+t:Nat):Int)<(m:Int):=by omega
   have hi0:(0:Int)<=((l1.length+t:Nat):Int):=by omega
   have hi01:((l1.length+t:Nat):Int)<(m:Int):=by omega
   clear hov hovb hi1 hi2 hi3 hne hrow hrow2 hP hPl hy HD
   go_wp2_with fail
   refine PK.out.mono ?_
   rintro e w2 ⟨rfl,b2⟩
   have hov:=HOVB.out.below b2
   obtain⟨hi1,hi2,hi3⟩:=hov.store (k:=P.length) (by simp) (encStr f)
   rw[show((P++y::f::l2.drop (t+1)).map encStr)[P.length]'(by simp)=.string ⟨y.toArray⟩ from by rw[List.getElem_map,List.getElem_append_right (Nat.le_refl _)];simp] at hi1
   rw[show((P++y::f::l2.drop (t+1)).map encStr).set P.length (encStr f)=(P++f::f::l2.drop (t+1)).map encStr from by
    rw[List.map_append,List.set_append_right _ _ (by simp)];simp] at hi3
   rw[HPL.out] at hi1 hi2 hi3
   rw[<-HR2.out] at hi3
   have hm2:Mods (·=g) w2 (w2.setCell ⟨g,l1.length+t,none⟩ (encStr f)):=(Mods.refl (·=g) w2).setCell ⟨g,_,none⟩ (.inl rfl) _
   have HA2:Hid (DelAt B p c6 c7 g co b n w l1 l2 (t+1) (w2.setCell ⟨g,l1.length+t,none⟩ (encStr f))):=qh ⟨hi3,(HCA.out.below b2).mods hm2 hgB n6 n7 np,(HMD.out.below b2).then hm2⟩
   clear hi3 hov hm2 b2 HOVB HR2 HPL HCA HMD PK hc
   go_wp2_with fail
   go_roundw
   case rel=>exact⟨t+1,by omega,by go_num,by go_num,HA2⟩
   case measure=>simp[intOf];omega
  ·obtain rfl:t=l2.length:=by omega
   have hov:=HD.out.row
   rw[List.take_length] at hov
   obtain⟨cur,hg,_,_,hmx,hsz,_⟩:=hov.cur
   have hnl:(l1++l2).length=l1.length+l2.length:=List.length_append
   obtain⟨zs,hzs,hcl⟩:=run_clear1 (P:=Tryz.prog) (k:=1) wr 79 9 0 Tryz.underlying79 str_zero rfl (by decide) (by simp[Value.cells,Value.oneCell']) g (l1.length+l2.length) (co - (l1.length+l2.length)) cur hg (by omega)
   have h3:=hov.cutAt hg (l1.length+l2.length) (by simp only[List.length_map,List.length_append];omega) zs (by omega)
   have htk:(l1++l2++(fileN b n::l2).drop l2.length).take (l1.length+l2.length)=l1++l2:=by rw[<-hnl];exact List.take_left' rfl
   rw[<-List.map_take,htk] at h3
   have HO3:=qh h3
   have HM3:=qh (HD.out.mods.setRow g (.inl rfl) (cur.toList.take (l1.length+l2.length)++zs++cur.toList.drop (l1.length+l2.length+zs.length)).toArray)
   have hjn:¬(((l1.length+1+l2.length:Nat):Int)<(m:Int)):=by omega
   rw[show(1:Nat)=m - (l1.length+l2.length) from by omega] at hcl
   have hq0:(0:Int)<=((l1.length+l2.length:Nat):Int):=by omega
   have hq1:((l1.length+l2.length:Nat):Int)<=(m:Int):=by omega
   clear hov h3 hg hsz hzs HD H2
   generalize wr.setRow g (cur.toList.take (l1.length+l2.length)++zs++cur.toList.drop (l1.length+l2.length+zs.length)).toArray=w3 at *
   go_wp2_with fail
   go_ret
   refine⟨rfl,?_,HM3.out⟩
   first | exact HO3.out | (rw[<-List.map_append];exact HO3.out)
end
def scanAt(b:Nm)(D:DSt)(k:Nat):Sc:=((namesD D).take k).foldl (scan1 b D.files) Sc.zero
theorem scanAt_zero(b:Nm)(D:DSt):scanAt b D 0=Sc.zero:=rfl
theorem scanAt_all(b:Nm)(D:DSt):scanAt b D (namesD D).length=scanD b D:=by unfold scanAt scanD;rw[List.take_length]
theorem scanAt_step(b:Nm)(D:DSt){k:Nat}(hk:k<(namesD D).length):scanAt b D (k+1)=scan1 b D.files (scanAt b D k) (namesD D)[k]:=by
 unfold scanAt
 rw[List.take_succ_eq_append_getElem hk,List.foldl_append]
 rfl
def Canon(b:Nm)(D:DSt):Prop:=∀f∈namesD D,∀n,numN b f=some n->f=fileN b n/\n<18446744073709551616
structure ScanOk(b:Nm)(L:List Nm)(s:Sc):Prop where
 last:s.last<18446744073709551616
 best:s.best<18446744073709551616
 sub:s.old.Sublist L
 mem:s.has=true->fileN b s.best∈s.old
theorem scan1_cases(b:Nm)(F:FS)(s:Sc)(f:Nm):scan1 b F s f=s/\numN b f=none\/∃n,numN b f=some n/\(scan1 b F s f=⟨max s.last n,n,true,(unfrAt ((fget F f).getD []) 0).1,s.old++[f]⟩\/scan1 b F s f=⟨max s.last n,s.best,s.has,s.value,s.old++[f]⟩):=by
 unfold scan1
 cases h:numN b f with
 | none=>exact .inl ⟨rfl,rfl⟩
 | some n =>
  refine .inr ⟨n,rfl,?_⟩
  simp only
  split
  ·exact .inl rfl
  ·exact .inr rfl
theorem scanOk_at{b:Nm}{D:DSt}(hc:Canon b D):∀k,k<=(namesD D).length->ScanOk b ((namesD D).take k) (scanAt b D k)
 | 0,_=>⟨by rw[scanAt_zero];show 0<_;omega,by rw[scanAt_zero];show 0<_;omega,by rw[scanAt_zero];exact List.nil_sublist _,by rw[scanAt_zero];intro h;cases h⟩
 | k+1,hk=>by
  have ih:=scanOk_at hc k (by omega)
  have hlt:k<(namesD D).length:=by omega
  rw[scanAt_step b D hlt,List.take_succ_eq_append_getElem hlt]
  have hm:(namesD D)[k]∈namesD D:=List.getElem_mem hlt
  rcases scan1_cases b D.files (scanAt b D k) (namesD D)[k] with⟨e,_⟩ | ⟨n,hn,e | e⟩
  ·rw[e]
   exact⟨ih.last,ih.best,ih.sub.trans (List.sublist_append_left _ _),ih.mem⟩
  ·obtain⟨h1,h2⟩:=hc _ hm n hn
   have:=ih.last
   rw[e]
   refine⟨?_,h2,ih.sub.append (List.Sublist.refl _),fun _=>?_⟩
   ·simp only;omega
   ·simp only;rw[<-h1];exact List.mem_append_right _ (List.mem_singleton.2 rfl)
  ·obtain⟨h1,h2⟩:=hc _ hm n hn
   have:=ih.last
   rw[e]
   refine⟨?_,ih.best,ih.sub.append (List.Sublist.refl _),fun h=>List.mem_append_left _ (ih.mem h)⟩
   simp only;omega
theorem split_once{l:List Nm}{x:Nm}(hn:l.Nodup)(hx:x∈l):∃l1 l2,l=l1++x::l2/\x ∉ l1/\x ∉ l2/\l.filter (fun f=>!(f == x))=l1++l2:=by
 obtain⟨l1,l2,rfl⟩:=List.append_of_mem hx
 have h:=List.nodup_append.1 hn
 have h1:x ∉ l1:=fun h'=>h.2.2 x h' x (List.mem_cons_self ..) rfl
 have h2:x ∉ l2:=(List.nodup_cons.1 h.2.1).1
 refine⟨l1,l2,rfl,h1,h2,?_⟩
 rw[List.filter_append,List.filter_cons]
 simp only[beq_self_eq_true,Bool.not_true,Bool.false_eq_true,if_false]
 rw[List.filter_eq_self.2 (fun a ha=>by simp;rintro rfl;exact h1 ha),List.filter_eq_self.2 (fun a ha=>by simp;rintro rfl;exact h2 ha)]
theorem names_nodup{S:Nat->Prop}{w:World}{g:Nat}{D:DSt}(h:DI S w g D):(namesD D).Nodup:=by
 obtain⟨mf,ms,A,c,r⟩:=h
 unfold namesD
 split
 ·exact List.nodup_nil
 ·obtain⟨es,_,_,hr,_⟩:=r.fi
  exact rising_nodup hr
theorem names_get{S:Nat->Prop}{w:World}{g:Nat}{D:DSt}(h:DI S w g D){f:Nm}(hf:f∈namesD D):∃l,fget D.files f=some l/\l.length<=4194304:=by
 obtain⟨mf,ms,A,c,r⟩:=h
 have hsm:=foldl_small r.ok.2.2.1 r.ok.2.2.2
 unfold namesD at hf
 split at hf
 ·cases hf
 ·obtain⟨q,hq,rfl⟩:=List.mem_map.1 hf
  obtain⟨es,_,_,hr,_⟩:=r.fi
  have hg:=fget_of_mem (rising_nodup hr) hq
  exact⟨q.2,hg,hsm _ _ hg⟩
theorem read_ok{S:Nat->Prop}{w:World}{g:Nat}{D:DSt}(h:DI S w g D)(hd:D.down=false){f:Nm}(hn:nameOk f=true)(hf:f∈namesD D):readE D f=0/\readB D f=(fget D.files f).getD []/\((fget D.files f).getD []).length<=4194304:=by
 obtain⟨l,h1,h2⟩:=names_get h hf
 have e:readE D f=0:=by unfold readE;rw[if_neg (by rw[hd];simp),if_neg (by rw[hn];simp),if_pos (by rw[h1];rfl)]
 exact⟨e,by unfold readB;rw[if_pos e],by rw[h1];exact h2⟩
/-! ### A row of names that grows -/
theorem flat_one:∀xs:List Value,(xs.map fun v=>[v]).flatten=xs
 | []=>rfl
 | x::r=>by rw[List.map_cons,List.flatten_cons,flat_one r];rfl
theorem OV.to_or{w:World}{base c:Nat}{e:TypeId}{A:Option Addr}{xs:List Value}(h:OV w base e A c xs):OR w base e 1 A c (xs.map fun v=>[v]):=by
 refine⟨?_,fun r hr=>by obtain⟨v,_,rfl⟩:=List.mem_map.1 hr;rfl⟩
 rw[flat_one,List.length_map]
 exact h
theorem OR.to_ov{w:World}{base c:Nat}{e:TypeId}{A:Option Addr}{xs:List Value}(h:OR w base e 1 A c (xs.map fun v=>[v])):OV w base e A c xs:=by
 have:=h.1
 rw[flat_one,List.length_map] at this
 exact this
theorem string_info:(Tryz.prog.info? 9).map (fun i=>(i.zero,i.size,i.bytes))=some (some (.string ⟨#[]⟩),1,16):=by kernel_rfl
theorem op_appendN(w:World){o:Oper}{a:Act}{K:Act->World->Prop}{Q:Exit->Act->World->Prop}(s x:Operand)
  (ho:o.op=.call { callee:=.builtin .append,args:=#[s,x],argTypes:=#[79,79] })
  (base:Nat) (A:Option Addr) (c gx:Nat) (l:List Nm) (f:Nm) (hs:a.eval s=.slice A l.length c) (hx:a.eval x=.slice (some ⟨gx,0,none⟩) 1 1)
  (hown:OV w base 9 A c (l.map encStr)) (hb:Blk w gx 9 #[.string ⟨f.toArray⟩]) (hl:l.length<=1000000) (hbase:base<=w.heap.size)
  (h:∀(m:Nat) (A':Option Addr) (c':Nat) (w':World),m<=(l++[f]).length->(l++[f]).length<=m->OV w' base 9 A' c' ((l++[f]).map encStr)->w.grownBy w' (A.map (·.block))->(A'.map (·.block)=A.map (·.block)\/A'.map (·.block)=some w.heap.size) ->
   K (a.put o.dst (.slice A' m c')) w'):o.wp Tryz.prog a w K Q:=by
 obtain⟨i,hi,hz0,hz1,hz2⟩:=info_parts string_info
 refine op_appendS w s x 79 9 ho Tryz.underlying79 hi hz0 hz1 hz2 rfl (by decide) base A (some ⟨gx,0,none⟩) c 1 ((l.map encStr).map fun v=>[v]) [[encStr f]] (by rw[List.length_map,List.length_map];exact hs) hx hown.to_or (RS.lit (r:=[encStr f]) hb) (fun r hr=>by rw[List.mem_singleton.1 hr];rfl) (fun r hr v hv=>by rw[List.mem_singleton.1 hr] at hv;rw[List.mem_singleton.1 hv];rfl) (by rw[List.length_map,List.length_map];simp;omega) (by rw[List.length_map,List.length_map];simp;omega) hbase ?_
 intro ys A' c' w' hys h1 h2 ho' hg hAt
 have e:ys=((l++[f]).map encStr).map fun v=>[v]:=by rw[hys.out];simp
 refine h ys.length A' c' w' (by rw[e];simp) (by rw[e];simp) ?_ hg hAt
 rw[e] at ho'
 exact ho'.to_ov
/-! ### A slot's name -/
def letters:List UInt8:=[97,98,99,100,101,102,103,104,105,106,107,108,109,110,111,112,113,114,115,116,117,118,119,120,121,122]
theorem letters_mem(c:UInt8):letters.contains c=true ↔ 97<=c.toNat/\c.toNat<=122:=by
 have h256:c.toNat<256:=c.toNat_lt
 have e:c=UInt8.ofNat c.toNat:=by simp
 rw[List.contains_iff_mem]
 have hl:letters.map UInt8.toNat=[97,98,99,100,101,102,103,104,105,106,107,108,109,110,111,112,113,114,115,116,117,118,119,120,121,122]:=by decide
 constructor
 ·intro h
  have:=List.mem_map_of_mem (f:=UInt8.toNat) h
  rw[hl] at this
  simp only[List.mem_cons,List.not_mem_nil,or_false] at this
  omega
 ·intro h
  have hm:c.toNat∈letters.map UInt8.toNat:=by
   rw[hl]
   simp only[List.mem_cons,List.not_mem_nil,or_false]
   omega
  obtain⟨d,hd,he⟩:=List.mem_map.1 hm
  rw[e,<-he]
  simpa using hd
theorem slotTrim(b:List UInt8)(w:World)(hb:b.length<=9223372036854775807) :
  Calls Tryz.prog 56 #[.string ⟨b.toArray⟩,.string ⟨#[97,98,99,100,101,102,103,104,105,106,107,108,109,110,111,112,113,114,115,116,117,118,119,120,121,122]⟩] w fun e w'=>e=.returned (.string ⟨(Lib.trimS b letters).toArray⟩)/\Below w.heap.size w w' :=
 Any.strings_Trim_laid Tryz.lays160 (by kernel_rfl) ⟨b.toArray⟩ ⟨#[97,98,99,100,101,102,103,104,105,106,107,108,109,110,111,112,113,114,115,116,117,118,119,120,121,122]⟩ w (by simpa [ByteArray.size] using hb) (by decide) (ascii_of_all (by decide))
theorem trim_letters(b:List UInt8):Lib.trimS b letters=[] ↔ ∀c∈b,97<=c.toNat/\c.toNat<=122:=by
 rw[trim_empty,List.all_eq_true]
 exact⟨fun h c hc=>(letters_mem c).1 (h c hc),fun h c hc=>(letters_mem c).2 (h c hc)⟩
theorem clean_ok{l:List Nm}{D:DSt}(h:(cleanD l D).1=0):(cleanL l D).1=0:=by
 unfold cleanD at h
 split at h
 ·rename_i e;subst e;rfl
 ·split at h
  ·assumption
  ·exact h
theorem SR.row{B p g cv co:Nat}{S:Nat->Prop}{w w':World}{s:Sl}{D:DSt}{V O:Option Addr}(h:SR B S w p g s D V cv O co)(m:Mods (fun x=>O.map (·.block)=some x) w w'){l:List Nm}{k:Nat}(hk:k=l.length)(ho:OV w' B 9 O co (l.map encStr))(hl:∀f∈l,f.length<=1000):SR B S (w'.setCell ⟨p,5,none⟩ (.slice O k co)) p g { s with old:=l } D V cv O co:=by
 subst hk
 have hp2:=h.blk.mods m (h.old.ne_blk h.blk (by decide))
 have sv:=h.val.mods m (fun k hk e=>by
  obtain⟨cs,hcs⟩:=h.val.blk k hk
  exact h.old.ne_blk (T:=5) hcs (by decide) e)
 have sd:=h.di.mods m (fun x _ hs e=>h.os x e hs)
 have m2:Mods (·=p) w' (w'.setCell ⟨p,5,none⟩ (.slice O l.length co)):=(Mods.refl (·=p) w').setCell ⟨p,_,none⟩ (.inl rfl) _
 exact⟨hp2.setCell 5 _,sd.mods m2 (fun x _ hs e=>h.ps (by rw[<-e];exact hs)),sv.mods m2 (fun k hk e=>sv.ne_blk hp2 (by decide) (by rw[hk,e])),ho.mods m2 (fun k hk e=>ho.ne_blk hp2 (by decide) (by rw[hk,e])),h.ge,h.sge,h.ps,h.vs,h.os,h.bl,hl⟩
def slotAt(b:Nm)(sc:Sc):Sl:=⟨b,sc.last,sc.value,sc.has,sc.old,false⟩
structure OpenAt(B:Nat)(S:Nat->Prop)(w:World)(g p c6 c7:Nat)(b:Nm)(D:DSt)(A:Option Addr)(cA:Nat)(sc:Sc)(wr:World):Prop where
 slot:∃V cv O co,SR B S wr p g (slotAt b sc) D V cv O co/\∀x,O.map (·.block)=some x->w.heap.size<=x/\A.map (·.block)≠some x
 six:Blk wr c6 69 #[.pointer (some ⟨p,0,none⟩)]
 seven:Blk wr c7 23 #[.int .u64 (sc.best:Int)]
 names:OV wr w.heap.size 9 A cA ((namesD D).map encStr)
 bel:Below w.heap.size w wr
 gp:w.heap.size<=p
 g7:w.heap.size<=c7
 sw:∀x,S x->x<w.heap.size
 g6:w.heap.size<=c6
section
variable {B g p c6 c7 cA:Nat} {S:Nat->Prop} {w wr w':World} {b:Nm} {D:DSt} {A:Option Addr} {sc sc':Sc}
theorem OpenAt.below(h:OpenAt B S w g p c6 c7 b D A cA sc wr)(hb:Below wr.heap.size wr w'):OpenAt B S w g p c6 c7 b D A cA sc w':=by
 obtain⟨⟨V,cv,O,co,h1,h1'⟩,h2,h3,h4,h5,h6,h7,h8,h9⟩:=h
 exact⟨⟨V,cv,O,co,h1.below hb,h1'⟩,h2.kept hb,h3.kept hb,h4.below hb,h5.trans (hb.mono h5.size),h6,h7,h8,h9⟩
theorem OpenAt.cast(h:OpenAt B S w g p c6 c7 b D A cA sc wr)(e:sc'=sc):OpenAt B S w g p c6 c7 b D A cA sc' wr:=by subst e;exact h
theorem OpenAt.var(h:OpenAt B S w g p c6 c7 b D A cA sc wr)(j:Nat)(v:Value)(hbest:sc'.best=sc.best)
  (hs:∀V cv O co,SR B S wr p g (slotAt b sc) D V cv O co->(∀x,O.map (·.block)=some x->w.heap.size<=x/\A.map (·.block)≠some x)->∃V' cv' O' co',SR B S (wr.setCell ⟨p,j,none⟩ v) p g (slotAt b sc') D V' cv' O' co'/\∀x,O'.map (·.block)=some x->w.heap.size<=x/\A.map (·.block)≠some x) :
  OpenAt B S w g p c6 c7 b D A cA sc' (wr.setCell ⟨p,j,none⟩ v):=by
 obtain⟨⟨V,cv,O,co,h1,h1'⟩,h2,h3,h4,h5,h6,h7,h8,h9⟩:=h
 have hp:=h1.blk
 have m:Mods (·=p) wr (wr.setCell ⟨p,j,none⟩ v):=(Mods.refl (·=p) wr).setCell ⟨p,_,none⟩ (.inl rfl) _
 have n6:c6≠p:=fun e=>by
  have h:=h2;rw[e] at h
  have h':wr.heap[p]?=_:=hp
  have h'':wr.heap[p]?=_:=h
  rw[h'] at h''
  injection h'' with h''
  injection h'' with _ ht
  exact absurd ht (by decide)
 have n7:c7≠p:=fun e=>by
  have h:=h3;rw[e] at h
  have h':wr.heap[p]?=_:=hp
  have h'':wr.heap[p]?=_:=h
  rw[h'] at h''
  injection h'' with h''
  injection h'' with _ ht
  exact absurd ht (by decide)
 exact⟨hs V cv O co h1 h1',h2.mods m n6,by rw[hbest];exact h3.mods m n7,h4.mods m (fun k hk e=>h4.ne_blk hp (by decide) (by rw[hk,e])),Mods.old h5 m h5.size (fun i _ e=>by subst e;exact h6),h6,h7,h8,h9⟩
theorem OpenAt.setLast(h:OpenAt B S w g p c6 c7 b D A cA sc wr)(m:Nat):OpenAt B S w g p c6 c7 b D A cA ⟨m,sc.best,sc.has,sc.value,sc.old⟩ (wr.setCell ⟨p,2,none⟩ (.int .u64 (m:Int))) :=
 h.var 2 _ rfl fun V cv O co h1 h2=>⟨V,cv,O,co,h1.set 2 _ rfl rfl rfl rfl,h2⟩
theorem OpenAt.setHas(h:OpenAt B S w g p c6 c7 b D A cA sc wr):OpenAt B S w g p c6 c7 b D A cA ⟨sc.last,sc.best,true,sc.value,sc.old⟩ (wr.setCell ⟨p,4,none⟩ (.bool true)) :=
 h.var 4 _ rfl fun V cv O co h1 h2=>⟨V,cv,O,co,h1.set 4 _ rfl rfl rfl rfl,h2⟩
theorem OpenAt.setVal(h:OpenAt B S w g p c6 c7 b D A cA sc wr){V':Option Addr}{cv':Nat}{l:List UInt8}(ho:OB wr B V' cv' l)(hs:∀x,V'.map (·.block)=some x->¬S x):OpenAt B S w g p c6 c7 b D A cA ⟨sc.last,sc.best,sc.has,l,sc.old⟩ (wr.setCell ⟨p,3,none⟩ (.slice V' l.length cv')) :=
 h.var 3 _ rfl fun _V _cv O co h1 h2=>⟨V',cv',O,co,h1.setVal ho hs,h2⟩
theorem OpenAt.setBest(h:OpenAt B S w g p c6 c7 b D A cA sc wr)(n:Nat):OpenAt B S w g p c6 c7 b D A cA ⟨sc.last,n,sc.has,sc.value,sc.old⟩ (wr.setCell ⟨c7,0,none⟩ (.int .u64 (n:Int))):=by
 obtain⟨⟨V,cv,O,co,h1,h1'⟩,h2,h3,h4,h5,h6,h7,h8,h9⟩:=h
 have m:Mods (·=c7) wr (wr.setCell ⟨c7,0,none⟩ (.int .u64 (n:Int))):=(Mods.refl (·=c7) wr).setCell ⟨c7,_,none⟩ (.inl rfl) _
 have hp:=h1.blk
 have n7:p≠c7:=fun e=>by
  have h:=h3;rw[<-e] at h
  have h':wr.heap[p]?=_:=hp
  have h'':wr.heap[p]?=_:=h
  rw[h'] at h''
  injection h'' with h''
  injection h'' with _ ht
  exact absurd ht (by decide)
 have n6:c6≠c7:=fun e=>by
  have h:=h2;rw[e] at h
  have h':wr.heap[c7]?=_:=h3
  have h'':wr.heap[c7]?=_:=h
  rw[h'] at h''
  injection h'' with h''
  injection h'' with _ ht
  exact absurd ht (by decide)
 have nS:¬S c7:=fun hs=>by have:=h8 _ hs;omega
 exact⟨⟨V,cv,O,co,⟨hp.mods m n7,h1.di.mods m (fun x _ hs e=>nS (by rw[<-e];exact hs)),h1.val.mods m (fun k hk e=>h1.val.ne_blk h3 (by decide) (by rw[hk,e])),h1.old.mods m (fun k hk e=>h1.old.ne_blk h3 (by decide) (by rw[hk,e])),h1.ge,h1.sge,h1.ps,h1.vs,h1.os,h1.bl,h1.on⟩,h1'⟩,h2.mods m n6,h3.setCell 0 _,h4.mods m (fun k hk e=>h4.ne_blk h3 (by decide) (by rw[hk,e])),Mods.old h5 m h5.size (fun i _ e=>by subst e;exact h7),h6,h7,h8,h9⟩
theorem OB.ne_ov{w:World}{B B' c c':Nat}{e:TypeId}{V O:Option Addr}{l:List UInt8}{xs:List Value}(h:OB w B V c l)(k:OV w B' e O c' xs)(hne:5≠e):∀x,V.map (·.block)=some x->O.map (·.block)≠some x:=by
 intro x hx
 obtain⟨cs,hcs⟩:=h.blk x hx
 exact k.ne_blk hcs hne
theorem OpenAt.grow{V O A':Option Addr}{cv co c' m:Nat}{w2:World}{f:Nm}(h:OpenAt B S w g p c6 c7 b D A cA sc wr)(h1:SR B S wr p g (slotAt b sc) D V cv O co)(h1':∀x,O.map (·.block)=some x->w.heap.size<=x/\A.map (·.block)≠some x)(hf:f.length<=1000)
  (ho:OV w2 B 9 A' c' ((sc.old++[f]).map encStr)) (hg:wr.grownBy w2 (O.map (·.block))) (hat:A'.map (·.block)=O.map (·.block)\/A'.map (·.block)=some wr.heap.size) (hm:m=(sc.old++[f]).length) :
  OpenAt B S w g p c6 c7 b D A cA ⟨sc.last,sc.best,sc.has,sc.value,sc.old++[f]⟩ (w2.setCell ⟨p,5,none⟩ (.slice A' m c')):=by
 subst hm
 obtain⟨_,h2,h3,h4,h5,h6,h7,h8,h9⟩:=h
 have m1:Mods (fun x=>O.map (·.block)=some x) wr w2:=Mods.of_grown hg (fun k hk=>hk)
 have hp:=h1.blk
 have np:∀x cs T,Blk wr x T cs->T≠9->¬O.map (·.block)=some x:=fun x cs T hb hT=>h1.old.ne_blk hb hT
 have hp2:=hp.mods m1 (np _ _ _ hp (by decide))
 have m2:Mods (·=p) w2 (w2.setCell ⟨p,5,none⟩ (.slice A' (sc.old++[f]).length c')):=(Mods.refl (·=p) w2).setCell ⟨p,_,none⟩ (.inl rfl) _
 have s2:=h2.mods m1 (np _ _ _ h2 (by decide))
 have s3:=h3.mods m1 (np _ _ _ h3 (by decide))
 have s4:=h4.mods m1 (fun k hk e=>(h1' k e).2 hk)
 have sv:=h1.val.mods m1 (fun k hk e=>(h1.val.ne_ov h1.old (by decide)) k hk e)
 have sd:=h1.di.mods m1 (fun x _ hs e=>h1.os x e hs)
 have n6:c6≠p:=fun e=>by
  have h:=h2;rw[e] at h
  have h':wr.heap[p]?=_:=hp
  have h'':wr.heap[p]?=_:=h
  rw[h'] at h''
  injection h'' with h''
  injection h'' with _ ht
  exact absurd ht (by decide)
 have n7:c7≠p:=fun e=>by
  have h:=h3;rw[e] at h
  have h':wr.heap[p]?=_:=hp
  have h'':wr.heap[p]?=_:=h
  rw[h'] at h''
  injection h'' with h''
  injection h'' with _ ht
  exact absurd ht (by decide)
 have hbel:Below w.heap.size w w2:=Mods.old h5 m1 h5.size (fun i _ e=>(h1' i e).1)
 have hat2:∀x,A'.map (·.block)=some x->(w.heap.size<=x/\A.map (·.block)≠some x)/\¬S x:=by
  intro x hx
  rcases hat with e | e
  ·rw[e] at hx;exact⟨h1' x hx,h1.os x hx⟩
  ·rw[e] at hx
   injection hx with hx
   have:=h5.size
   refine⟨⟨by omega,fun hA=>?_⟩,fun hs=>?_⟩
   ·have:=(h4.blk_lt x hA).2;omega
   ·have:=h8 x hs;omega
 refine⟨⟨V,cv,A',c',⟨hp2.setCell 5 _,sd.mods m2 (fun x _ hs e=>h1.ps (by rw[<-e];exact hs)),sv.mods m2 (fun k hk e=>sv.ne_blk hp2 (by decide) (by rw[hk,e])),ho.mods m2 (fun k hk e=>ho.ne_blk hp2 (by decide) (by rw[hk,e])),h1.ge,h1.sge,h1.ps,h1.vs,fun x hx=>(hat2 x hx).2,h1.bl,fun y hy=>?_⟩,fun x hx=>(hat2 x hx).1⟩,s2.mods m2 n6,s3.mods m2 n7,s4.mods m2 (fun k hk e=>s4.ne_blk hp2 (by decide) (by rw[hk,e])),Mods.old hbel m2 hbel.size (fun i _ e=>by subst e;exact h6),h6,h7,h8,h9⟩
 rcases List.mem_append.1 hy with hy | hy
 ·exact h1.on y hy
 ·rw[List.mem_singleton.1 hy];exact hf
end
end Go.Proofs.YtobdmlejabjmiaaGreatDoor
