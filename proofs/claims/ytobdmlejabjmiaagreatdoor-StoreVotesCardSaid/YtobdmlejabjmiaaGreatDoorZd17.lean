/- Made small by a program. -/
import Derived.Test.YtobdmlejabjmiaaGreatDoorZd16
set_option maxRecDepth 20000
set_option maxHeartbeats 8000000
namespace Go.Proofs.YtobdmlejabjmiaaGreatDoor
open Go.RowKit
theorem rnum_put(p r b:List UInt8)(n:Nat)(hb:b=p++(putNum n++r))(h:n<18446744073709551616):rnum b ((p.length:Int),false)=((n:Int),(((p++putNum n).length:Nat):Int),false):=by
 subst hb
 unfold rnum
 rw[if_neg (by simp),numAt_put p r n h,if_pos rfl]
 simp only[List.length_append]
 rfl
theorem rup_put(p r b:List UInt8)(n:Nat)(m:Int)(hb:b=p++(putNum n++r))(h:n<18446744073709551616)(hm:(n:Int)<=m):rup b m ((p.length:Int),false)=((n:Int),(((p++putNum n).length:Nat):Int),false):=by
 unfold rup
 rw[rnum_put p r b n hb h,if_neg (by simp only;omega)]
theorem rdat_put(p b d:List UInt8)(hb:b=p++putB d)(h:d.length<18446744073709551616):rdat b ((p.length:Int),false)=(d,((b.length:Nat):Int),false):=by
 unfold rdat
 have e:=bytesAt_put p [] d h
 rw[List.append_nil] at e
 rw[if_neg (by simp),hb,show p++putB d=p++(putNum d.length++d) from rfl,e,if_pos rfl]
 simp only[List.length_append,Prod.mk.injEq,true_and,and_true]
 omega
theorem hard_read(t:Nat)(v:Int)(ht:t<18446744073709551616)(h0:0<=v)(h1:v<=16):∃s1,rnum (hardBytes t v) (0,false)=((t:Int),s1)/\rup (hardBytes t v) 16 s1=(v,(((hardBytes t v).length:Nat):Int),false):=by
 obtain⟨n,rfl⟩:=Int.eq_ofNat_of_zero_le h0
 have e:hardBytes t (n:Int)=putNum t++putNum n:=by simp[hardBytes,putNums]
 refine⟨_,rnum_put [] (putNum n) _ t (by rw[e];rfl) ht,?_⟩
 rw[List.nil_append]
 have:=rup_put (putNum t) [] (hardBytes t (n:Int)) n 16 (by rw[e];simp) (by omega) h1
 rw[this,e]
theorem en_read(i t:Nat)(k d:Int)(x:List UInt8)(h:enB i t k d x=true):∃s1 s2 s3 s4,rnum (enBytes i t k d x) (0,false)=((i:Int),s1)/\rnum (enBytes i t k d x) s1=((t:Int),s2)/\rup (enBytes i t k d x) 3 s2=(k,s3)/\rnum (enBytes i t k d x) s3=(d,s4)/\rdat (enBytes i t k d x) s4=(x,(((enBytes i t k d x).length:Nat):Int),false):=by
 obtain⟨h1,h2,h3,h4,h5,h6,h7,h8,h9⟩:=enB_parts h
 obtain⟨k',rfl⟩:=Int.eq_ofNat_of_zero_le (by omega:0<=k)
 obtain⟨d',rfl⟩:=Int.eq_ofNat_of_zero_le h5
 have e:enBytes i t (k':Int) (d':Int) x=putNum i++(putNum t++(putNum k'++(putNum d'++putB x))):=by simp[enBytes,putNums]
 refine⟨_,_,_,_,rnum_put [] _ _ i (by rw[e];rfl) (by omega),rnum_put _ (putNum k'++(putNum d'++putB x)) _ t (by rw[e];simp) (by omega),rup_put _ (putNum d'++putB x) _ k' 3 (by rw[e];simp) (by omega) h9,rnum_put _ (putB x) _ d' (by rw[e];simp) (by omega),rdat_put _ _ x (by rw[e];simp) (by omega)⟩
abbrev entryZ:Array Value:=#[.int .u64 0,.int .u64 0,.int .i64 0,.int .i64 0,.slice none 0 0]
section
variable {w w':World}
theorem entryRead(o:Nat)(A:Option Addr)(c:Nat)(i t:Nat)(k d:Int)(x:List UInt8)(w:World)(hr:enB i t k d x=true)(h:InAt o w (enBytes i t k d x) A c (0,false)) :
  Calls Tryz.prog 195 #[.pointer (some ⟨o,0,none⟩)] w fun e w'=>∃X xc,e=.returned (.agg (enC i t k d x X xc))/\OB w' w.heap.size X xc x/\InAt o w' (enBytes i t k d x) A c ((((enBytes i t k d x).length:Nat):Int),false)/\Mods (·=o) w w':=by
 obtain⟨h1,h2,h3,h4,h5,h6,h7,h8,h9⟩:=enB_parts hr
 obtain⟨s1,s2,s3,s4,e1,e2,e3,e4,e5⟩:=en_read i t k d x hr
 have hwd:IntKind.i64.wrap d=d:=IntWalk.i64_in _ (by omega)
 have hal:Below w.heap.size w (w.alloc (.cells entryZ 44)):=(Below.refl _ _).alloc (Nat.le_refl _) _
 have Z:=qh (Blk.new w entryZ 44)
 have hlo:=h.blk.lt
 have HAB:Hid (0<(enBytes i t k d x).length->∀k,A.map (·.block)=some k->k<w.heap.size):=qh (fun h0=>h.rb.blk_lt h0)
 have hws:(w.alloc (.cells entryZ 44)).heap.size=w.heap.size+1:=by simp
 obtain⟨b,hb⟩:∃b,b=enBytes i t k d x:=⟨_,rfl⟩
 rw[<-hb] at h e1 e2 e3 e4 e5 HAB ⊢
 have N1:=inNum o b A c _ _ (h.below hal)
 rw[e1] at N1
 have HN1:=qh N1
 have HWS:=qh hws
 have HAL:=qh hal
 have HE:=qh (And.intro e2 (And.intro e3 (And.intro e4 e5)))
 clear h hal hws e1 e2 e3 e4 e5 N1 hr hb h1 h2 h3 h4
 unfold entryZ at *
 go_enter Tryz.func195,Tryz.ntmps195
 go_wp2_with fail
 refine HN1.out.mono ?_
 rintro e w1 ⟨rfl,q1,m1⟩
 have hsz1:=m1.size
 rw[HWS.out] at hsz1
 have Z1:=qh (Z.out.mods m1 (by omega))
 have M1:=qh ((Mods.of_below (S:=(·=o)) HAL.out).then m1)
 have N2:=inNum o b A c _ w1 q1
 rw[HE.out.1] at N2
 have HN2:=qh N2
 clear q1 m1 N2 HN1 Z HAL
 go_wp2_with fail
 refine HN2.out.mono ?_
 rintro e w2 ⟨rfl,q2,m2⟩
 have Z2:=qh (Z1.out.mods m2 (by omega))
 have M2:=qh (M1.out.then m2)
 have hsz2:=m2.size
 have N3:=inUpto o b A c _ w2 q2 3 (by decide) (by decide)
 rw[HE.out.2.1] at N3
 have HN3:=qh N3
 clear q2 m2 N3 HN2 Z1 M1
 go_wp2_with fail
 refine HN3.out.mono ?_
 rintro e w3 ⟨rfl,q3,m3⟩
 have Z3:=qh (Z2.out.mods m3 (by omega))
 have M3:=qh (M2.out.then m3)
 have hsz3:=m3.size
 have N4:=inNum o b A c _ w3 q3
 rw[HE.out.2.2.1] at N4
 have HN4:=qh N4
 clear q3 m3 N4 HN3 Z2 M2
 go_wp2_with fail
 refine HN4.out.mono ?_
 rintro e w4 ⟨rfl,q4,m4⟩
 have Z4:=qh (Z3.out.mods m4 (by omega))
 have M4:=qh (M3.out.then m4)
 have hsz4:=m4.size
 have N5:=inData o b A c _ w4 q4
 rw[HE.out.2.2.2] at N5
 have HN5:=qh N5
 clear q4 m4 N5 HN4 Z3 M3
 go_wp2_with fail
 refine HN5.out.mono ?_
 rintro e w5 ⟨X,xc,rfl,ho,q5,m5⟩
 have Z5:=qh (Z4.out.mods m5 (by omega))
 have M5:=qh (M4.out.then m5)
 have P5:=qh (ho.base_le (by omega:w.heap.size+1<=w4.heap.size))
 have Q5:=qh q5
 clear ho q5 m5 HN5 Z4 M4
 go_wp2_with (refine wpList_store_row rfl 44 (.tmp 2) (.tmp 14) rfl w.heap.size (enC i t k d x X xc) rfl rfl _ _ Z5.out entry_size' rfl (by simp[Value.oneCell']) ?_)
 have Y:=Z5.out.setRow (enC i t k d x X xc)
 refine bodyPost_ret (v:=.agg (enC i t k d x X xc)) (results_cell_row rfl _ _ w.heap.size 44 (enC i t k d x X xc) (0,0) _ rfl Y Tryz.underlying44 rfl entry_size') rfl ?_
 have ms:=(Mods.refl (·=w.heap.size) w5).setRow w.heap.size (.inl rfl) (enC i t k d x X xc)
 exact⟨X,xc,rfl,(P5.out.mods ms (fun k hk e=>by have:=(P5.out.blk_in k hk).1;omega)).base_le (by omega),Q5.out.mods ms (by omega) (fun h0 k hk e=>by have:=HAB.out h0 k hk;omega),M5.out.trans ms (fun i e=>.inr (by omega))⟩
end
abbrev hardZ:Array Value:=#[.int .u64 0,.int .i64 0]
theorem hard_size3:(Tryz.prog.info? 25).map (·.size)=some 2:=by kernel_rfl
section
variable {w w':World}
theorem hardRead(o:Nat)(A:Option Addr)(c:Nat)(t:Nat)(v:Int)(w:World)(ht:t<18446744073709551616)(h0:0<=v)(h1:v<=16)(h:InAt o w (hardBytes t v) A c (0,false)) :
  Calls Tryz.prog 150 #[.pointer (some ⟨o,0,none⟩)] w fun e w'=>e=.returned (.agg (#[.int .u64 (t:Int),.int .i64 v]:Array Value))/\InAt o w' (hardBytes t v) A c ((((hardBytes t v).length:Nat):Int),false)/\Mods (·=o) w w':=by
 obtain⟨s1,e1,e2⟩:=hard_read t v ht h0 h1
 have hal:Below w.heap.size w (w.alloc (.cells hardZ 25)):=(Below.refl _ _).alloc (Nat.le_refl _) _
 have Z:=qh (Blk.new w hardZ 25)
 have hlo:=h.blk.lt
 have HAB:Hid (0<(hardBytes t v).length->∀k,A.map (·.block)=some k->k<w.heap.size):=qh (fun h0=>h.rb.blk_lt h0)
 have hws:(w.alloc (.cells hardZ 25)).heap.size=w.heap.size+1:=by simp
 obtain⟨b,hb⟩:∃b,b=hardBytes t v:=⟨_,rfl⟩
 rw[<-hb] at h e1 e2 HAB ⊢
 have N1:=inNum o b A c _ _ (h.below hal)
 rw[e1] at N1
 have HN1:=qh N1
 have HWS:=qh hws
 have HAL:=qh hal
 have HE:=qh e2
 clear h hal hws e1 e2 N1 hb
 unfold hardZ at *
 go_enter Tryz.func150,Tryz.ntmps150
 go_wp2_with fail
 refine HN1.out.mono ?_
 rintro e w1 ⟨rfl,q1,m1⟩
 have hsz1:=m1.size
 rw[HWS.out] at hsz1
 have Z1:=qh (Z.out.mods m1 (by omega))
 have M1:=qh ((Mods.of_below (S:=(·=o)) HAL.out).then m1)
 have N2:=inUpto o b A c _ w1 q1 16 (by decide) (by decide)
 rw[HE.out] at N2
 have HN2:=qh N2
 clear q1 m1 N2 HN1 Z HAL
 go_wp2_with fail
 refine HN2.out.mono ?_
 rintro e w2 ⟨rfl,q2,m2⟩
 have Z2:=qh (Z1.out.mods m2 (by omega))
 have M2:=qh (M1.out.then m2)
 have Q2:=qh q2
 clear q2 m2 HN2 Z1 M1
 go_wp2_with (refine wpList_store_row rfl 25 (.tmp 2) (.tmp 7) rfl w.heap.size #[.int .u64 (t:Int),.int .i64 v] rfl rfl _ _ Z2.out hard_size3 rfl (by simp[Value.oneCell']) ?_)
 have Y:=Z2.out.setRow #[.int .u64 (t:Int),.int .i64 v]
 refine bodyPost_ret (v:=.agg #[.int .u64 (t:Int),.int .i64 v]) (results_cell_row rfl _ _ w.heap.size 25 #[.int .u64 (t:Int),.int .i64 v] (0,0) _ rfl Y Tryz.underlying25 rfl hard_size3) rfl ?_
 have ms:=(Mods.refl (·=w.heap.size) w2).setRow w.heap.size (.inl rfl) #[.int .u64 (t:Int),.int .i64 v]
 exact⟨rfl,Q2.out.mods ms (by omega) (fun h0 k hk e=>by have:=HAB.out h0 k hk;omega),M2.out.trans ms (fun i e=>.inr (by omega))⟩
end
section
variable {w w':World}
theorem entryValue(A:Option Addr)(c:Nat)(i t:Nat)(k d:Int)(x:List UInt8)(w:World)(hr:enB i t k d x=true)(h:RB w A (enBytes i t k d x))(hc:(enBytes i t k d x).length<=c/\c<=9223372036854775807)(hl:(enBytes i t k d x).length<=210000000000000) :
  Calls Tryz.prog 190 #[.agg kEntry,.slice A (enBytes i t k d x).length c] w fun e w'=>∃X xc,e=.returned (.tuple #[.agg (enC i t k d x X xc),.int .i64 0])/\OB w' w.heap.size X xc x/\Below w.heap.size w w':=by
 obtain⟨g1,g2,g3,g4,g5,g6,g7,g8,g9⟩:=enB_parts hr
 have SD:=qh (fun(o:Nat) (A:Option Addr) (c:Nat) (w:World) hI=>entryRead o A c i t k d x w hr hI)
 have SS:=qh (fun(X:Option Addr) (xc:Nat) (w2:World) (p0:OB w2 (w.heap.size+3) X xc x)=>msgEntryOK i t k d x X xc w2 p0.rb p0.cap true hr)
 obtain⟨b,hb⟩:∃b,b=enBytes i t k d x:=⟨_,rfl⟩
 rw[<-hb] at h hc hl SD ⊢
 have hal:Below w.heap.size w (((w.alloc (.cells kEntry 226)).alloc (.cells entryZ 44)).alloc (.cells #[.slice A b.length c,.int .i64 0,.bool false] 236)):=(((Below.refl _ _).alloc (Nat.le_refl _) _).alloc (by simp) _).alloc (by first | (simp;done) | (simp;omega)) _
 have z1:=(Blk.new w kEntry 226).below (((Below.refl (w.heap.size+1) _).alloc (by simp) (.cells entryZ 44)).alloc (by simp) (.cells #[.slice A b.length c,.int .i64 0,.bool false] 236)) (Nat.lt_succ_self _)
 have hs1:(w.alloc (.cells kEntry 226)).heap.size=w.heap.size+1:=by simp
 have hs2:((w.alloc (.cells kEntry 226)).alloc (.cells entryZ 44)).heap.size=w.heap.size+2:=by simp
 have hs3:(((w.alloc (.cells kEntry 226)).alloc (.cells entryZ 44)).alloc (.cells #[.slice A b.length c,.int .i64 0,.bool false] 236)).heap.size=w.heap.size+3:=by simp
 have z2:=Blk.new (w.alloc (.cells kEntry 226)) entryZ 44
 rw[hs1] at z2
 have z2':=z2.below ((Below.refl (w.heap.size+2) _).alloc (by rw[hs2];exact Nat.le_refl _) (.cells #[.slice A b.length c,.int .i64 0,.bool false] 236)) (by omega)
 have z3:=Blk.new ((w.alloc (.cells kEntry 226)).alloc (.cells entryZ 44)) #[.slice A b.length c,.int .i64 0,.bool false] 236
 rw[hs2] at z3
 have hI:InAt (w.heap.size+2) _ b A c (0,false):=⟨z3,h.below hal,fun h0 k hk e=>by have:=h.blk_lt h0 k hk;omega,⟨by decide,by simp⟩,hc,hl⟩
 have CR:=qh (SD.out (w.heap.size+2) _ _ _ hI)
 have k2:=z1.cell 2 rfl
 have HZ:=qh (And.intro z1 z2')
 have HAL:=qh hal
 have HS3:=qh hs3
 clear h hal z1 z2 z2' z3 hI hs1 hs2 hs3 hb SD
 unfold kEntry at *
 unfold entryZ at *
 go_enter Tryz.func190,Tryz.ntmps190
 go_wp2_with fail
 refine CR.out.mono ?_
 rintro e w1 ⟨X,xc,rfl,o0,hI,m1⟩
 rw[HS3.out] at o0
 have hsz:=m1.size
 rw[HS3.out] at hsz
 have y1:=HZ.out.1.mods m1 (by omega)
 have y2:=HZ.out.2.mods m1 (by omega)
 have hb1:=Mods.old HAL.out m1 HAL.out.size (fun i _ e=>by subst e;omega)
 have Y2:=qh y2
 have X2:=qh (y2.setRow ((enC i t k d x X xc)))
 have X1:=qh (y1.setRow_other (k:=w.heap.size+1) ((enC i t k d x X xc)) (by omega))
 have HB:=qh (below_setRow (g:=w.heap.size+1) hb1 (by omega) ((enC i t k d x X xc)))
 have ms:=(Mods.refl (·=w.heap.size+1) w1).setRow (w.heap.size+1) (.inl rfl) ((enC i t k d x X xc))
 have p0:=o0.mods ms (fun k hk e=>by have:=(o0.blk_in k hk).1;omega)
 have i1:=hI.blk.setRow_other (k:=w.heap.size+1) ((enC i t k d x X xc)) (by omega)
 obtain⟨w2,hw2⟩:∃w2,w2=w1.setRow (w.heap.size+1) ((enC i t k d x X xc)):=⟨_,rfl⟩
 rw[<-hw2] at X1 X2 HB i1 p0
 have HW2:=qh hw2.symm
 have SO:=qh (SS.out X xc w2 p0)
 have OW:=qh p0
 have c2:=i1.cell 2 (v:=.bool false) rfl
 have c1:=i1.cell 1 (v:=.int .i64 (b.length:Int)) rfl
 have k0:=X1.out.cell 0 rfl
 have x0:=X2.out.cell 0 rfl
 have x1:=X2.out.cell 1 rfl
 have x2:=X2.out.cell 2 rfl
 have x3:=X2.out.cell 3 rfl
 have x4:=X2.out.cell 4 rfl
 clear SS hw2 CR o0 hI m1 y1 y2 hb1 ms p0 i1 k2
 go_wp2_with (refine wpList_store_row rfl 44 (.tmp 4) (.tmp 14) rfl (w.heap.size+1) ((enC i t k d x X xc)) rfl rfl _ _ Y2.out entry_size' rfl (by simp[Value.oneCell']) ?_;rw[HW2.out])
 refine SO.out.mono ?_
 rintro e w3 ⟨rfl,b3⟩
 have X3:=qh (X2.out.kept b3)
 have HB3:=qh (HB.out.trans (b3.mono HB.out.size))
 have B3:=qh b3
 clear SO b3 x0 x1 x2 x3 x4 X2 HB
 have x0:=X3.out.cell 0 rfl
 have x1:=X3.out.cell 1 rfl
 have x2:=X3.out.cell 2 rfl
 have x3:=X3.out.cell 3 rfl
 have x4:=X3.out.cell 4 rfl
 go_wp2_with (refine wpList_store_row rfl 44 (.tmp 4) (.tmp 36) rfl (w.heap.size+1) ((enC i t k d x X xc)) rfl rfl _ _ X3.out entry_size' rfl (by simp[Value.oneCell']) ?_)
 have Y:=X3.out.setRow ((enC i t k d x X xc))
 have y0:=Y.cell 0 rfl
 have y1:=Y.cell 1 rfl
 have y2:=Y.cell 2 rfl
 have y3:=Y.cell 3 rfl
 have y4:=Y.cell 4 rfl
 refine bodyPost_ret (v:=.tuple #[.agg ((enC i t k d x X xc)),.int .i64 0]) (by simp[results,Tryz.results190,go_sem,y0,y1,y2,y3,y4]) rfl ?_
 have mt:=(Mods.refl (·=w.heap.size+1) w3).setRow (w.heap.size+1) (.inl rfl) ((enC i t k d x X xc))
 have p0:=OW.out
 have q0:=(p0.below B3.out).mods mt (fun k hk e=>by have:=(p0.blk_in k hk).1;omega)
 exact⟨X,xc,rfl,q0.base_le (by omega),below_setRow (g:=w.heap.size+1) HB3.out (by omega) _⟩
theorem msgToEntry(A:Option Addr)(c:Nat)(i t:Nat)(k d:Int)(x:List UInt8)(w:World)(hr:enB i t k d x=true)(h:RB w A (enBytes i t k d x))(hc:(enBytes i t k d x).length<=c/\c<=9223372036854775807)(hl:(enBytes i t k d x).length<=210000000000000) :
  Calls Tryz.prog 145 #[.slice A (enBytes i t k d x).length c] w fun e w'=>∃X xc,e=.returned (.tuple #[.agg (enC i t k d x X xc),.int .i64 0])/\OB w' w.heap.size X xc x/\Below w.heap.size w w':=by
 have hal:Below w.heap.size w (w.alloc (.cells entryZ 44)):=(Below.refl _ _).alloc (Nat.le_refl _) _
 have Z:=qh (Blk.new w entryZ 44)
 have CF:=qh (msgEntries (w.alloc (.cells entryZ 44)))
 have VV:=qh (fun wx hx=>entryValue A c i t k d x wx hr hx hc hl)
 obtain⟨b,hb⟩:∃b,b=enBytes i t k d x:=⟨_,rfl⟩
 rw[<-hb] at h VV ⊢
 have HRB:=qh h
 have HAL:=qh hal
 clear h hal hb hc hl
 unfold entryZ at *
 go_enter Tryz.func145,Tryz.ntmps145
 go_wp2_with fail
 refine CF.out.mono ?_
 rintro e w1 ⟨rfl,b1⟩
 have hb1:=belowTrans HAL.out b1
 have CV:=qh (VV.out w1 (HRB.out.below hb1))
 have Z1:=qh (Z.out.kept b1)
 have HB1:=qh hb1
 have HS1:Hid (w.heap.size+1<=w1.heap.size):=qh (by have:=b1.size;simpa using this)
 clear b1 hb1 CF Z HAL
 go_wp2_with fail
 refine CV.out.mono ?_
 rintro e w2 ⟨X,xc,rfl,o0,b2⟩
 have Z2:=qh (Z1.out.kept b2)
 have HB2:=qh (HB1.out.trans (b2.mono HB1.out.size))
 have OW:=qh o0
 clear b2 CV Z1 HB1 o0
 go_wp2_with (refine wpList_store_row rfl 44 (.tmp 2) (.tmp 7) rfl w.heap.size ((enC i t k d x X xc)) rfl rfl _ _ Z2.out entry_size' rfl (by simp[Value.oneCell']) ?_)
 have Y:=Z2.out.setRow ((enC i t k d x X xc))
 have y0:=Y.cell 0 rfl
 have y1:=Y.cell 1 rfl
 have y2:=Y.cell 2 rfl
 have y3:=Y.cell 3 rfl
 have y4:=Y.cell 4 rfl
 refine bodyPost_ret (v:=.tuple #[.agg ((enC i t k d x X xc)),.int .i64 0]) (by simp[results,Tryz.results145,go_sem,y0,y1,y2,y3,y4]) rfl ?_
 have mt:=(Mods.refl (·=w.heap.size) w2).setRow w.heap.size (.inl rfl) ((enC i t k d x X xc))
 have p0:=OW.out
 have hs1:=HS1.out
 have q0:=p0.mods mt (fun k hk e=>by have:=(p0.blk_in k hk).1;omega)
 exact⟨X,xc,rfl,q0.base_le (by omega),below_setRow HB2.out (Nat.le_refl _) _⟩
theorem hardValue(A:Option Addr)(c:Nat)(t:Nat)(v:Int)(w:World)(ht:t<18446744073709551616)(h0:0<=v)(h1:v<=16)(h:RB w A (hardBytes t v))(hc:(hardBytes t v).length<=c/\c<=9223372036854775807)(hl:(hardBytes t v).length<=210000000000000) :
  Calls Tryz.prog 142 #[.agg kHard,.slice A (hardBytes t v).length c] w fun e w'=>e=.returned (.tuple #[.agg (#[.int .u64 (t:Int),.int .i64 v]:Array Value),.int .i64 0])/\Below w.heap.size w w':=by
 have SD:=qh (fun(o:Nat) (A:Option Addr) (c:Nat) (w:World) hI=>hardRead o A c t v w ht h0 h1 hI)
 have SS:=qh (fun(w2:World)=>msgHardOK t v w2 true (by unfold hardB;simp;omega))
 obtain⟨b,hb⟩:∃b,b=hardBytes t v:=⟨_,rfl⟩
 rw[<-hb] at h hc hl SD ⊢
 have hal:Below w.heap.size w (((w.alloc (.cells kHard 152)).alloc (.cells hardZ 25)).alloc (.cells #[.slice A b.length c,.int .i64 0,.bool false] 236)):=(((Below.refl _ _).alloc (Nat.le_refl _) _).alloc (by simp) _).alloc (by first | (simp;done) | (simp;omega)) _
 have z1:=(Blk.new w kHard 152).below (((Below.refl (w.heap.size+1) _).alloc (by simp) (.cells hardZ 25)).alloc (by simp) (.cells #[.slice A b.length c,.int .i64 0,.bool false] 236)) (Nat.lt_succ_self _)
 have hs1:(w.alloc (.cells kHard 152)).heap.size=w.heap.size+1:=by simp
 have hs2:((w.alloc (.cells kHard 152)).alloc (.cells hardZ 25)).heap.size=w.heap.size+2:=by simp
 have hs3:(((w.alloc (.cells kHard 152)).alloc (.cells hardZ 25)).alloc (.cells #[.slice A b.length c,.int .i64 0,.bool false] 236)).heap.size=w.heap.size+3:=by simp
 have z2:=Blk.new (w.alloc (.cells kHard 152)) hardZ 25
 rw[hs1] at z2
 have z2':=z2.below ((Below.refl (w.heap.size+2) _).alloc (by rw[hs2];exact Nat.le_refl _) (.cells #[.slice A b.length c,.int .i64 0,.bool false] 236)) (by omega)
 have z3:=Blk.new ((w.alloc (.cells kHard 152)).alloc (.cells hardZ 25)) #[.slice A b.length c,.int .i64 0,.bool false] 236
 rw[hs2] at z3
 have hI:InAt (w.heap.size+2) _ b A c (0,false):=⟨z3,h.below hal,fun h0 k hk e=>by have:=h.blk_lt h0 k hk;omega,⟨by decide,by simp⟩,hc,hl⟩
 have CR:=qh (SD.out (w.heap.size+2) _ _ _ hI)
 have k2:=z1.cell 2 rfl
 have HZ:=qh (And.intro z1 z2')
 have HAL:=qh hal
 have HS3:=qh hs3
 clear h hal z1 z2 z2' z3 hI hs1 hs2 hs3 hb SD
 unfold kHard at *
 unfold hardZ at *
 go_enter Tryz.func142,Tryz.ntmps142
 go_wp2_with fail
 refine CR.out.mono ?_
 rintro e w1 ⟨rfl,hI,m1⟩
 have hsz:=m1.size
 rw[HS3.out] at hsz
 have y1:=HZ.out.1.mods m1 (by omega)
 have y2:=HZ.out.2.mods m1 (by omega)
 have hb1:=Mods.old HAL.out m1 HAL.out.size (fun i _ e=>by subst e;omega)
 have Y2:=qh y2
 have X2:=qh (y2.setRow ((#[.int .u64 (t:Int),.int .i64 v]:Array Value)))
 have X1:=qh (y1.setRow_other (k:=w.heap.size+1) ((#[.int .u64 (t:Int),.int .i64 v]:Array Value)) (by omega))
 have HB:=qh (below_setRow (g:=w.heap.size+1) hb1 (by omega) ((#[.int .u64 (t:Int),.int .i64 v]:Array Value)))
 have ms:=(Mods.refl (·=w.heap.size+1) w1).setRow (w.heap.size+1) (.inl rfl) ((#[.int .u64 (t:Int),.int .i64 v]:Array Value))
 have i1:=hI.blk.setRow_other (k:=w.heap.size+1) ((#[.int .u64 (t:Int),.int .i64 v]:Array Value)) (by omega)
 obtain⟨w2,hw2⟩:∃w2,w2=w1.setRow (w.heap.size+1) ((#[.int .u64 (t:Int),.int .i64 v]:Array Value)):=⟨_,rfl⟩
 rw[<-hw2] at X1 X2 HB i1
 have HW2:=qh hw2.symm
 have SO:=qh (SS.out  w2)
 have c2:=i1.cell 2 (v:=.bool false) rfl
 have c1:=i1.cell 1 (v:=.int .i64 (b.length:Int)) rfl
 have k0:=X1.out.cell 0 rfl
 have x0:=X2.out.cell 0 rfl
 have x1:=X2.out.cell 1 rfl
 clear SS hw2 CR hI m1 y1 y2 hb1 ms i1 k2
 go_wp2_with (refine wpList_store_row rfl 25 (.tmp 4) (.tmp 14) rfl (w.heap.size+1) ((#[.int .u64 (t:Int),.int .i64 v]:Array Value)) rfl rfl _ _ Y2.out hard_size3 rfl (by simp[Value.oneCell']) ?_;rw[HW2.out])
 refine SO.out.mono ?_
 rintro e w3 ⟨rfl,b3⟩
 have X3:=qh (X2.out.kept b3)
 have HB3:=qh (HB.out.trans (b3.mono HB.out.size))
 have B3:=qh b3
 clear SO b3 x0 x1 X2 HB
 have x0:=X3.out.cell 0 rfl
 have x1:=X3.out.cell 1 rfl
 go_wp2_with (refine wpList_store_row rfl 25 (.tmp 4) (.tmp 36) rfl (w.heap.size+1) ((#[.int .u64 (t:Int),.int .i64 v]:Array Value)) rfl rfl _ _ X3.out hard_size3 rfl (by simp[Value.oneCell']) ?_)
 have Y:=X3.out.setRow ((#[.int .u64 (t:Int),.int .i64 v]:Array Value))
 have y0:=Y.cell 0 rfl
 have y1:=Y.cell 1 rfl
 refine bodyPost_ret (v:=.tuple #[.agg ((#[.int .u64 (t:Int),.int .i64 v]:Array Value)),.int .i64 0]) (by simp[results,Tryz.results142,go_sem,y0,y1]) rfl ?_
 exact⟨rfl,below_setRow (g:=w.heap.size+1) HB3.out (by omega) _⟩
theorem msgToHard(A:Option Addr)(c:Nat)(t:Nat)(v:Int)(w:World)(ht:t<18446744073709551616)(h0:0<=v)(h1:v<=16)(h:RB w A (hardBytes t v))(hc:(hardBytes t v).length<=c/\c<=9223372036854775807)(hl:(hardBytes t v).length<=210000000000000) :
  Calls Tryz.prog 76 #[.slice A (hardBytes t v).length c] w fun e w'=>e=.returned (.tuple #[.agg (#[.int .u64 (t:Int),.int .i64 v]:Array Value),.int .i64 0])/\Below w.heap.size w w':=by
 have hal:Below w.heap.size w (w.alloc (.cells hardZ 25)):=(Below.refl _ _).alloc (Nat.le_refl _) _
 have Z:=qh (Blk.new w hardZ 25)
 have CF:=qh (msgHards (w.alloc (.cells hardZ 25)))
 have VV:=qh (fun wx hx=>hardValue A c t v wx ht h0 h1 hx hc hl)
 obtain⟨b,hb⟩:∃b,b=hardBytes t v:=⟨_,rfl⟩
 rw[<-hb] at h VV ⊢
 have HRB:=qh h
 have HAL:=qh hal
 clear h hal hb hc hl
 unfold hardZ at *
 go_enter Tryz.func76,Tryz.ntmps76
 go_wp2_with fail
 refine CF.out.mono ?_
 rintro e w1 ⟨rfl,b1⟩
 have hb1:=belowTrans HAL.out b1
 have CV:=qh (VV.out w1 (HRB.out.below hb1))
 have Z1:=qh (Z.out.kept b1)
 have HB1:=qh hb1
 have HS1:Hid (w.heap.size+1<=w1.heap.size):=qh (by have:=b1.size;simpa using this)
 clear b1 hb1 CF Z HAL
 go_wp2_with fail
 refine CV.out.mono ?_
 rintro e w2 ⟨rfl,b2⟩
 have Z2:=qh (Z1.out.kept b2)
 have HB2:=qh (HB1.out.trans (b2.mono HB1.out.size))
 clear b2 CV Z1 HB1
 go_wp2_with (refine wpList_store_row rfl 25 (.tmp 2) (.tmp 7) rfl w.heap.size ((#[.int .u64 (t:Int),.int .i64 v]:Array Value)) rfl rfl _ _ Z2.out hard_size3 rfl (by simp[Value.oneCell']) ?_)
 have Y:=Z2.out.setRow ((#[.int .u64 (t:Int),.int .i64 v]:Array Value))
 have y0:=Y.cell 0 rfl
 have y1:=Y.cell 1 rfl
 refine bodyPost_ret (v:=.tuple #[.agg ((#[.int .u64 (t:Int),.int .i64 v]:Array Value)),.int .i64 0]) (by simp[results,Tryz.results76,go_sem,y0,y1]) rfl ?_
 exact⟨rfl,below_setRow HB2.out (Nat.le_refl _) _⟩
end
theorem ritr_put(p r b:List UInt8)(l:List Int)(hb:b=p++(putNums l++r))(hl:∀z∈l,0<=z/\z<=16):∀k,k<=l.length->ritr b k ([],((p.length:Int),false))=(l.take k,(((p++putNums (l.take k)).length:Nat):Int),false)
 | 0,_=>by simp[ritr,putNums]
 | k+1,hk=>by
  have ih:=ritr_put p r b l hb hl k (by omega)
  have hlt:k<l.length:=by omega
  have hz:=hl l[k] (List.getElem_mem hlt)
  obtain⟨n,hn⟩:=Int.eq_ofNat_of_zero_le hz.1
  have hs:putNums l=putNums (l.take k)++(putNum n++putNums (l.drop (k+1))):=by
   have e:l=l.take k++(l[k]::l.drop (k+1)):=by rw[<-List.drop_eq_getElem_cons hlt,List.take_append_drop]
   conv=>lhs;rw[e]
   unfold putNums
   rw[List.flatMap_append,List.flatMap_cons,hn]
   simp
  have hu:=rup_put (p++putNums (l.take k)) (putNums (l.drop (k+1))++r) b n 16 (by rw[hb,hs];simp only[List.append_assoc]) (by omega) (by omega)
  show rstep b (ritr b k _)=_
  rw[ih]
  unfold rstep
  simp only
  rw[hu,putNums_snoc l k hlt,List.take_succ_eq_append_getElem hlt,hn]
  simp
theorem ids_read(p r b:List UInt8)(l:List Int)(hb:b=p++(idsB l++r))(hl:∀z∈l,0<=z/\z<=16)(hn:l.length<=16):rids b ((p.length:Int),false)=(l,(((p++idsB l).length:Nat):Int),false):=by
 have e:idsB l=putNum l.length++putNums l:=by simp[idsB,putNums]
 rw[e] at hb ⊢
 have h1:=rup_put p (putNums l++r) b l.length 16 (by rw[hb,List.append_assoc]) (by omega) (by omega)
 unfold rids
 rw[h1]
 simp only[Int.toNat_natCast]
 have h2:=ritr_put (p++putNum l.length) r b l (by rw[hb];simp only[List.append_assoc]) hl l.length (Nat.le_refl _)
 rw[h2,List.take_length]
 simp
theorem shot_read(i t:Nat)(v l:List Int)(d:List UInt8)(h:shotB i t v l d.length=true):∃s1 s2 s3,rnum (shotBytes i t v l d) (0,false)=((i:Int),s1)/\rnum (shotBytes i t v l d) s1=((t:Int),s2)/\confV (shotBytes i t v l d) s2=v/\confL (shotBytes i t v l d) s2=l/\confS (shotBytes i t v l d) s2=s3/\rdat (shotBytes i t v l d) s3=(d,(((shotBytes i t v l d).length:Nat):Int),false):=by
 obtain⟨q1,q2,_,q4,q5⟩:=shotB_parts h
 obtain⟨q6,q7,_⟩:=confB_parts q1
 have n1:=rises_len q6
 have n2:=rises_len q7
 have z1:∀z∈v,0<=z/\z<=16:=fun z hz=>by have:=rises_in q6 z hz;omega
 have z2:∀z∈l,0<=z/\z<=16:=fun z hz=>by have:=rises_in q7 z hz;omega
 obtain⟨b,hb⟩:∃b,b=shotBytes i t v l d:=⟨_,rfl⟩
 have e:b=putNum i++(putNum t++(idsB v++(idsB l++putB d))):=by rw[hb];simp[shotBytes,putNums]
 rw[<-hb]
 have h3:=ids_read (putNum i++putNum t) (idsB l++putB d) b v (by rw[e];simp) z1 n1
 have h4:=ids_read (putNum i++putNum t++idsB v) (putB d) b l (by rw[e];simp) z2 n2
 have h1:=rnum_put [] (putNum t++(idsB v++(idsB l++putB d))) b i (by rw[e];rfl) (by omega)
 have h2:=rnum_put (putNum i) (idsB v++(idsB l++putB d)) b t (by rw[e]) (by omega)
 have h5:=rdat_put (putNum i++putNum t++idsB v++idsB l) b d (by rw[e];simp) (by omega)
 rw[List.nil_append] at h1
 refine⟨_,_,_,h1,h2,?_,?_,rfl,?_⟩
 ·unfold confV
  rw[h3]
 ·unfold confL
  rw[h3,h4]
 ·unfold confS
  rw[h3,h4]
  exact h5
theorem shotBytes_len{i t:Nat}{v l:List Int}{d:List UInt8}(h:shotB i t v l d.length=true):(shotBytes i t v l d).length<=d.length+400:=by
 obtain⟨q1,q2,_,q4,q5⟩:=shotB_parts h
 obtain⟨q6,q7,_⟩:=confB_parts q1
 have n1:=rises_len q6
 have n2:=rises_len q7
 have h1:=putNums_len [(i:Int),(t:Int)]
 have h2:=putNums_len [(v.length:Int)]
 have h3:=putNums_len v
 have h4:=putNums_len [(l.length:Int)]
 have h5:=putNums_len l
 have h6:=putNum_len d.length
 unfold shotBytes idsB putB
 simp only[List.length_append,List.length_cons,List.length_nil] at *
 omega
theorem enBytes_len{i t:Nat}{k d:Int}{x:List UInt8}(h:enB i t k d x=true):(enBytes i t k d x).length<=4200:=by
 have h7:=(enB_parts h).2.2.2.2.2.2.1
 have h1:=putNums_len [(i:Int),(t:Int),k,d]
 have h6:=putNum_len x.length
 unfold enBytes putB
 simp only[List.length_append,List.length_cons,List.length_nil] at *
 omega
end Go.Proofs.YtobdmlejabjmiaaGreatDoor
