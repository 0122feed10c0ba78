/- Made small by a program. -/
import Derived.Test.YtobdmlejabjmiaaGreatDoorZd14
import Derived.Laws.Bits64b
set_option maxRecDepth 20000
set_option maxHeartbeats 8000000
namespace Go.Proofs.YtobdmlejabjmiaaGreatDoor
open Go.RowKit
theorem set_same{α:Type}{l:List α}{j:Nat}{a:α}(h:l[j]?=some a):l.set j a=l:=by
 obtain⟨hj,rfl⟩:=List.getElem?_eq_some_iff.1 h
 exact List.set_getElem_self hj
theorem DR.below'{S:Nat->Prop}{w w':World}{g mf ms:Nat}{A:Option Addr}{c:Nat}{D:DSt}(h:DR S w g mf ms A c D)(hb:Below w.heap.size w w'):DR S w' g mf ms A c D:=h.below hb
theorem bit_and{mask k:Nat}(hm:mask<18446744073709551616):bits .and .u64 ((mask:Int) / 2 ^ (k % 64)) 1=if bitAt mask k=true then 1 else 0:=by
 have e:((mask:Int) / 2 ^ (k % 64))=((mask / 2 ^ (k % 64):Nat):Int):=by push_cast;rfl
 have hl:mask / 2 ^ (k % 64)<18446744073709551616:=Nat.lt_of_le_of_lt (Nat.div_le_self _ _) hm
 rw[e,show(1:Int)=((1:Nat):Int) from rfl,bits_and_u64_nat _ _ hl (by omega),Nat.and_one_is_mod]
 unfold bitAt
 split
 ·rename_i h
  have:mask / 2 ^ (k % 64) % 2=1:=by simpa using h
  rw[this]
 ·rename_i h
  have:¬mask / 2 ^ (k % 64) % 2=1:=by simpa using h
  omega
section
variable {S:Nat->Prop} {w w':World} {g mf ms:Nat} {A:Option Addr} {c:Nat} {D:DSt}
theorem diskFallC(mask:Nat)(torn:Int)(h:DI S w g D)(hcnt:D.cnt<=1000000)(hm:mask<18446744073709551616)(ht:-9223372036854775808<=torn/\torn<=9223372036854775807) :
  Calls Tryz.prog 17 #[.pointer (some ⟨g,0,none⟩),.int .u64 (mask:Int),.int .i64 torn] w (PDone S w g (fallD D mask torn) (.int .i64 0)):=by
 obtain⟨mf,ms,A,c,h⟩:=h
 obtain⟨Us,hU1,hU2,_,hU4⟩:=h.ui
 have hul:Us.length<=1000000:=by
  have e1:=congrArg List.length hU1
  rw[List.length_map] at e1
  unfold DSt.cnt at hcnt
  omega
 have c2':=h.blk.cell 2 rfl
 rw[show D.unsure.length=Us.length from by rw[<-hU1,List.length_map]] at c2'
 have HU1:=qh hU1
 have HU2:=qh hU2
 have HU4:=qh hU4
 have HR:=qh h
 clear h hU1 hU2 hU4 hcnt
 go_enter Tryz.func17,Tryz.ntmps17
 go_wp2_with fail
 go_loopw [7,8,20] (fun s7 s8 s20 wr=>∃(k:Nat) (A':Option Addr) (c':Nat) (U':List (Wr × Option Addr × Nat)),k<=Us.length/\s20=.int .i64 (k:Int)/\s7=.slice A' U'.length c'/\s8=.int .i64 (lastIx (U'.map Prod.fst))/\U'.length<=k/\Hid (U'.map Prod.fst=keepAt mask 0 ((Us.take k).map Prod.fst))/\Hid (∀p∈U',p∈Us)/\Hid (OR wr w.heap.size 94 4 A' c' (U'.map wrRow))/\Below w.heap.size w wr) (fun _ _ s20 _=>Us.length - (intOf s20).toNat)
 case atStart=>exact⟨0,none,0,[],Nat.zero_le _,rfl,rfl,rfl,Nat.zero_le _,qh rfl,qh (by simp),qh (OR.nil _ _ _ _),Below.refl _ _⟩
 case round =>
  obtain⟨k,A',c',U',hk,rfl,rfl,rfl,hl',hv,hsub,HO,hB⟩:=hrel
  clear c2'
  by_cases hlt:k<Us.length
  ·obtain⟨b,hBe,hbl,hcs⟩:=HU2.out.wcells hlt
   subst hBe
   obtain⟨d0,d1,d2,d3⟩:=hcs wr (hB.block b hbl)
   have HSN:Hid (keepAt mask 0 ((Us.take (k+1)).map Prod.fst)=keepAt mask 0 ((Us.take k).map Prod.fst)++if bitAt mask k=true then [Us[k].1] else []):=qh (by
    rw[List.take_succ_eq_append_getElem hlt,List.map_append,List.map_cons,List.map_nil,keepAt_snoc]
    simp[Nat.min_eq_left hk])
   have HMEM:Hid (Us[k]∈Us):=qh (List.getElem_mem hlt)
   generalize Us[k]=uk at *
   obtain⟨⟨kk,kn,ko,kd⟩,kA,kc⟩:=uk
   simp only at d0 d1 d2 d3
   have hlt1:k+1<=Us.length:=hlt
   have HZ:=qh (Blk.new wr #[.int .i64 0,.string ⟨#[]⟩,.int .i64 0,.slice none 0 0] 94)
   obtain⟨hba,hxa⟩:=below_row wr #[.int .i64 0,.string ⟨#[]⟩,.int .i64 0,.slice none 0 0] #[.int .i64 kk,.string ⟨kn.toArray⟩,.int .i64 (ko:Int),.slice kA kd.length kc] 94
   have HXA:=qh hxa
   have HO2:=qh (HO.out.below hba)
   have HB2:=qh (hB.trans (hba.mono hB.size))
   clear HO hB hcs hba hxa
   have HBA0:=bit_and (k:=k) hm
   cases hbit:bitAt mask k
   ·have hbz:bits .and .u64 ((mask:Int) / 2 ^ (k % 64)) 1=0:=by rw[HBA0,if_neg (by rw[hbit];simp)]
    have HN:Hid (U'.map Prod.fst=keepAt mask 0 ((Us.take (k+1)).map Prod.fst)):=qh (by rw[HSN.out,if_neg (by rw[hbit];simp),List.append_nil];exact hv.out)
    clear HSN hbit HBA0 hv
    go_wp2_with (refine wpList_store_row rfl 94 (.tmp 10) (.tmp 24) rfl wr.heap.size #[.int .i64 kk,.string ⟨kn.toArray⟩,.int .i64 (ko:Int),.slice kA kd.length kc] rfl rfl _ _ HZ.out write_size rfl (by simp[Value.oneCell']) ?_;have x0:=HXA.out.cell 0 rfl;have x1:=HXA.out.cell 1 rfl;have x2:=HXA.out.cell 2 rfl;have x3:=HXA.out.cell 3 rfl)
    go_roundw
    case rel=>exact⟨k+1,A',c',U',hlt1,by go_num,rfl,rfl,by omega,HN,hsub,HO2,HB2.out⟩
    case measure=>simp[intOf];omega
   ·have hbz:bits .and .u64 ((mask:Int) / 2 ^ (k % 64)) 1=1:=by rw[HBA0,if_pos hbit]
    rw[if_pos hbit] at HSN
    clear hbit HBA0
    have hba5:Below ((wr.alloc (.cells #[.int .i64 0,.string ⟨#[]⟩,.int .i64 0,.slice none 0 0] 94)).setRow wr.heap.size #[.int .i64 kk,.string ⟨kn.toArray⟩,.int .i64 (ko:Int),.slice kA kd.length kc]).heap.size ((wr.alloc (.cells #[.int .i64 0,.string ⟨#[]⟩,.int .i64 0,.slice none 0 0] 94)).setRow wr.heap.size #[.int .i64 kk,.string ⟨kn.toArray⟩,.int .i64 (ko:Int),.slice kA kd.length kc]) (((wr.alloc (.cells #[.int .i64 0,.string ⟨#[]⟩,.int .i64 0,.slice none 0 0] 94)).setRow wr.heap.size #[.int .i64 kk,.string ⟨kn.toArray⟩,.int .i64 (ko:Int),.slice kA kd.length kc]).alloc (.cells #[.int .i64 kk,.string ⟨kn.toArray⟩,.int .i64 (ko:Int),.slice kA kd.length kc] 94)):=(Below.refl _ _).alloc (Nat.le_refl _) _
    have HOA:=qh (HO2.out.below hba5)
    have HBA5:=qh (HB2.out.trans (hba5.mono HB2.out.size))
    have HL5:Hid (Blk (((wr.alloc (.cells #[.int .i64 0,.string ⟨#[]⟩,.int .i64 0,.slice none 0 0] 94)).setRow wr.heap.size #[.int .i64 kk,.string ⟨kn.toArray⟩,.int .i64 (ko:Int),.slice kA kd.length kc]).alloc (.cells #[.int .i64 kk,.string ⟨kn.toArray⟩,.int .i64 (ko:Int),.slice kA kd.length kc] 94)) (wr.heap.size+1) 94 #[.int .i64 kk,.string ⟨kn.toArray⟩,.int .i64 (ko:Int),.slice kA kd.length kc]):=qh (by
     have:=Blk.new ((wr.alloc (.cells #[.int .i64 0,.string ⟨#[]⟩,.int .i64 0,.slice none 0 0] 94)).setRow wr.heap.size #[.int .i64 kk,.string ⟨kn.toArray⟩,.int .i64 (ko:Int),.slice kA kd.length kc]) #[.int .i64 kk,.string ⟨kn.toArray⟩,.int .i64 (ko:Int),.slice kA kd.length kc] 94
     rw[show((wr.alloc (.cells #[.int .i64 0,.string ⟨#[]⟩,.int .i64 0,.slice none 0 0] 94)).setRow wr.heap.size #[.int .i64 kk,.string ⟨kn.toArray⟩,.int .i64 (ko:Int),.slice kA kd.length kc]).heap.size=wr.heap.size+1 from by simp] at this
     exact this)
    obtain⟨i0,hi0,hz0,hz1,hz2⟩:=info_parts write_info
    clear hba5
    by_cases hk1:kk=1
    ·subst hk1
     go_wp2_with (first
      | (refine wpList_store_row rfl 94 (.tmp 10) (.tmp 24) rfl wr.heap.size #[.int .i64 1,.string ⟨kn.toArray⟩,.int .i64 (ko:Int),.slice kA kd.length kc] rfl rfl _ _ HZ.out write_size rfl (by simp[Value.oneCell']) ?_;have x0:=HXA.out.cell 0 rfl;have x1:=HXA.out.cell 1 rfl;have x2:=HXA.out.cell 2 rfl;have x3:=HXA.out.cell 3 rfl)
      | (at_builtin;refine wp_appendS _ rfl (.tmp 36) (.tmp 38) 64 94 rfl Tryz.underlying64 hi0 hz0 hz1 hz2 rfl (by decide) w.heap.size A' (some ⟨wr.heap.size+1,0,none⟩) c' 1 (U'.map wrRow) [[.int .i64 1,.string ⟨kn.toArray⟩,.int .i64 (ko:Int),.slice kA kd.length kc]] (by simp;rfl) (by simp;rfl) HOA.out (RS.lit HL5.out) (by simp) (by simp[Value.oneCell']) (by simp;omega) (by simp;omega) HBA5.out.size ?_;intro ys A9 c9 w9 hys hy1 hy2 hrow hg9 hA9))
     have HYS:Hid (ys=(U'++[((⟨1,kn,ko,kd⟩,kA,kc):Wr × Option Addr × Nat)]).map wrRow):=qh (by rw[hys.out,List.map_append];rfl)
     have HU9:Hid (OR w9 w.heap.size 94 4 A9 c9 ((U'++[((⟨1,kn,ko,kd⟩,kA,kc):Wr × Option Addr × Nat)]).map wrRow)):=qh (by rw[<-HYS.out];exact hrow)
     have hB9:=HBA5.out.grown hg9 HBA5.out.size (fun b hb=>(HOA.out.blk_lt b hb).1)
     have HYL:Hid (ys.length=(U'++[((⟨1,kn,ko,kd⟩,kA,kc):Wr × Option Addr × Nat)]).length):=qh (by rw[HYS.out,List.length_map])
     have hyl:(U'++[((⟨1,kn,ko,kd⟩,kA,kc):Wr × Option Addr × Nat)]).length<=k+1:=by simp;omega
     have HN:Hid ((U'++[((⟨1,kn,ko,kd⟩,kA,kc):Wr × Option Addr × Nat)]).map Prod.fst=keepAt mask 0 ((Us.take (k+1)).map Prod.fst)):=qh (by rw[HSN.out,List.map_append,hv.out];rfl)
     have HSUB:Hid (∀p∈U'++[((⟨1,kn,ko,kd⟩,kA,kc):Wr × Option Addr × Nat)],p∈Us):=qh fun p hp=>by
      rcases List.mem_append.1 hp with hp | hp
      ·exact hsub.out p hp
      ·rw[List.mem_singleton] at hp;subst hp;exact HMEM.out
     have HLI:Hid ((U'.length:Int)=lastIx ((U'++[((⟨1,kn,ko,kd⟩,kA,kc):Wr × Option Addr × Nat)]).map Prod.fst)):=qh (by
      rw[List.map_append,List.map_cons,List.map_nil,lastIx_snoc,if_pos (by rfl),List.length_map])
     clear hys hy1 hy2 hrow hg9 hA9 HOA HBA5 HL5 HYS hv hsub HSN HMEM
     rw[HYL.out]
     generalize (U'++[((⟨1,kn,ko,kd⟩,kA,kc):Wr × Option Addr × Nat)])=U9 at *
     go_roundw
     case rel=>exact⟨k+1,A9,c9,U9,hlt1,by go_num,rfl,by rw[HLI.out],hyl,HN,HSUB,HU9,hB9⟩
     case measure=>simp[intOf];omega
    ·have hk2:(kk == 1)=false:=by simpa using hk1
     go_wp2_with (first
      | (refine wpList_store_row rfl 94 (.tmp 10) (.tmp 24) rfl wr.heap.size #[.int .i64 kk,.string ⟨kn.toArray⟩,.int .i64 (ko:Int),.slice kA kd.length kc] rfl rfl _ _ HZ.out write_size rfl (by simp[Value.oneCell']) ?_;have x0:=HXA.out.cell 0 rfl;have x1:=HXA.out.cell 1 rfl;have x2:=HXA.out.cell 2 rfl;have x3:=HXA.out.cell 3 rfl)
      | (at_builtin;refine wp_appendS _ rfl (.tmp 36) (.tmp 38) 64 94 rfl Tryz.underlying64 hi0 hz0 hz1 hz2 rfl (by decide) w.heap.size A' (some ⟨wr.heap.size+1,0,none⟩) c' 1 (U'.map wrRow) [[.int .i64 kk,.string ⟨kn.toArray⟩,.int .i64 (ko:Int),.slice kA kd.length kc]] (by simp;rfl) (by simp;rfl) HOA.out (RS.lit HL5.out) (by simp) (by simp[Value.oneCell']) (by simp;omega) (by simp;omega) HBA5.out.size ?_;intro ys A9 c9 w9 hys hy1 hy2 hrow hg9 hA9))
     have HYS:Hid (ys=(U'++[((⟨kk,kn,ko,kd⟩,kA,kc):Wr × Option Addr × Nat)]).map wrRow):=qh (by rw[hys.out,List.map_append];rfl)
     have HU9:Hid (OR w9 w.heap.size 94 4 A9 c9 ((U'++[((⟨kk,kn,ko,kd⟩,kA,kc):Wr × Option Addr × Nat)]).map wrRow)):=qh (by rw[<-HYS.out];exact hrow)
     have hB9:=HBA5.out.grown hg9 HBA5.out.size (fun b hb=>(HOA.out.blk_lt b hb).1)
     have HYL:Hid (ys.length=(U'++[((⟨kk,kn,ko,kd⟩,kA,kc):Wr × Option Addr × Nat)]).length):=qh (by rw[HYS.out,List.length_map])
     have hyl:(U'++[((⟨kk,kn,ko,kd⟩,kA,kc):Wr × Option Addr × Nat)]).length<=k+1:=by simp;omega
     have HN:Hid ((U'++[((⟨kk,kn,ko,kd⟩,kA,kc):Wr × Option Addr × Nat)]).map Prod.fst=keepAt mask 0 ((Us.take (k+1)).map Prod.fst)):=qh (by rw[HSN.out,List.map_append,hv.out];rfl)
     have HSUB:Hid (∀p∈U'++[((⟨kk,kn,ko,kd⟩,kA,kc):Wr × Option Addr × Nat)],p∈Us):=qh fun p hp=>by
      rcases List.mem_append.1 hp with hp | hp
      ·exact hsub.out p hp
      ·rw[List.mem_singleton] at hp;subst hp;exact HMEM.out
     have HLI:Hid (lastIx (U'.map Prod.fst)=lastIx ((U'++[((⟨kk,kn,ko,kd⟩,kA,kc):Wr × Option Addr × Nat)]).map Prod.fst)):=qh (by
      rw[List.map_append,List.map_cons,List.map_nil,lastIx_snoc,if_neg (by show ¬(kk == 1)=true;rw[hk2];simp)])
     clear hys hy1 hy2 hrow hg9 hA9 HOA HBA5 HL5 HYS hv hsub HSN HMEM
     rw[HYL.out]
     generalize (U'++[((⟨kk,kn,ko,kd⟩,kA,kc):Wr × Option Addr × Nat)])=U9 at *
     go_roundw
     case rel=>exact⟨k+1,A9,c9,U9,hlt1,by go_num,rfl,by rw[HLI.out],hyl,HN,HSUB,HU9,hB9⟩
     case measure=>simp[intOf];omega
  ·obtain rfl:k=Us.length:=by omega
   have HV:Hid (U'.map Prod.fst=keepAt mask 0 D.unsure):=qh (by rw[hv.out,List.take_of_length_le (Nat.le_refl _),HU1.out])
   have HCUT:=qh (cutLast_eq torn (U'.map Prod.fst))
   have HLS:=qh (fun h=>lastIx_some (U'.map Prod.fst) h)
   have HLN:=qh (fun h=>lastIx_none (U'.map Prod.fst) h)
   have HUS:Hid (∀p∈U',RB w p.2.1 p.1.data/\(0<p.1.data.length->∀b,p.2.1.map (·.block)=some b->b≠g)/\p.1.ok/\p.1.data.length<=p.2.2):=qh fun p hp=>by
    have h1:=HU4.out p (hsub.out p hp)
    refine⟨h1.1.rb,fun _ b hb e=>by subst e;exact h1.1.ne_var HR.out.blk (by decide) hb,HR.out.ok.2.2.2 p.1 (by rw[<-HU1.out];exact List.mem_map.2 ⟨p,hsub.out p hp,rfl⟩),h1.1.cap.1⟩
   have hlb:-1<=lastIx (U'.map Prod.fst)/\lastIx (U'.map Prod.fst)<2000000:=by
    cases ha:(U'.map Prod.fst).any isPut
    ·rw[HLN.out ha];omega
    ·have:=HLS.out ha;rw[List.length_map] at this;omega
   clear hv hsub
   by_cases hli:0<=lastIx (U'.map Prod.fst)
   ·have hj:(lastIx (U'.map Prod.fst)).toNat<U'.length:=by
     cases ha:(U'.map Prod.fst).any isPut
     ·have:=HLN.out ha;omega
     ·have:=HLS.out ha;rw[List.length_map] at this;omega
    have hcut:=HCUT.out
    rw[dif_pos ⟨hli,by rw[List.length_map];exact hj⟩] at hcut
    obtain⟨j,hjj⟩:∃j:Nat,lastIx (U'.map Prod.fst)=(j:Int):=⟨_,(Int.toNat_of_nonneg hli).symm⟩
    have hjl:j<U'.length:=by rw[hjj] at hj;simpa using hj
    have HC2:Hid (cutLast torn (U'.map Prod.fst)=(U'.map Prod.fst).set j (cutW torn U'[j].1)):=qh (by
     rw[hcut]
     simp only[hjj,Int.toNat_natCast,List.getElem_map])
    rw[hjj]
    clear HCUT HLS HLN hlb hli hj hcut hjj
    by_cases ht0:0<=torn
    ·by_cases ht1:torn<(U'[j].1.data.length:Int)
     ·obtain⟨tn,rfl⟩:∃tn:Nat,torn=(tn:Int):=⟨torn.toNat,by omega⟩
      obtain⟨bs,hBe,hbl,hcs⟩:=HO.out.wcells hjl
      subst hBe
      have d3:=(hcs wr rfl).2.2.2
      have hUj:=HUS.out _ (List.getElem_mem hjl)
      have HST:=qh (HO.out.stored (i:=j) (r:=wrRow U'[j]) (by simp[hjl]) (j:=3) (by decide) (.slice U'[j].2.1 tn U'[j].2.2))
      have HVF0:Hid ((U'.set j (⟨U'[j].1.kind,U'[j].1.name,U'[j].1.off,U'[j].1.data.take tn⟩,U'[j].2.1,U'[j].2.2)).map Prod.fst=fallUs mask (tn:Int) D.unsure):=qh (by
       unfold fallUs
       rw[<-HV.out,HC2.out,List.map_set]
       unfold cutW
       rw[if_pos ⟨by omega,ht1⟩,Int.toNat_natCast])
      have hlt9:tn<U'[j].1.data.length:=by omega
      have HRW:Hid ((U'.map wrRow).set j ((wrRow U'[j]).set 3 (.slice U'[j].2.1 tn U'[j].2.2))=(U'.set j (⟨U'[j].1.kind,U'[j].1.name,U'[j].1.off,U'[j].1.data.take tn⟩,U'[j].2.1,U'[j].2.2)).map wrRow):=qh (by
       rw[List.map_set]
       unfold wrRow
       simp only[List.set_cons_succ,List.set_cons_zero,List.length_take,Nat.min_eq_left (Nat.le_of_lt hlt9)])
      have HDAT0:Hid (∀p∈U'.set j (⟨U'[j].1.kind,U'[j].1.name,U'[j].1.off,U'[j].1.data.take tn⟩,U'[j].2.1,U'[j].2.2),RB w p.2.1 p.1.data/\(0<p.1.data.length->∀b,p.2.1.map (·.block)=some b->b≠g)/\p.1.ok):=qh fun p hp=>by
       rcases List.mem_or_eq_of_mem_set hp with hp | hp
       ·exact⟨(HUS.out p hp).1,(HUS.out p hp).2.1,(HUS.out p hp).2.2.1⟩
       ·subst hp
        refine⟨hUj.1.take tn,fun h0 b hb=>hUj.2.1 (by simp at h0;omega) b hb,hUj.2.2.1.1,?_⟩
        have:=hUj.2.2.1.2
        simp only[List.length_take]
        omega
      have htc:tn<=U'[j].2.2:=by have:=hUj.2.2.2;omega
      obtain⟨kb,ko2,hke,_,_⟩:=hUj.1.at_ (by omega)
      rw[HRW.out] at HST
      have hjl4:∀q,(U'.set j q).length=U'.length:=fun q=>List.length_set
      generalize hVf:U'.set j (⟨U'[j].1.kind,U'[j].1.name,U'[j].1.off,U'[j].1.data.take tn⟩,U'[j].2.1,U'[j].2.2)=Vf at *
      have HVL:Hid (Vf.length=U'.length):=qh (by rw[<-hVf];exact List.length_set)
      rw[hke] at d3 HST
      generalize U'[j].1.data.length=kl at *
      generalize U'[j].2.2=kc at *
      have fr:wr.frozen? ⟨bs,j*4+3,none⟩=false:=HO.out.free rfl _
      have hBx:=hB.setCell (p:=⟨bs,j*4+3,none⟩) (HO.out.blk_lt bs rfl).1 (.slice (some ⟨kb,ko2,none⟩) tn kc)
      have HOx:=qh HST.out.1
      have HVF:=HVF0
      have HDAT:=HDAT0
      have hVlen:Vf.length<=1000000:=by rw[HVL.out];omega
      have HUL2:Hid (U'.length=Vf.length):=qh HVL.out.symm
      clear HVF0 HDAT0 HC2 HUS HV HRW hcs hUj hjl4 hVf hke HO hB HST
      have HC1:Hid ((wr.setCell ⟨bs,j*4+3,none⟩ (.slice (some ⟨kb,ko2,none⟩) tn kc)).cell? ⟨g,1,none⟩=some (.map (some ms))):=qh ((HR.out.below' hBx).blk.cell 1 rfl)
      have hc1:=HC1.out
      go_wp2_with fail
      rw[HUL2.out]
      generalize wr.setCell ⟨bs,j*4+3,none⟩ (.slice (some ⟨kb,ko2,none⟩) tn kc)=wx at *
      clear HC1 hc1 HVL HUL2 d3 fr
      have HRx:=qh (HR.out.below' hBx)
      have CL:=qh (diskClone wx HRx.out.si (fun k l hk=>by have:=HRx.out.ok.2.2.1 k l hk;omega))
      have c1:=HRx.out.blk.cell 1 rfl
      refine CL.out.mono ?_
      rintro e w3 ⟨rfl,hf3,hb3⟩
      have HR3:=qh (HRx.out.below hb3)
      have c0:=HR3.out.blk.cell 0 rfl
      have f0:=HR3.out.blk.free 0
      obtain⟨m1,hm1⟩:∃m1,m1=wx.heap.size:=⟨_,rfl⟩
      have hgk4:∀b,b≠g->(w3.setCell ⟨g,0,none⟩ (.map (some m1))).heap[b]?=w3.heap[b]?:=fun b hb=>Below.heap_setCell _ _ _ b hb
      have HBK4:Hid (Blk (w3.setCell ⟨g,0,none⟩ (.map (some m1))) g 66 #[.map (some m1),.map (some ms),.slice A D.unsure.length c,.int .i64 D.room,.int .i64 D.fuse,.bool D.down]):=qh (HR3.out.blk.setCell 0 (.map (some m1)))
      have HFI4:Hid (FI (fun b=>w.heap.size<=b) (w3.setCell ⟨g,0,none⟩ (.map (some m1))) m1 D.sure):=qh (by
       rw[hm1]
       exact(hf3.mono fun b _ hb=>Nat.le_trans hBx.size hb.1).of_var HR3.out.blk (by decide) (by rw[<-hm1];exact hgk4))
      have HM4:Hid (Mods (fun b=>b=g) w (w3.setCell ⟨g,0,none⟩ (.map (some m1)))):=qh (Mods.setCell (S:=fun b=>b=g) (Mods.of_below (hBx.trans (hb3.mono hBx.size))) ⟨g,0,none⟩ (.inl rfl) _)
      have HO4:Hid (OR (w3.setCell ⟨g,0,none⟩ (.map (some m1))) w.heap.size 94 4 (some ⟨bs,0,none⟩) c' (Vf.map wrRow)):=qh ((HOx.out.below hb3).of_block fun b hb=>hgk4 b (by rintro rfl;exact(HOx.out.below hb3).ne_var HR3.out.blk (by decide) hb))
      have hm1l:w.heap.size<=m1:=by rw[hm1];exact hBx.size
      rw[<-hm1]
      have hVl:=hVlen
      clear CL c1 hf3 hb3 HR3 HRx hgk4 HOx hBx hm1
      go_wp2_with fail
      generalize w3.setCell ⟨g,0,none⟩ (.map (some m1))=w4 at *
      clear c0 f0
      go_loopw [78] (fun s78 wr=>∃k:Nat,k<=Vf.length/\s78=.int .i64 (k:Int)/\Hid (FI (fun b=>w.heap.size<=b) wr m1 (((Vf.take k).map Prod.fst).foldl doF D.sure))/\Hid (Blk wr g 66 #[.map (some m1),.map (some ms),.slice A D.unsure.length c,.int .i64 D.room,.int .i64 D.fuse,.bool D.down])/\Hid (Mods (fun b=>b=g) w wr)/\Hid (OR wr w.heap.size 94 4 (some ⟨bs,0,none⟩) c' (Vf.map wrRow))) (fun s78 _=>Vf.length - (intOf s78).toNat)
      case atStart=>exact⟨0,Nat.zero_le _,rfl,HFI4,HBK4,HM4,HO4⟩
      case round =>
       obtain⟨k,hk,rfl,HF,HB,HM,HO⟩:=hrel
       clear HFI4 HBK4 HM4 HO4
       by_cases hlt:k<Vf.length
       ·obtain⟨b,hBe,hbl,hcs⟩:=HO.out.wcells hlt
        injection hBe with hBe
        injection hBe with hBe
        subst hBe
        obtain⟨d0,d1,d2,d3⟩:=hcs wr rfl
        have HSN:Hid (((Vf.take (k+1)).map Prod.fst).foldl doF D.sure=doF (((Vf.take k).map Prod.fst).foldl doF D.sure) Vf[k].1):=qh (by
         rw[List.take_succ_eq_append_getElem hlt,List.map_append,List.foldl_append];rfl)
        obtain⟨hrb,hng,hok⟩:=HDAT.out _ (List.getElem_mem hlt)
        have HSM:Hid (∀n l,fget (((Vf.take k).map Prod.fst).foldl doF D.sure) n=some l->l.length<=140737488355328):=qh fun n l hl=>by
         have:=foldl_small (us:=(Vf.take k).map Prod.fst) HR.out.ok.2.2.1 (fun u hu=>by
          obtain⟨p,hp,rfl⟩:=List.mem_map.1 hu
          exact(HDAT.out p (List.mem_of_mem_take hp)).2.2) n l hl
         omega
        have HRB:=qh hrb
        have HNG:=qh hng
        have HOK:=qh hok
        generalize Vf[k]=uk at *
        obtain⟨⟨kk,kn,ko,kd⟩,kA,kc⟩:=uk
        simp only at d0 d1 d2 d3
        have hlt1:k+1<=Vf.length:=hlt
        have HZ:=qh (Blk.new wr #[.int .i64 0,.string ⟨#[]⟩,.int .i64 0,.slice none 0 0] 94)
        obtain⟨hba,hxa⟩:=below_row wr #[.int .i64 0,.string ⟨#[]⟩,.int .i64 0,.slice none 0 0] #[.int .i64 kk,.string ⟨kn.toArray⟩,.int .i64 (ko:Int),.slice kA kd.length kc] 94
        have HXA:=qh hxa
        have HFa:=qh (HF.out.below hba)
        have HBa:=qh (HB.out.kept hba)
        have HMa:=qh (HM.out.below hba)
        have HOa:=qh (HO.out.below hba)
        have hwrs:=HM.out.size
        clear hrb hng hok hcs hba hxa HF HB HM HO
        go_wp2_with (refine wpList_store_row rfl 94 (.tmp 12) (.tmp 81) rfl wr.heap.size #[.int .i64 kk,.string ⟨kn.toArray⟩,.int .i64 (ko:Int),.slice kA kd.length kc] rfl rfl _ _ HZ.out write_size rfl (by simp[Value.oneCell']) ?_)
        obtain⟨xb,hxb⟩:∃xb,xb=wr.heap.size:=⟨_,rfl⟩
        have HXB:=qh hxb
        generalize hwb:(wr.alloc (.cells #[.int .i64 0,.string ⟨#[]⟩,.int .i64 0,.slice none 0 0] 94)).setRow wr.heap.size #[.int .i64 kk,.string ⟨kn.toArray⟩,.int .i64 (ko:Int),.slice kA kd.length kc]=wb at *
        rw[<-hxb] at HXA ⊢
        clear hwb hxb HZ d0 d1 d2 d3
        refine wp_region_planE_gen (by kernel_rfl) [(0,none),(1,none),(2,none),(3,none),(4,none),(5,some [3,4])] (by kernel_rfl) (by kernel_rfl) (by decide) ?_
        intro wq hwq
        have hbq:Below wb.heap.size wb wq:=by rw[hwq];exact(Below.refl _ _).drew
        have HFq:=qh (HFa.out.below hbq)
        have HBq:=qh (HBa.out.kept hbq)
        have HMq:=qh (HMa.out.below hbq)
        have HOq:=qh (HOa.out.below hbq)
        have HXq:=qh (HXA.out.kept hbq)
        have c0:=HBq.out.cell 0 rfl
        have y0:=HXq.out.cell 0 rfl
        have y1:=HXq.out.cell 1 rfl
        have y2:=HXq.out.cell 2 rfl
        have y3:=HXq.out.cell 3 rfl
        have DO:=qh (diskDo wq HFq.out ⟨kk,kn,ko,kd⟩ kA kc (HRB.out.mods HMq.out (fun h0 b hb=>HNG.out h0 b hb)) HOK.out.1 (by have:=HOK.out.2;simp only at this ⊢;omega) (by have:=HOK.out.2;simp only at this ⊢;omega) HSM.out)
        unfold wrV at DO
        clear hwq hbq HFa HBa HMa HOa HXA
        iterate 3 (refine planE_pureA ?_)
        refine planE_cellsA [(⟨g,0,none⟩,.map (some m1))] ?_
        refine planE_cellsA [(⟨xb,0,none⟩,.int .i64 kk),(⟨xb,1,none⟩,.string ⟨kn.toArray⟩),(⟨xb,2,none⟩,.int .i64 (ko:Int)),(⟨xb,3,none⟩,.slice kA kd.length kc)] ?_
        refine planE_eff rfl (by rfl) (fun K hK=>?_)
        go_simp
        refine DO.out.mono ?_
        rintro e w5 ⟨rfl,hfi,hmm⟩
        obtain⟨es,hmap⟩:=HFq.out.at_
        have hgne:=HFq.out.blk_ne HBq.out
        have hxne:=HFq.out.blk_ne HXq.out
        have HB5:=qh (HBq.out.mods hmm (fun e=>hgne e.symm))
        have HX5:=qh (HXq.out.mods hmm (fun e=>hxne e.symm))
        have hqs:=HMq.out.size
        have HF5:=qh (hfi.mono (T:=fun b=>w.heap.size<=b) fun b _ hb=>by
         rcases hb with hb | hb
         ·exact hb
         ·exact Nat.le_trans hqs hb.1)
        have HO5:=qh (HOq.out.of_block (w':=w5) fun b hb=>hmm.block b (HOq.out.blk_lt b hb).2 (fun e=>by
         obtain⟨cs,hc⟩:=HOq.out.blk b hb
         exact hmap.ne_cells hc e.symm))
        have HM5:=qh (HMq.out.trans hmm (fun b hb=>.inr (by rw[hb];exact hm1l)))
        clear c0 y0 y1 y2 y3 DO hfi hmm hmap hgne hxne HFq HBq HMq HOq HXq
        have c0:=HB5.out.cell 0 rfl
        have y0:=HX5.out.cell 0 rfl
        have y1:=HX5.out.cell 1 rfl
        have y2:=HX5.out.cell 2 rfl
        have y3:=HX5.out.cell 3 rfl
        refine planE_ownA hK ?_
        clear hK K
        refine planE_end ?_
        have HFN:Hid (FI (fun b=>w.heap.size<=b) w5 m1 (((Vf.take (k+1)).map Prod.fst).foldl doF D.sure)):=qh (by rw[HSN.out];exact HF5.out)
        clear c0 y0 y1 y2 y3 HF5 HSN HX5 HRB HNG HOK HSM
        go_wp2_with fail
        go_roundw
        case rel=>exact⟨k+1,hlt1,by go_num,HFN,HB5,HM5,HO5⟩
        case measure=>simp[intOf];omega
       ·obtain rfl:k=Vf.length:=by omega
        have HFE:Hid (FI (fun b=>w.heap.size<=b) wr m1 (fallD D mask (tn:Int)).sure):=qh (by
         have:=HF.out
         rw[List.take_of_length_le (Nat.le_refl _),HVF.out] at this
         exact this)
        have HSMF:Hid (∀n l,fget (fallD D mask (tn:Int)).sure n=some l->l.length<=4194304):=qh fun n l hl=>by
         refine foldl_small (us:=fallUs mask (tn:Int) D.unsure) HR.out.ok.2.2.1 (fun u hu=>?_) n l hl
         rw[<-HVF.out] at hu
         obtain⟨p,hp,rfl⟩:=List.mem_map.1 hu
         exact(HDAT.out p hp).2.2
        have CL:=qh (diskClone wr HFE.out (fun n l hl=>by have:=HSMF.out n l hl;omega))
        have c0:=HB.out.cell 0 rfl
        have hmg:=HR.out.sg
        clear HF HO HDAT HVF
        go_wp2_with fail
        refine CL.out.mono ?_
        rintro e w5 ⟨rfl,hf5,hb5⟩
        have hB5:=HB.out.kept hb5
        have f1:=hB5.free 1
        have f2:=hB5.free 2
        have f4:=hB5.free 4
        have f5:=hB5.free 5
        have e1:=hB5.cell 1 rfl
        have e2:=hB5.cell 2 rfl
        have e4:=hB5.cell 4 rfl
        have e5:=hB5.cell 5 rfl
        have HFIN:Hid (PDone S w g (fallD D mask (tn:Int)) (.int .i64 0) (.returned (.int .i64 0)) ((((w5.setCell ⟨g,1,none⟩ (.map (some wr.heap.size))).setCell ⟨g,2,none⟩ (.slice none 0 0)).setCell ⟨g,4,none⟩ (.int .i64 0)).setCell ⟨g,5,none⟩ (.bool false))):=qh (by
         have hkb:∀b,b≠g->((((w5.setCell ⟨g,1,none⟩ (.map (some wr.heap.size))).setCell ⟨g,2,none⟩ (.slice none 0 0)).setCell ⟨g,4,none⟩ (.int .i64 0)).setCell ⟨g,5,none⟩ (.bool false)).heap[b]?=w5.heap[b]?:=fun b hb=>by
          rw[Below.heap_setCell _ _ _ b hb,Below.heap_setCell _ _ _ b hb,Below.heap_setCell _ _ _ b hb,Below.heap_setCell _ _ _ b hb]
         have hsz:((((w5.setCell ⟨g,1,none⟩ (.map (some wr.heap.size))).setCell ⟨g,2,none⟩ (.slice none 0 0)).setCell ⟨g,4,none⟩ (.int .i64 0)).setCell ⟨g,5,none⟩ (.bool false)).heap.size=w5.heap.size:=by simp
         have hbk:=(((hB5.setCell 1 (.map (some wr.heap.size))).setCell 2 (.slice none 0 0)).setCell 4 (.int .i64 0)).setCell 5 (.bool false)
         have hs1:=HM.out.size
         have hs5:=hb5.size
         have hT:∀b,b<w5.heap.size->w.heap.size<=b->Sx S w ((((w5.setCell ⟨g,1,none⟩ (.map (some wr.heap.size))).setCell ⟨g,2,none⟩ (.slice none 0 0)).setCell ⟨g,4,none⟩ (.int .i64 0)).setCell ⟨g,5,none⟩ (.bool false)) b:=fun b h1 h2=>.inr ⟨h2,by rw[hsz];exact h1⟩
         have hml:m1<wr.heap.size:=by obtain⟨es,hm⟩:=HFE.out.at_;exact hm.lt
         refine⟨rfl,⟨m1,wr.heap.size,none,0,hbk,?_,?_,by omega,UI.nil _ _,.inl hmg,⟨HR.out.ok.1,by simp[fallD],HSMF.out,by simp[fallD]⟩,fun b hb=>?_⟩,?_⟩
         ·exact((HFE.out.below hb5).mono hT).of_var hB5 (by decide) hkb
         ·exact(hf5.mono fun b h1 h2=>hT b h1 (Nat.le_trans hs1 h2.1)).of_var hB5 (by decide) hkb
         ·rcases hb with hb | hb
          ·have:=HR.out.bnd b hb;rw[hsz];omega
          ·exact hb.2
         ·have h0:=Mods.below HM.out hb5
          have h1:Mods S w w5:=h0.mono fun b _ hb=>by rw[hb];exact hmg
          exact(((h1.setCell _ (.inl hmg) _).setCell _ (.inl hmg) _).setCell _ (.inl hmg) _).setCell _ (.inl hmg) _)
        clear hf5 hb5 hB5 HB HM HFE HSMF CL c0
        go_wp2_with fail
        go_ret
        exact HFIN.out
     ·obtain⟨bs,hBe,hbl,hcs⟩:=HO.out.wcells hjl
      subst hBe
      have d3:=(hcs wr rfl).2.2.2
      have HVF:Hid (U'.map Prod.fst=fallUs mask torn D.unsure):=qh (by
       unfold fallUs
       rw[<-HV.out,HC2.out,show cutW torn U'[j].1=U'[j].1 from by unfold cutW;rw[if_neg (fun h=>ht1 h.2)]]
       exact(set_same (by rw[List.getElem?_map,List.getElem?_eq_getElem hjl];rfl)).symm)
      have HDAT:Hid (∀p∈U',RB w p.2.1 p.1.data/\(0<p.1.data.length->∀b,p.2.1.map (·.block)=some b->b≠g)/\p.1.ok):=qh fun p hp=>⟨(HUS.out p hp).1,(HUS.out p hp).2.1,(HUS.out p hp).2.2.1⟩
      have hVlen:U'.length<=1000000:=by omega
      generalize U'[j].1.data.length=kl at *
      generalize U'[j].2.1=kA at *
      generalize U'[j].2.2=kc at *
      clear hcs
      have hBx:=hB
      have HOx:=HO
      obtain⟨wx,hwx⟩:∃wx,wx=wr:=⟨_,rfl⟩
      obtain⟨Vf,hVf⟩:∃Vf,Vf=U':=⟨_,rfl⟩
      subst hwx hVf
      clear HC2 HUS HV hB HO
      have HRx:=qh (HR.out.below' hBx)
      have CL:=qh (diskClone wx HRx.out.si (fun k l hk=>by have:=HRx.out.ok.2.2.1 k l hk;omega))
      have c1:=HRx.out.blk.cell 1 rfl
      go_wp2_with fail
      refine CL.out.mono ?_
      rintro e w3 ⟨rfl,hf3,hb3⟩
      have HR3:=qh (HRx.out.below hb3)
      have c0:=HR3.out.blk.cell 0 rfl
      have f0:=HR3.out.blk.free 0
      obtain⟨m1,hm1⟩:∃m1,m1=wx.heap.size:=⟨_,rfl⟩
      have hgk4:∀b,b≠g->(w3.setCell ⟨g,0,none⟩ (.map (some m1))).heap[b]?=w3.heap[b]?:=fun b hb=>Below.heap_setCell _ _ _ b hb
      have HBK4:Hid (Blk (w3.setCell ⟨g,0,none⟩ (.map (some m1))) g 66 #[.map (some m1),.map (some ms),.slice A D.unsure.length c,.int .i64 D.room,.int .i64 D.fuse,.bool D.down]):=qh (HR3.out.blk.setCell 0 (.map (some m1)))
      have HFI4:Hid (FI (fun b=>w.heap.size<=b) (w3.setCell ⟨g,0,none⟩ (.map (some m1))) m1 D.sure):=qh (by
       rw[hm1]
       exact(hf3.mono fun b _ hb=>Nat.le_trans hBx.size hb.1).of_var HR3.out.blk (by decide) (by rw[<-hm1];exact hgk4))
      have HM4:Hid (Mods (fun b=>b=g) w (w3.setCell ⟨g,0,none⟩ (.map (some m1)))):=qh (Mods.setCell (S:=fun b=>b=g) (Mods.of_below (hBx.trans (hb3.mono hBx.size))) ⟨g,0,none⟩ (.inl rfl) _)
      have HO4:Hid (OR (w3.setCell ⟨g,0,none⟩ (.map (some m1))) w.heap.size 94 4 (some ⟨bs,0,none⟩) c' (Vf.map wrRow)):=qh ((HOx.out.below hb3).of_block fun b hb=>hgk4 b (by rintro rfl;exact(HOx.out.below hb3).ne_var HR3.out.blk (by decide) hb))
      have hm1l:w.heap.size<=m1:=by rw[hm1];exact hBx.size
      rw[<-hm1]
      have hVl:=hVlen
      clear CL c1 hf3 hb3 HR3 HRx hgk4 HOx hBx hm1
      go_wp2_with fail
      generalize w3.setCell ⟨g,0,none⟩ (.map (some m1))=w4 at *
      clear c0 f0
      go_loopw [78] (fun s78 wr=>∃k:Nat,k<=Vf.length/\s78=.int .i64 (k:Int)/\Hid (FI (fun b=>w.heap.size<=b) wr m1 (((Vf.take k).map Prod.fst).foldl doF D.sure))/\Hid (Blk wr g 66 #[.map (some m1),.map (some ms),.slice A D.unsure.length c,.int .i64 D.room,.int .i64 D.fuse,.bool D.down])/\Hid (Mods (fun b=>b=g) w wr)/\Hid (OR wr w.heap.size 94 4 (some ⟨bs,0,none⟩) c' (Vf.map wrRow))) (fun s78 _=>Vf.length - (intOf s78).toNat)
      case atStart=>exact⟨0,Nat.zero_le _,rfl,HFI4,HBK4,HM4,HO4⟩
      case round =>
       obtain⟨k,hk,rfl,HF,HB,HM,HO⟩:=hrel
       clear HFI4 HBK4 HM4 HO4
       by_cases hlt:k<Vf.length
       ·obtain⟨b,hBe,hbl,hcs⟩:=HO.out.wcells hlt
        injection hBe with hBe
        injection hBe with hBe
        subst hBe
        obtain⟨d0,d1,d2,d3⟩:=hcs wr rfl
        have HSN:Hid (((Vf.take (k+1)).map Prod.fst).foldl doF D.sure=doF (((Vf.take k).map Prod.fst).foldl doF D.sure) Vf[k].1):=qh (by
         rw[List.take_succ_eq_append_getElem hlt,List.map_append,List.foldl_append];rfl)
        obtain⟨hrb,hng,hok⟩:=HDAT.out _ (List.getElem_mem hlt)
        have HSM:Hid (∀n l,fget (((Vf.take k).map Prod.fst).foldl doF D.sure) n=some l->l.length<=140737488355328):=qh fun n l hl=>by
         have:=foldl_small (us:=(Vf.take k).map Prod.fst) HR.out.ok.2.2.1 (fun u hu=>by
          obtain⟨p,hp,rfl⟩:=List.mem_map.1 hu
          exact(HDAT.out p (List.mem_of_mem_take hp)).2.2) n l hl
         omega
        have HRB:=qh hrb
        have HNG:=qh hng
        have HOK:=qh hok
        generalize Vf[k]=uk at *
        obtain⟨⟨kk,kn,ko,kd⟩,kA,kc⟩:=uk
        simp only at d0 d1 d2 d3
        have hlt1:k+1<=Vf.length:=hlt
        have HZ:=qh (Blk.new wr #[.int .i64 0,.string ⟨#[]⟩,.int .i64 0,.slice none 0 0] 94)
        obtain⟨hba,hxa⟩:=below_row wr #[.int .i64 0,.string ⟨#[]⟩,.int .i64 0,.slice none 0 0] #[.int .i64 kk,.string ⟨kn.toArray⟩,.int .i64 (ko:Int),.slice kA kd.length kc] 94
        have HXA:=qh hxa
        have HFa:=qh (HF.out.below hba)
        have HBa:=qh (HB.out.kept hba)
        have HMa:=qh (HM.out.below hba)
        have HOa:=qh (HO.out.below hba)
        have hwrs:=HM.out.size
        clear hrb hng hok hcs hba hxa HF HB HM HO
        go_wp2_with (refine wpList_store_row rfl 94 (.tmp 12) (.tmp 81) rfl wr.heap.size #[.int .i64 kk,.string ⟨kn.toArray⟩,.int .i64 (ko:Int),.slice kA kd.length kc] rfl rfl _ _ HZ.out write_size rfl (by simp[Value.oneCell']) ?_)
        obtain⟨xb,hxb⟩:∃xb,xb=wr.heap.size:=⟨_,rfl⟩
        have HXB:=qh hxb
        generalize hwb:(wr.alloc (.cells #[.int .i64 0,.string ⟨#[]⟩,.int .i64 0,.slice none 0 0] 94)).setRow wr.heap.size #[.int .i64 kk,.string ⟨kn.toArray⟩,.int .i64 (ko:Int),.slice kA kd.length kc]=wb at *
        rw[<-hxb] at HXA ⊢
        clear hwb hxb HZ d0 d1 d2 d3
        refine wp_region_planE_gen (by kernel_rfl) [(0,none),(1,none),(2,none),(3,none),(4,none),(5,some [3,4])] (by kernel_rfl) (by kernel_rfl) (by decide) ?_
        intro wq hwq
        have hbq:Below wb.heap.size wb wq:=by rw[hwq];exact(Below.refl _ _).drew
        have HFq:=qh (HFa.out.below hbq)
        have HBq:=qh (HBa.out.kept hbq)
        have HMq:=qh (HMa.out.below hbq)
        have HOq:=qh (HOa.out.below hbq)
        have HXq:=qh (HXA.out.kept hbq)
        have c0:=HBq.out.cell 0 rfl
        have y0:=HXq.out.cell 0 rfl
        have y1:=HXq.out.cell 1 rfl
        have y2:=HXq.out.cell 2 rfl
        have y3:=HXq.out.cell 3 rfl
        have DO:=qh (diskDo wq HFq.out ⟨kk,kn,ko,kd⟩ kA kc (HRB.out.mods HMq.out (fun h0 b hb=>HNG.out h0 b hb)) HOK.out.1 (by have:=HOK.out.2;simp only at this ⊢;omega) (by have:=HOK.out.2;simp only at this ⊢;omega) HSM.out)
        unfold wrV at DO
        clear hwq hbq HFa HBa HMa HOa HXA
        iterate 3 (refine planE_pureA ?_)
        refine planE_cellsA [(⟨g,0,none⟩,.map (some m1))] ?_
        refine planE_cellsA [(⟨xb,0,none⟩,.int .i64 kk),(⟨xb,1,none⟩,.string ⟨kn.toArray⟩),(⟨xb,2,none⟩,.int .i64 (ko:Int)),(⟨xb,3,none⟩,.slice kA kd.length kc)] ?_
        refine planE_eff rfl (by rfl) (fun K hK=>?_)
        go_simp
        refine DO.out.mono ?_
        rintro e w5 ⟨rfl,hfi,hmm⟩
        obtain⟨es,hmap⟩:=HFq.out.at_
        have hgne:=HFq.out.blk_ne HBq.out
        have hxne:=HFq.out.blk_ne HXq.out
        have HB5:=qh (HBq.out.mods hmm (fun e=>hgne e.symm))
        have HX5:=qh (HXq.out.mods hmm (fun e=>hxne e.symm))
        have hqs:=HMq.out.size
        have HF5:=qh (hfi.mono (T:=fun b=>w.heap.size<=b) fun b _ hb=>by
         rcases hb with hb | hb
         ·exact hb
         ·exact Nat.le_trans hqs hb.1)
        have HO5:=qh (HOq.out.of_block (w':=w5) fun b hb=>hmm.block b (HOq.out.blk_lt b hb).2 (fun e=>by
         obtain⟨cs,hc⟩:=HOq.out.blk b hb
         exact hmap.ne_cells hc e.symm))
        have HM5:=qh (HMq.out.trans hmm (fun b hb=>.inr (by rw[hb];exact hm1l)))
        clear c0 y0 y1 y2 y3 DO hfi hmm hmap hgne hxne HFq HBq HMq HOq HXq
        have c0:=HB5.out.cell 0 rfl
        have y0:=HX5.out.cell 0 rfl
        have y1:=HX5.out.cell 1 rfl
        have y2:=HX5.out.cell 2 rfl
        have y3:=HX5.out.cell 3 rfl
        refine planE_ownA hK ?_
        clear hK K
        refine planE_end ?_
        have HFN:Hid (FI (fun b=>w.heap.size<=b) w5 m1 (((Vf.take (k+1)).map Prod.fst).foldl doF D.sure)):=qh (by rw[HSN.out];exact HF5.out)
        clear c0 y0 y1 y2 y3 HF5 HSN HX5 HRB HNG HOK HSM
        go_wp2_with fail
        go_roundw
        case rel=>exact⟨k+1,hlt1,by go_num,HFN,HB5,HM5,HO5⟩
        case measure=>simp[intOf];omega
       ·obtain rfl:k=Vf.length:=by omega
        have HFE:Hid (FI (fun b=>w.heap.size<=b) wr m1 (fallD D mask torn).sure):=qh (by
         have:=HF.out
         rw[List.take_of_length_le (Nat.le_refl _),HVF.out] at this
         exact this)
        have HSMF:Hid (∀n l,fget (fallD D mask torn).sure n=some l->l.length<=4194304):=qh fun n l hl=>by
         refine foldl_small (us:=fallUs mask torn D.unsure) HR.out.ok.2.2.1 (fun u hu=>?_) n l hl
         rw[<-HVF.out] at hu
         obtain⟨p,hp,rfl⟩:=List.mem_map.1 hu
         exact(HDAT.out p hp).2.2
        have CL:=qh (diskClone wr HFE.out (fun n l hl=>by have:=HSMF.out n l hl;omega))
        have c0:=HB.out.cell 0 rfl
        have hmg:=HR.out.sg
        clear HF HO HDAT HVF
        go_wp2_with fail
        refine CL.out.mono ?_
        rintro e w5 ⟨rfl,hf5,hb5⟩
        have hB5:=HB.out.kept hb5
        have f1:=hB5.free 1
        have f2:=hB5.free 2
        have f4:=hB5.free 4
        have f5:=hB5.free 5
        have e1:=hB5.cell 1 rfl
        have e2:=hB5.cell 2 rfl
        have e4:=hB5.cell 4 rfl
        have e5:=hB5.cell 5 rfl
        have HFIN:Hid (PDone S w g (fallD D mask torn) (.int .i64 0) (.returned (.int .i64 0)) ((((w5.setCell ⟨g,1,none⟩ (.map (some wr.heap.size))).setCell ⟨g,2,none⟩ (.slice none 0 0)).setCell ⟨g,4,none⟩ (.int .i64 0)).setCell ⟨g,5,none⟩ (.bool false))):=qh (by
         have hkb:∀b,b≠g->((((w5.setCell ⟨g,1,none⟩ (.map (some wr.heap.size))).setCell ⟨g,2,none⟩ (.slice none 0 0)).setCell ⟨g,4,none⟩ (.int .i64 0)).setCell ⟨g,5,none⟩ (.bool false)).heap[b]?=w5.heap[b]?:=fun b hb=>by
          rw[Below.heap_setCell _ _ _ b hb,Below.heap_setCell _ _ _ b hb,Below.heap_setCell _ _ _ b hb,Below.heap_setCell _ _ _ b hb]
         have hsz:((((w5.setCell ⟨g,1,none⟩ (.map (some wr.heap.size))).setCell ⟨g,2,none⟩ (.slice none 0 0)).setCell ⟨g,4,none⟩ (.int .i64 0)).setCell ⟨g,5,none⟩ (.bool false)).heap.size=w5.heap.size:=by simp
         have hbk:=(((hB5.setCell 1 (.map (some wr.heap.size))).setCell 2 (.slice none 0 0)).setCell 4 (.int .i64 0)).setCell 5 (.bool false)
         have hs1:=HM.out.size
         have hs5:=hb5.size
         have hT:∀b,b<w5.heap.size->w.heap.size<=b->Sx S w ((((w5.setCell ⟨g,1,none⟩ (.map (some wr.heap.size))).setCell ⟨g,2,none⟩ (.slice none 0 0)).setCell ⟨g,4,none⟩ (.int .i64 0)).setCell ⟨g,5,none⟩ (.bool false)) b:=fun b h1 h2=>.inr ⟨h2,by rw[hsz];exact h1⟩
         have hml:m1<wr.heap.size:=by obtain⟨es,hm⟩:=HFE.out.at_;exact hm.lt
         refine⟨rfl,⟨m1,wr.heap.size,none,0,hbk,?_,?_,by omega,UI.nil _ _,.inl hmg,⟨HR.out.ok.1,by simp[fallD],HSMF.out,by simp[fallD]⟩,fun b hb=>?_⟩,?_⟩
         ·exact((HFE.out.below hb5).mono hT).of_var hB5 (by decide) hkb
         ·exact(hf5.mono fun b h1 h2=>hT b h1 (Nat.le_trans hs1 h2.1)).of_var hB5 (by decide) hkb
         ·rcases hb with hb | hb
          ·have:=HR.out.bnd b hb;rw[hsz];omega
          ·exact hb.2
         ·have h0:=Mods.below HM.out hb5
          have h1:Mods S w w5:=h0.mono fun b _ hb=>by rw[hb];exact hmg
          exact(((h1.setCell _ (.inl hmg) _).setCell _ (.inl hmg) _).setCell _ (.inl hmg) _).setCell _ (.inl hmg) _)
        clear hf5 hb5 hB5 HB HM HFE HSMF CL c0
        go_wp2_with fail
        go_ret
        exact HFIN.out
    ·obtain⟨bs,hBe,hbl,hcs⟩:=HO.out.wcells hjl
     subst hBe
     have HVF:Hid (U'.map Prod.fst=fallUs mask torn D.unsure):=qh (by
      unfold fallUs
      rw[<-HV.out,HC2.out,show cutW torn U'[j].1=U'[j].1 from by unfold cutW;rw[if_neg (fun h=>ht0 h.1)]]
      exact(set_same (by rw[List.getElem?_map,List.getElem?_eq_getElem hjl];rfl)).symm)
     have HDAT:Hid (∀p∈U',RB w p.2.1 p.1.data/\(0<p.1.data.length->∀b,p.2.1.map (·.block)=some b->b≠g)/\p.1.ok):=qh fun p hp=>⟨(HUS.out p hp).1,(HUS.out p hp).2.1,(HUS.out p hp).2.2.1⟩
     have hVlen:U'.length<=1000000:=by omega
     clear hcs
     have hBx:=hB
     have HOx:=HO
     obtain⟨wx,hwx⟩:∃wx,wx=wr:=⟨_,rfl⟩
     obtain⟨Vf,hVf⟩:∃Vf,Vf=U':=⟨_,rfl⟩
     subst hwx hVf
     clear HC2 HUS HV hB HO
     have HRx:=qh (HR.out.below' hBx)
     have CL:=qh (diskClone wx HRx.out.si (fun k l hk=>by have:=HRx.out.ok.2.2.1 k l hk;omega))
     have c1:=HRx.out.blk.cell 1 rfl
     go_wp2_with fail
     refine CL.out.mono ?_
     rintro e w3 ⟨rfl,hf3,hb3⟩
     have HR3:=qh (HRx.out.below hb3)
     have c0:=HR3.out.blk.cell 0 rfl
     have f0:=HR3.out.blk.free 0
     obtain⟨m1,hm1⟩:∃m1,m1=wx.heap.size:=⟨_,rfl⟩
     have hgk4:∀b,b≠g->(w3.setCell ⟨g,0,none⟩ (.map (some m1))).heap[b]?=w3.heap[b]?:=fun b hb=>Below.heap_setCell _ _ _ b hb
     have HBK4:Hid (Blk (w3.setCell ⟨g,0,none⟩ (.map (some m1))) g 66 #[.map (some m1),.map (some ms),.slice A D.unsure.length c,.int .i64 D.room,.int .i64 D.fuse,.bool D.down]):=qh (HR3.out.blk.setCell 0 (.map (some m1)))
     have HFI4:Hid (FI (fun b=>w.heap.size<=b) (w3.setCell ⟨g,0,none⟩ (.map (some m1))) m1 D.sure):=qh (by
      rw[hm1]
      exact(hf3.mono fun b _ hb=>Nat.le_trans hBx.size hb.1).of_var HR3.out.blk (by decide) (by rw[<-hm1];exact hgk4))
     have HM4:Hid (Mods (fun b=>b=g) w (w3.setCell ⟨g,0,none⟩ (.map (some m1)))):=qh (Mods.setCell (S:=fun b=>b=g) (Mods.of_below (hBx.trans (hb3.mono hBx.size))) ⟨g,0,none⟩ (.inl rfl) _)
     have HO4:Hid (OR (w3.setCell ⟨g,0,none⟩ (.map (some m1))) w.heap.size 94 4 (some ⟨bs,0,none⟩) c' (Vf.map wrRow)):=qh ((HOx.out.below hb3).of_block fun b hb=>hgk4 b (by rintro rfl;exact(HOx.out.below hb3).ne_var HR3.out.blk (by decide) hb))
     have hm1l:w.heap.size<=m1:=by rw[hm1];exact hBx.size
     rw[<-hm1]
     have hVl:=hVlen
     clear CL c1 hf3 hb3 HR3 HRx hgk4 HOx hBx hm1
     go_wp2_with fail
     generalize w3.setCell ⟨g,0,none⟩ (.map (some m1))=w4 at *
     clear c0 f0
     go_loopw [78] (fun s78 wr=>∃k:Nat,k<=Vf.length/\s78=.int .i64 (k:Int)/\Hid (FI (fun b=>w.heap.size<=b) wr m1 (((Vf.take k).map Prod.fst).foldl doF D.sure))/\Hid (Blk wr g 66 #[.map (some m1),.map (some ms),.slice A D.unsure.length c,.int .i64 D.room,.int .i64 D.fuse,.bool D.down])/\Hid (Mods (fun b=>b=g) w wr)/\Hid (OR wr w.heap.size 94 4 (some ⟨bs,0,none⟩) c' (Vf.map wrRow))) (fun s78 _=>Vf.length - (intOf s78).toNat)
     case atStart=>exact⟨0,Nat.zero_le _,rfl,HFI4,HBK4,HM4,HO4⟩
     case round =>
      obtain⟨k,hk,rfl,HF,HB,HM,HO⟩:=hrel
      clear HFI4 HBK4 HM4 HO4
      by_cases hlt:k<Vf.length
      ·obtain⟨b,hBe,hbl,hcs⟩:=HO.out.wcells hlt
       injection hBe with hBe
       injection hBe with hBe
       subst hBe
       obtain⟨d0,d1,d2,d3⟩:=hcs wr rfl
       have HSN:Hid (((Vf.take (k+1)).map Prod.fst).foldl doF D.sure=doF (((Vf.take k).map Prod.fst).foldl doF D.sure) Vf[k].1):=qh (by
        rw[List.take_succ_eq_append_getElem hlt,List.map_append,List.foldl_append];rfl)
       obtain⟨hrb,hng,hok⟩:=HDAT.out _ (List.getElem_mem hlt)
       have HSM:Hid (∀n l,fget (((Vf.take k).map Prod.fst).foldl doF D.sure) n=some l->l.length<=140737488355328):=qh fun n l hl=>by
        have:=foldl_small (us:=(Vf.take k).map Prod.fst) HR.out.ok.2.2.1 (fun u hu=>by
         obtain⟨p,hp,rfl⟩:=List.mem_map.1 hu
         exact(HDAT.out p (List.mem_of_mem_take hp)).2.2) n l hl
        omega
       have HRB:=qh hrb
       have HNG:=qh hng
       have HOK:=qh hok
       generalize Vf[k]=uk at *
       obtain⟨⟨kk,kn,ko,kd⟩,kA,kc⟩:=uk
       simp only at d0 d1 d2 d3
       have hlt1:k+1<=Vf.length:=hlt
       have HZ:=qh (Blk.new wr #[.int .i64 0,.string ⟨#[]⟩,.int .i64 0,.slice none 0 0] 94)
       obtain⟨hba,hxa⟩:=below_row wr #[.int .i64 0,.string ⟨#[]⟩,.int .i64 0,.slice none 0 0] #[.int .i64 kk,.string ⟨kn.toArray⟩,.int .i64 (ko:Int),.slice kA kd.length kc] 94
       have HXA:=qh hxa
       have HFa:=qh (HF.out.below hba)
       have HBa:=qh (HB.out.kept hba)
       have HMa:=qh (HM.out.below hba)
       have HOa:=qh (HO.out.below hba)
       have hwrs:=HM.out.size
       clear hrb hng hok hcs hba hxa HF HB HM HO
       go_wp2_with (refine wpList_store_row rfl 94 (.tmp 12) (.tmp 81) rfl wr.heap.size #[.int .i64 kk,.string ⟨kn.toArray⟩,.int .i64 (ko:Int),.slice kA kd.length kc] rfl rfl _ _ HZ.out write_size rfl (by simp[Value.oneCell']) ?_)
       obtain⟨xb,hxb⟩:∃xb,xb=wr.heap.size:=⟨_,rfl⟩
       have HXB:=qh hxb
       generalize hwb:(wr.alloc (.cells #[.int .i64 0,.string ⟨#[]⟩,.int .i64 0,.slice none 0 0] 94)).setRow wr.heap.size #[.int .i64 kk,.string ⟨kn.toArray⟩,.int .i64 (ko:Int),.slice kA kd.length kc]=wb at *
       rw[<-hxb] at HXA ⊢
       clear hwb hxb HZ d0 d1 d2 d3
       refine wp_region_planE_gen (by kernel_rfl) [(0,none),(1,none),(2,none),(3,none),(4,none),(5,some [3,4])] (by kernel_rfl) (by kernel_rfl) (by decide) ?_
       intro wq hwq
       have hbq:Below wb.heap.size wb wq:=by rw[hwq];exact(Below.refl _ _).drew
       have HFq:=qh (HFa.out.below hbq)
       have HBq:=qh (HBa.out.kept hbq)
       have HMq:=qh (HMa.out.below hbq)
       have HOq:=qh (HOa.out.below hbq)
       have HXq:=qh (HXA.out.kept hbq)
       have c0:=HBq.out.cell 0 rfl
       have y0:=HXq.out.cell 0 rfl
       have y1:=HXq.out.cell 1 rfl
       have y2:=HXq.out.cell 2 rfl
       have y3:=HXq.out.cell 3 rfl
       have DO:=qh (diskDo wq HFq.out ⟨kk,kn,ko,kd⟩ kA kc (HRB.out.mods HMq.out (fun h0 b hb=>HNG.out h0 b hb)) HOK.out.1 (by have:=HOK.out.2;simp only at this ⊢;omega) (by have:=HOK.out.2;simp only at this ⊢;omega) HSM.out)
       unfold wrV at DO
       clear hwq hbq HFa HBa HMa HOa HXA
       iterate 3 (refine planE_pureA ?_)
       refine planE_cellsA [(⟨g,0,none⟩,.map (some m1))] ?_
       refine planE_cellsA [(⟨xb,0,none⟩,.int .i64 kk),(⟨xb,1,none⟩,.string ⟨kn.toArray⟩),(⟨xb,2,none⟩,.int .i64 (ko:Int)),(⟨xb,3,none⟩,.slice kA kd.length kc)] ?_
       refine planE_eff rfl (by rfl) (fun K hK=>?_)
       go_simp
       refine DO.out.mono ?_
       rintro e w5 ⟨rfl,hfi,hmm⟩
       obtain⟨es,hmap⟩:=HFq.out.at_
       have hgne:=HFq.out.blk_ne HBq.out
       have hxne:=HFq.out.blk_ne HXq.out
       have HB5:=qh (HBq.out.mods hmm (fun e=>hgne e.symm))
       have HX5:=qh (HXq.out.mods hmm (fun e=>hxne e.symm))
       have hqs:=HMq.out.size
       have HF5:=qh (hfi.mono (T:=fun b=>w.heap.size<=b) fun b _ hb=>by
        rcases hb with hb | hb
        ·exact hb
        ·exact Nat.le_trans hqs hb.1)
       have HO5:=qh (HOq.out.of_block (w':=w5) fun b hb=>hmm.block b (HOq.out.blk_lt b hb).2 (fun e=>by
        obtain⟨cs,hc⟩:=HOq.out.blk b hb
        exact hmap.ne_cells hc e.symm))
       have HM5:=qh (HMq.out.trans hmm (fun b hb=>.inr (by rw[hb];exact hm1l)))
       clear c0 y0 y1 y2 y3 DO hfi hmm hmap hgne hxne HFq HBq HMq HOq HXq
       have c0:=HB5.out.cell 0 rfl
       have y0:=HX5.out.cell 0 rfl
       have y1:=HX5.out.cell 1 rfl
       have y2:=HX5.out.cell 2 rfl
       have y3:=HX5.out.cell 3 rfl
       refine planE_ownA hK ?_
       clear hK K
       refine planE_end ?_
       have HFN:Hid (FI (fun b=>w.heap.size<=b) w5 m1 (((Vf.take (k+1)).map Prod.fst).foldl doF D.sure)):=qh (by rw[HSN.out];exact HF5.out)
       clear c0 y0 y1 y2 y3 HF5 HSN HX5 HRB HNG HOK HSM
       go_wp2_with fail
       go_roundw
       case rel=>exact⟨k+1,hlt1,by go_num,HFN,HB5,HM5,HO5⟩
       case measure=>simp[intOf];omega
      ·obtain rfl:k=Vf.length:=by omega
       have HFE:Hid (FI (fun b=>w.heap.size<=b) wr m1 (fallD D mask torn).sure):=qh (by
        have:=HF.out
        rw[List.take_of_length_le (Nat.le_refl _),HVF.out] at this
        exact this)
       have HSMF:Hid (∀n l,fget (fallD D mask torn).sure n=some l->l.length<=4194304):=qh fun n l hl=>by
        refine foldl_small (us:=fallUs mask torn D.unsure) HR.out.ok.2.2.1 (fun u hu=>?_) n l hl
        rw[<-HVF.out] at hu
        obtain⟨p,hp,rfl⟩:=List.mem_map.1 hu
        exact(HDAT.out p hp).2.2
       have CL:=qh (diskClone wr HFE.out (fun n l hl=>by have:=HSMF.out n l hl;omega))
       have c0:=HB.out.cell 0 rfl
       have hmg:=HR.out.sg
       clear HF HO HDAT HVF
       go_wp2_with fail
       refine CL.out.mono ?_
       rintro e w5 ⟨rfl,hf5,hb5⟩
       have hB5:=HB.out.kept hb5
       have f1:=hB5.free 1
       have f2:=hB5.free 2
       have f4:=hB5.free 4
       have f5:=hB5.free 5
       have e1:=hB5.cell 1 rfl
       have e2:=hB5.cell 2 rfl
       have e4:=hB5.cell 4 rfl
       have e5:=hB5.cell 5 rfl
       have HFIN:Hid (PDone S w g (fallD D mask torn) (.int .i64 0) (.returned (.int .i64 0)) ((((w5.setCell ⟨g,1,none⟩ (.map (some wr.heap.size))).setCell ⟨g,2,none⟩ (.slice none 0 0)).setCell ⟨g,4,none⟩ (.int .i64 0)).setCell ⟨g,5,none⟩ (.bool false))):=qh (by
        have hkb:∀b,b≠g->((((w5.setCell ⟨g,1,none⟩ (.map (some wr.heap.size))).setCell ⟨g,2,none⟩ (.slice none 0 0)).setCell ⟨g,4,none⟩ (.int .i64 0)).setCell ⟨g,5,none⟩ (.bool false)).heap[b]?=w5.heap[b]?:=fun b hb=>by
         rw[Below.heap_setCell _ _ _ b hb,Below.heap_setCell _ _ _ b hb,Below.heap_setCell _ _ _ b hb,Below.heap_setCell _ _ _ b hb]
        have hsz:((((w5.setCell ⟨g,1,none⟩ (.map (some wr.heap.size))).setCell ⟨g,2,none⟩ (.slice none 0 0)).setCell ⟨g,4,none⟩ (.int .i64 0)).setCell ⟨g,5,none⟩ (.bool false)).heap.size=w5.heap.size:=by simp
        have hbk:=(((hB5.setCell 1 (.map (some wr.heap.size))).setCell 2 (.slice none 0 0)).setCell 4 (.int .i64 0)).setCell 5 (.bool false)
        have hs1:=HM.out.size
        have hs5:=hb5.size
        have hT:∀b,b<w5.heap.size->w.heap.size<=b->Sx S w ((((w5.setCell ⟨g,1,none⟩ (.map (some wr.heap.size))).setCell ⟨g,2,none⟩ (.slice none 0 0)).setCell ⟨g,4,none⟩ (.int .i64 0)).setCell ⟨g,5,none⟩ (.bool false)) b:=fun b h1 h2=>.inr ⟨h2,by rw[hsz];exact h1⟩
        have hml:m1<wr.heap.size:=by obtain⟨es,hm⟩:=HFE.out.at_;exact hm.lt
        refine⟨rfl,⟨m1,wr.heap.size,none,0,hbk,?_,?_,by omega,UI.nil _ _,.inl hmg,⟨HR.out.ok.1,by simp[fallD],HSMF.out,by simp[fallD]⟩,fun b hb=>?_⟩,?_⟩
        ·exact((HFE.out.below hb5).mono hT).of_var hB5 (by decide) hkb
        ·exact(hf5.mono fun b h1 h2=>hT b h1 (Nat.le_trans hs1 h2.1)).of_var hB5 (by decide) hkb
        ·rcases hb with hb | hb
         ·have:=HR.out.bnd b hb;rw[hsz];omega
         ·exact hb.2
        ·have h0:=Mods.below HM.out hb5
         have h1:Mods S w w5:=h0.mono fun b _ hb=>by rw[hb];exact hmg
         exact(((h1.setCell _ (.inl hmg) _).setCell _ (.inl hmg) _).setCell _ (.inl hmg) _).setCell _ (.inl hmg) _)
       clear hf5 hb5 hB5 HB HM HFE HSMF CL c0
       go_wp2_with fail
       go_ret
       exact HFIN.out
   ·have hln:lastIx (U'.map Prod.fst)=-1:=by omega
    have HVF:Hid (U'.map Prod.fst=fallUs mask torn D.unsure):=qh (by
     unfold fallUs
     rw[<-HV.out,HCUT.out,dif_neg (fun h=>hli h.1)])
    rw[hln]
    have HDAT:Hid (∀p∈U',RB w p.2.1 p.1.data/\(0<p.1.data.length->∀b,p.2.1.map (·.block)=some b->b≠g)/\p.1.ok):=qh fun p hp=>⟨(HUS.out p hp).1,(HUS.out p hp).2.1,(HUS.out p hp).2.2.1⟩
    have hVlen:U'.length<=1000000:=by omega
    have hBx:=hB
    have HOx:=HO
    obtain⟨wx,hwx⟩:∃wx,wx=wr:=⟨_,rfl⟩
    obtain⟨Vf,hVf⟩:∃Vf,Vf=U':=⟨_,rfl⟩
    subst hwx hVf
    clear HCUT HLS HLN hlb hli hln HUS HV hB HO
    have HRx:=qh (HR.out.below' hBx)
    have CL:=qh (diskClone wx HRx.out.si (fun k l hk=>by have:=HRx.out.ok.2.2.1 k l hk;omega))
    have c1:=HRx.out.blk.cell 1 rfl
    go_wp2_with fail
    refine CL.out.mono ?_
    rintro e w3 ⟨rfl,hf3,hb3⟩
    have HR3:=qh (HRx.out.below hb3)
    have c0:=HR3.out.blk.cell 0 rfl
    have f0:=HR3.out.blk.free 0
    obtain⟨m1,hm1⟩:∃m1,m1=wx.heap.size:=⟨_,rfl⟩
    have hgk4:∀b,b≠g->(w3.setCell ⟨g,0,none⟩ (.map (some m1))).heap[b]?=w3.heap[b]?:=fun b hb=>Below.heap_setCell _ _ _ b hb
    have HBK4:Hid (Blk (w3.setCell ⟨g,0,none⟩ (.map (some m1))) g 66 #[.map (some m1),.map (some ms),.slice A D.unsure.length c,.int .i64 D.room,.int .i64 D.fuse,.bool D.down]):=qh (HR3.out.blk.setCell 0 (.map (some m1)))
    have HFI4:Hid (FI (fun b=>w.heap.size<=b) (w3.setCell ⟨g,0,none⟩ (.map (some m1))) m1 D.sure):=qh (by
     rw[hm1]
     exact(hf3.mono fun b _ hb=>Nat.le_trans hBx.size hb.1).of_var HR3.out.blk (by decide) (by rw[<-hm1];exact hgk4))
    have HM4:Hid (Mods (fun b=>b=g) w (w3.setCell ⟨g,0,none⟩ (.map (some m1)))):=qh (Mods.setCell (S:=fun b=>b=g) (Mods.of_below (hBx.trans (hb3.mono hBx.size))) ⟨g,0,none⟩ (.inl rfl) _)
    have HO4:Hid (OR (w3.setCell ⟨g,0,none⟩ (.map (some m1))) w.heap.size 94 4 A' c' (Vf.map wrRow)):=qh ((HOx.out.below hb3).of_block fun b hb=>hgk4 b (by rintro rfl;exact(HOx.out.below hb3).ne_var HR3.out.blk (by decide) hb))
    have hm1l:w.heap.size<=m1:=by rw[hm1];exact hBx.size
    rw[<-hm1]
    have hVl:=hVlen
    clear CL c1 hf3 hb3 HR3 HRx hgk4 HOx hBx hm1
    go_wp2_with fail
    generalize w3.setCell ⟨g,0,none⟩ (.map (some m1))=w4 at *
    clear c0 f0
    go_loopw [78] (fun s78 wr=>∃k:Nat,k<=Vf.length/\s78=.int .i64 (k:Int)/\Hid (FI (fun b=>w.heap.size<=b) wr m1 (((Vf.take k).map Prod.fst).foldl doF D.sure))/\Hid (Blk wr g 66 #[.map (some m1),.map (some ms),.slice A D.unsure.length c,.int .i64 D.room,.int .i64 D.fuse,.bool D.down])/\Hid (Mods (fun b=>b=g) w wr)/\Hid (OR wr w.heap.size 94 4 A' c' (Vf.map wrRow))) (fun s78 _=>Vf.length - (intOf s78).toNat)
    case atStart=>exact⟨0,Nat.zero_le _,rfl,HFI4,HBK4,HM4,HO4⟩
    case round =>
     obtain⟨k,hk,rfl,HF,HB,HM,HO⟩:=hrel
     clear HFI4 HBK4 HM4 HO4
     by_cases hlt:k<Vf.length
     ·obtain⟨b,hBe,hbl,hcs⟩:=HO.out.wcells hlt
      subst hBe
      obtain⟨d0,d1,d2,d3⟩:=hcs wr rfl
      have HSN:Hid (((Vf.take (k+1)).map Prod.fst).foldl doF D.sure=doF (((Vf.take k).map Prod.fst).foldl doF D.sure) Vf[k].1):=qh (by
       rw[List.take_succ_eq_append_getElem hlt,List.map_append,List.foldl_append];rfl)
      obtain⟨hrb,hng,hok⟩:=HDAT.out _ (List.getElem_mem hlt)
      have HSM:Hid (∀n l,fget (((Vf.take k).map Prod.fst).foldl doF D.sure) n=some l->l.length<=140737488355328):=qh fun n l hl=>by
       have:=foldl_small (us:=(Vf.take k).map Prod.fst) HR.out.ok.2.2.1 (fun u hu=>by
        obtain⟨p,hp,rfl⟩:=List.mem_map.1 hu
        exact(HDAT.out p (List.mem_of_mem_take hp)).2.2) n l hl
       omega
      have HRB:=qh hrb
      have HNG:=qh hng
      have HOK:=qh hok
      generalize Vf[k]=uk at *
      obtain⟨⟨kk,kn,ko,kd⟩,kA,kc⟩:=uk
      simp only at d0 d1 d2 d3
      have hlt1:k+1<=Vf.length:=hlt
      have HZ:=qh (Blk.new wr #[.int .i64 0,.string ⟨#[]⟩,.int .i64 0,.slice none 0 0] 94)
      obtain⟨hba,hxa⟩:=below_row wr #[.int .i64 0,.string ⟨#[]⟩,.int .i64 0,.slice none 0 0] #[.int .i64 kk,.string ⟨kn.toArray⟩,.int .i64 (ko:Int),.slice kA kd.length kc] 94
      have HXA:=qh hxa
      have HFa:=qh (HF.out.below hba)
      have HBa:=qh (HB.out.kept hba)
      have HMa:=qh (HM.out.below hba)
      have HOa:=qh (HO.out.below hba)
      have hwrs:=HM.out.size
      clear hrb hng hok hcs hba hxa HF HB HM HO
      go_wp2_with (refine wpList_store_row rfl 94 (.tmp 12) (.tmp 81) rfl wr.heap.size #[.int .i64 kk,.string ⟨kn.toArray⟩,.int .i64 (ko:Int),.slice kA kd.length kc] rfl rfl _ _ HZ.out write_size rfl (by simp[Value.oneCell']) ?_)
      obtain⟨xb,hxb⟩:∃xb,xb=wr.heap.size:=⟨_,rfl⟩
      have HXB:=qh hxb
      generalize hwb:(wr.alloc (.cells #[.int .i64 0,.string ⟨#[]⟩,.int .i64 0,.slice none 0 0] 94)).setRow wr.heap.size #[.int .i64 kk,.string ⟨kn.toArray⟩,.int .i64 (ko:Int),.slice kA kd.length kc]=wb at *
      rw[<-hxb] at HXA ⊢
      clear hwb hxb HZ d0 d1 d2 d3
      refine wp_region_planE_gen (by kernel_rfl) [(0,none),(1,none),(2,none),(3,none),(4,none),(5,some [3,4])] (by kernel_rfl) (by kernel_rfl) (by decide) ?_
      intro wq hwq
      have hbq:Below wb.heap.size wb wq:=by rw[hwq];exact(Below.refl _ _).drew
      have HFq:=qh (HFa.out.below hbq)
      have HBq:=qh (HBa.out.kept hbq)
      have HMq:=qh (HMa.out.below hbq)
      have HOq:=qh (HOa.out.below hbq)
      have HXq:=qh (HXA.out.kept hbq)
      have c0:=HBq.out.cell 0 rfl
      have y0:=HXq.out.cell 0 rfl
      have y1:=HXq.out.cell 1 rfl
      have y2:=HXq.out.cell 2 rfl
      have y3:=HXq.out.cell 3 rfl
      have DO:=qh (diskDo wq HFq.out ⟨kk,kn,ko,kd⟩ kA kc (HRB.out.mods HMq.out (fun h0 b hb=>HNG.out h0 b hb)) HOK.out.1 (by have:=HOK.out.2;simp only at this ⊢;omega) (by have:=HOK.out.2;simp only at this ⊢;omega) HSM.out)
      unfold wrV at DO
      clear hwq hbq HFa HBa HMa HOa HXA
      iterate 3 (refine planE_pureA ?_)
      refine planE_cellsA [(⟨g,0,none⟩,.map (some m1))] ?_
      refine planE_cellsA [(⟨xb,0,none⟩,.int .i64 kk),(⟨xb,1,none⟩,.string ⟨kn.toArray⟩),(⟨xb,2,none⟩,.int .i64 (ko:Int)),(⟨xb,3,none⟩,.slice kA kd.length kc)] ?_
      refine planE_eff rfl (by rfl) (fun K hK=>?_)
      go_simp
      refine DO.out.mono ?_
      rintro e w5 ⟨rfl,hfi,hmm⟩
      obtain⟨es,hmap⟩:=HFq.out.at_
      have hgne:=HFq.out.blk_ne HBq.out
      have hxne:=HFq.out.blk_ne HXq.out
      have HB5:=qh (HBq.out.mods hmm (fun e=>hgne e.symm))
      have HX5:=qh (HXq.out.mods hmm (fun e=>hxne e.symm))
      have hqs:=HMq.out.size
      have HF5:=qh (hfi.mono (T:=fun b=>w.heap.size<=b) fun b _ hb=>by
       rcases hb with hb | hb
       ·exact hb
       ·exact Nat.le_trans hqs hb.1)
      have HO5:=qh (HOq.out.of_block (w':=w5) fun b hb=>hmm.block b (HOq.out.blk_lt b hb).2 (fun e=>by
       obtain⟨cs,hc⟩:=HOq.out.blk b hb
       exact hmap.ne_cells hc e.symm))
      have HM5:=qh (HMq.out.trans hmm (fun b hb=>.inr (by rw[hb];exact hm1l)))
      clear c0 y0 y1 y2 y3 DO hfi hmm hmap hgne hxne HFq HBq HMq HOq HXq
      have c0:=HB5.out.cell 0 rfl
      have y0:=HX5.out.cell 0 rfl
      have y1:=HX5.out.cell 1 rfl
      have y2:=HX5.out.cell 2 rfl
      have y3:=HX5.out.cell 3 rfl
      refine planE_ownA hK ?_
      clear hK K
      refine planE_end ?_
      have HFN:Hid (FI (fun b=>w.heap.size<=b) w5 m1 (((Vf.take (k+1)).map Prod.fst).foldl doF D.sure)):=qh (by rw[HSN.out];exact HF5.out)
      clear c0 y0 y1 y2 y3 HF5 HSN HX5 HRB HNG HOK HSM
      go_wp2_with fail
      go_roundw
      case rel=>exact⟨k+1,hlt1,by go_num,HFN,HB5,HM5,HO5⟩
      case measure=>simp[intOf];omega
     ·obtain rfl:k=Vf.length:=by omega
      have HFE:Hid (FI (fun b=>w.heap.size<=b) wr m1 (fallD D mask torn).sure):=qh (by
       have:=HF.out
       rw[List.take_of_length_le (Nat.le_refl _),HVF.out] at this
       exact this)
      have HSMF:Hid (∀n l,fget (fallD D mask torn).sure n=some l->l.length<=4194304):=qh fun n l hl=>by
       refine foldl_small (us:=fallUs mask torn D.unsure) HR.out.ok.2.2.1 (fun u hu=>?_) n l hl
       rw[<-HVF.out] at hu
       obtain⟨p,hp,rfl⟩:=List.mem_map.1 hu
       exact(HDAT.out p hp).2.2
      have CL:=qh (diskClone wr HFE.out (fun n l hl=>by have:=HSMF.out n l hl;omega))
      have c0:=HB.out.cell 0 rfl
      have hmg:=HR.out.sg
      clear HF HO HDAT HVF
      go_wp2_with fail
      refine CL.out.mono ?_
      rintro e w5 ⟨rfl,hf5,hb5⟩
      have hB5:=HB.out.kept hb5
      have f1:=hB5.free 1
      have f2:=hB5.free 2
      have f4:=hB5.free 4
      have f5:=hB5.free 5
      have e1:=hB5.cell 1 rfl
      have e2:=hB5.cell 2 rfl
      have e4:=hB5.cell 4 rfl
      have e5:=hB5.cell 5 rfl
      have HFIN:Hid (PDone S w g (fallD D mask torn) (.int .i64 0) (.returned (.int .i64 0)) ((((w5.setCell ⟨g,1,none⟩ (.map (some wr.heap.size))).setCell ⟨g,2,none⟩ (.slice none 0 0)).setCell ⟨g,4,none⟩ (.int .i64 0)).setCell ⟨g,5,none⟩ (.bool false))):=qh (by
       have hkb:∀b,b≠g->((((w5.setCell ⟨g,1,none⟩ (.map (some wr.heap.size))).setCell ⟨g,2,none⟩ (.slice none 0 0)).setCell ⟨g,4,none⟩ (.int .i64 0)).setCell ⟨g,5,none⟩ (.bool false)).heap[b]?=w5.heap[b]?:=fun b hb=>by
        rw[Below.heap_setCell _ _ _ b hb,Below.heap_setCell _ _ _ b hb,Below.heap_setCell _ _ _ b hb,Below.heap_setCell _ _ _ b hb]
       have hsz:((((w5.setCell ⟨g,1,none⟩ (.map (some wr.heap.size))).setCell ⟨g,2,none⟩ (.slice none 0 0)).setCell ⟨g,4,none⟩ (.int .i64 0)).setCell ⟨g,5,none⟩ (.bool false)).heap.size=w5.heap.size:=by simp
       have hbk:=(((hB5.setCell 1 (.map (some wr.heap.size))).setCell 2 (.slice none 0 0)).setCell 4 (.int .i64 0)).setCell 5 (.bool false)
       have hs1:=HM.out.size
       have hs5:=hb5.size
       have hT:∀b,b<w5.heap.size->w.heap.size<=b->Sx S w ((((w5.setCell ⟨g,1,none⟩ (.map (some wr.heap.size))).setCell ⟨g,2,none⟩ (.slice none 0 0)).setCell ⟨g,4,none⟩ (.int .i64 0)).setCell ⟨g,5,none⟩ (.bool false)) b:=fun b h1 h2=>.inr ⟨h2,by rw[hsz];exact h1⟩
       have hml:m1<wr.heap.size:=by obtain⟨es,hm⟩:=HFE.out.at_;exact hm.lt
       refine⟨rfl,⟨m1,wr.heap.size,none,0,hbk,?_,?_,by omega,UI.nil _ _,.inl hmg,⟨HR.out.ok.1,by simp[fallD],HSMF.out,by simp[fallD]⟩,fun b hb=>?_⟩,?_⟩
       ·exact((HFE.out.below hb5).mono hT).of_var hB5 (by decide) hkb
       ·exact(hf5.mono fun b h1 h2=>hT b h1 (Nat.le_trans hs1 h2.1)).of_var hB5 (by decide) hkb
       ·rcases hb with hb | hb
        ·have:=HR.out.bnd b hb;rw[hsz];omega
        ·exact hb.2
       ·have h0:=Mods.below HM.out hb5
        have h1:Mods S w w5:=h0.mono fun b _ hb=>by rw[hb];exact hmg
        exact(((h1.setCell _ (.inl hmg) _).setCell _ (.inl hmg) _).setCell _ (.inl hmg) _).setCell _ (.inl hmg) _)
      clear hf5 hb5 hB5 HB HM HFE HSMF CL c0
      go_wp2_with fail
      go_ret
      exact HFIN.out
end
end Go.Proofs.YtobdmlejabjmiaaGreatDoor
