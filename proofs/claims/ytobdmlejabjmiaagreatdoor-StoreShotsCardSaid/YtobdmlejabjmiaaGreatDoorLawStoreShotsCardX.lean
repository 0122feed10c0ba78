/- Made small by a program. -/
import Derived.Test.YtobdmlejabjmiaaGreatDoorZc49
import Derived.Test.YtobdmlejabjmiaaGreatDoorCards
import Derived.Test.YtobdmlejabjmiaaGreatDoorTie
import Derived.LaidMore
import Derived.Lay
import Derived.SevenTiedAt
import Derived.Stop.Joined
set_option maxRecDepth 20000
set_option maxHeartbeats 8000000
namespace Go.Proofs.YtobdmlejabjmiaaGreatDoor.storeShots
open Go.ChangeShapes Go.WideShapes Go.ChangeAt Go.RowKit
open Go.ChangeMaps (open_string shut_string)
set_option maxRecDepth 100000 in
theorem lifted(os:Os)(started:os.Started)(H:Type)(enc:TypeId × Value->H) :
  ReturnsInHanded {} Tryz.checked os 5 .any (fun w args=>(Rows.storeShotsSpec.pre enc Tryz.prog Tryz.f5 Rows.storeShotsRow.domain false w args/\laidMetH Tryz.prog Rows.storeShotsRow.laid w)/\sizedMet enc Tryz.prog Tryz.f5 (OpenSpec.ofChange Rows.storeShotsSpec) false w args)
   (Rows.storeShotsSpec.post enc Tryz.prog Tryz.f5 false true false false):=by
 refine zab (C:=Tryz.checked) (X:=fun w _=>laidMetH Tryz.prog Rows.storeShotsRow.laid w) (fun _ _ _ hh h=>h.of_heap hh) own started (by kernel_rfl) Tryz.func5
  (ChangeSpec.witness_shaped (enc:=enc) (C:=Tryz.checked) (os:=os) (X:=fun w _=>laidMetH Tryz.prog Rows.storeShotsRow.laid w) false (World.laidAll Tryz.prog os Rows.storeShotsRow.laid) #[.slice none 0 0,.int .u8 0,.int .u64 0,.slice none 0 0,.int .u64 0,.int .i64 0] 8 (World.laidAll_os _ _ _)
   (World.shaped_of_ZipB (by kernel_rfl) (by kernel_rfl)) (by kernel_rfl) (by kernel_rfl) (by kernel_rfl)
   (by rw[MakeChecks.laidMetH_plain _ _ _ (by kernel_rfl)];exact laidMet_laidAll _ (by kernel_rfl) (by kernel_rfl))) ?_
 intro W base args ds gs before hval0 hW _ hsz hL hSh;have hval:∀(j:Nat) t v,Tryz.f5.params[j]?=some t->args[j]?=some v->Value.okWide Tryz.prog W .any base t v:=hval0;have hW':=hW;obtain⟨p,q,hA0,hV,rfl,hfz,hnd⟩:=hW;have hA:DataW.TrodAll enc Tryz.prog W 0 (fun _=>true) true Tryz.f5.params.toList args.toList ds p:=hA0;rw[Tryz.params5] at hA hval;obtain⟨v0,vs0,d0,ds0,p0,q0,hargs,rfl,rfl,h0,r0⟩:=trodAll_cons hA;obtain⟨v1,vs1,d1,ds1,p1,q1,rfl,rfl,rfl,h1,r1⟩:=trodAll_cons r0;obtain⟨v2,vs2,d2,ds2,p2,q2,rfl,rfl,rfl,h2,r2⟩:=trodAll_cons r1;obtain⟨v3,vs3,d3,ds3,p3,q3,rfl,rfl,rfl,h3,r3⟩:=trodAll_cons r2;obtain⟨v4,vs4,d4,ds4,p4,q4,rfl,rfl,rfl,h4,r4⟩:=trodAll_cons r3;obtain⟨v5,vs5,d5,ds5,p5,q5,rfl,rfl,rfl,h5,r5⟩:=trodAll_cons r4;obtain⟨rfl,rfl,rfl⟩:=trodAll_nil r5;obtain rfl:args=#[v0,v1,v2,v3,v4,v5]:=by cases args;simp_all
 obtain⟨rfl,rfl⟩:=trodVars_none hV;obtain⟨A0,c0,L0,rfl,g0,b0,s0,r0',d0'⟩:=cameSN [.one (.int .u64),.one (.int .u64),.one (.int .i64),.one (.int .i64),.one (.bytes)] 5 Tryz.underlying22 Tryz.underlying44 (by kernel_rfl) (by decide) (by decide) (by kernel_rfl) (hval 0 22 v0 rfl rfl) h0 (yI hsz (j:=0) rfl rfl);have z0:=zco Tryz.underlying22 d0' (yI hsz (j:=0) rfl rfl);rw[show Tryz.prog.bytesOf 44=_ from by kernel_rfl] at z0;obtain⟨a1,rfl,rfl,rfl,w1⟩:=open_int Tryz.underlying5 (hval 1 5 v1 rfl rfl) h1;obtain⟨a2,rfl,rfl,rfl,w2⟩:=open_int Tryz.underlying23 (hval 2 23 v2 rfl rfl) h2;obtain⟨A3,c3,z3,rfl,w3⟩:=came Tryz.underlying34 Tryz.underlying5 (by kernel_rfl) (hval 3 34 v3 rfl rfl) h3;have b3:z3.length*Tryz.prog.bytesOf 5<=140737488351232:=w3.sized (j:=3) (t:=34) hsz rfl rfl Tryz.underlying34;rw[show Tryz.prog.bytesOf 5=1 from by kernel_rfl] at b3;obtain⟨l3,e3,f3⟩:=w3.bytes;rw[<-e3] at b3;rw[<-e3] at hW';rw[<-e3];obtain⟨a4,rfl,rfl,rfl,w4⟩:=open_int Tryz.underlying23 (hval 4 23 v4 rfl rfl) h4;obtain⟨a5,rfl,rfl,rfl,w5⟩:=open_int Tryz.underlying3 (hval 5 3 v5 rfl rfl) h5;try clear hA0 hval0
 refine(qW A0 c0 L0 a1 a2 A3 c3 l3 a4 a5 W s0 z0 r0' (u8_of_wf w1) (jy w2) f3 (by omega) (jy w4) (zeJ w5) hL hSh).mono fun e W' ⟨he,bel⟩=>⟨_,he,?_⟩
 exact law_post rfl rfl (by kernel_rfl) rfl hW' bel
theorem held:Rows.StoreShotsSaid :=
 OpenClaim.holds_of_wide 5 Tryz.f5 rfl rfl rfl rfl rfl rfl rfl ⟨rfl,rfl,rfl,rfl,rfl⟩ rfl rfl rfl rfl rfl (by kernel_rfl) Tryz.func5 (by kernel_rfl)
  (of_decide_eq_true (by kernel_rfl)) (by unfold Func.isWrapper;first | (rw[if_pos (by decide +kernel)];kernel_rfl) | (rw[if_neg (by decide +kernel)];exact⟨rfl,rfl⟩))
  (fun os started H enc _=>lifted os started H enc)
theorem proved:Rows.StoreShotsCardSaid :=
 Claim7.holds_tied_plain_at .later [] [.data, .data, .data, .data, .sentinel, .sentinel, .pinned] true (true, "cebd46aa283997a9111e8d859b8b5a837ea7141760cd919db683da1a9cf7d61e") true held (fun _ h => by cases h) (by kernel_rfl) (fun _ h => by cases h) storeShots_row_tie rfl ⟨rfl, rfl⟩ (by kernel_rfl) rfl
  (fun f fn hf hfn=>by
   obtain rfl : f = 5 := Option.some.inj ((show Tryz.prog.funcNamed "scupper/scupperlaw16.StoreShots" = some 5 by kernel_rfl).symm.trans hf) |>.symm;obtain rfl:fn=Tryz.f5:=(Option.some.inj (Tryz.func5.symm.trans hfn)).symm;exact⟨by kernel_rfl,fun j t ht=>by
    rw[Tryz.params5] at ht;have hm:t∈([22,5,23,34,23,3]:List TypeId):=(by have h:=Array.mem_of_getElem? ht;simp only[List.mem_toArray] at h ⊢;exact h);have hall:(([22,5,23,34,23,3]:List TypeId).all fun u=>!Tryz.prog.wantsStandIn u)=true:=(by kernel_rfl);exact(show Tryz.prog.wantsStandIn t=false by simpa using List.all_eq_true.1 hall t hm)⟩)
  (by kernel_rfl)
#print axioms proved
end Go.Proofs.YtobdmlejabjmiaaGreatDoor.storeShots
