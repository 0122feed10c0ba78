/- Made small by a program. -/
import Derived.Test.YtobdmlejabjmiaaGreatDoorZd32
import Derived.Test.YtobdmlejabjmiaaGreatDoorZd25
set_option maxRecDepth 20000
set_option maxHeartbeats 8000000
namespace Go.Proofs.YtobdmlejabjmiaaGreatDoor
open Go.RowKit
abbrev state0:Array Value:=#[.int .u64 0,.int .i64 0,.int .u64 0,.int .u64 0,.slice none 0 0,.slice none 0 0,.slice none 0 0,.slice none 0 0]
section
variable {w w':World}
theorem stateClone(ht:Nat)(hvt:Int)(i t:Nat)(v l:List Int)(d:List UInt8)(V:Option Addr)(vc:Nat)(L:Option Addr)(lc:Nat)(D:Option Addr)(dc:Nat)(w:World)(hv:RV w V (ncells .i64 v))(hl:RV w L (ncells .i64 l))(hd:RB w D d)
  (hn:v.length<=1000000) (hm:l.length<=1000000) (hdl:d.length<=1000000) :
  Calls Tryz.prog 33 #[.agg (stateC ht hvt i t v l d V vc L lc D dc)] w fun e w'=>∃A ac B bc C cc,e=.returned (.agg (stateC ht hvt i t v l d A ac B bc C cc))/\OV w' w.heap.size 3 A ac (ncells .i64 v)/\OV w' w.heap.size 3 B bc (ncells .i64 l)/\OB w' w.heap.size C cc d/\Below w.heap.size w w':=by
 have hal:Below w.heap.size w ((w.alloc (.cells (stateC ht hvt i t v l d V vc L lc D dc) 38)).alloc (.cells state0 38)):=((Below.refl _ _).alloc (Nat.le_refl _) _).alloc (by simp) _
 have hZ:=(Blk.new w (stateC ht hvt i t v l d V vc L lc D dc) 38).below (((Below.refl (w.heap.size+1) _).alloc (by simp) (.cells state0 38))) (Nat.lt_succ_self _)
 have hZ2:=Blk.new (w.alloc (.cells (stateC ht hvt i t v l d V vc L lc D dc) 38)) state0 38
 have hws:(w.alloc (.cells (stateC ht hvt i t v l d V vc L lc D dc) 38)).heap.size=w.heap.size+1:=by simp
 have hws2:((w.alloc (.cells (stateC ht hvt i t v l d V vc L lc D dc) 38)).alloc (.cells state0 38)).heap.size=w.heap.size+2:=by simp
 rw[hws] at hZ2
 have CB:=cloneB D dc d _ (hd.below hal) (by omega)
 have H0:=qh (And.intro hal (And.intro hZ (And.intro hZ2 (And.intro hv hl))))
 have c6:=hZ.cell 6 rfl
 have HWS:=qh hws2
 have CBH:=qh CB
 clear hal hZ hZ2 hws hws2 hv hl hd CB
 unfold stateC state0 at *
 go_enter Tryz.func33,Tryz.ntmps33
 go_wp2_with (go_at_call 82;refine CBH.out.mono ?_)
 rintro e w1 ⟨k,C,cc,hk,hk1,hk2,rfl,o3,b1⟩
 obtain⟨hal,hZ,hZ2,hv,hl⟩:=H0.out
 rw[HWS.out] at o3
 have hkd:k=d:=hk.out
 have y1:=hZ.kept b1
 have y2:=hZ2.kept b1
 have hb1:=belowTrans hal b1
 have Y1:Hid (Blk (w1.setCell ⟨w.heap.size,6,none⟩ (.slice C k.length cc)) w.heap.size 38 #[.int .u64 (ht:Int),.int .i64 hvt,.int .u64 (i:Int),.int .u64 (t:Int),.slice V v.length vc,.slice L l.length lc,.slice C k.length cc,.slice none 0 0]):=qh (y1.setCell 6 (.slice C k.length cc))
 have Y2:=qh (y2.setCell_other (a:=⟨w.heap.size,6,none⟩) (.slice C k.length cc) (by simp))
 have O3:=qh (o3.setCell (a:=⟨w.heap.size,6,none⟩) (by simp) (.slice C k.length cc))
 have HB:=qh (hb1.setCell (p:=⟨w.heap.size,6,none⟩) (Nat.le_refl _) (.slice C k.length cc))
 have d6:=y1.cell 6 rfl
 have f6:=y1.free 6
 have HVL:=qh (And.intro hv hl)
 have HKD:=qh hkd
 clear H0 CBH HWS c6 hal hZ hZ2 hv hl y1 y2 hb1 b1 o3 hk hkd
 go_wp2_with fail
 obtain⟨w2,hw2⟩:∃w2,w2=w1.setCell ⟨w.heap.size,6,none⟩ (.slice C k.length cc):=⟨_,rfl⟩
 rw[<-hw2] at Y1 Y2 O3 HB ⊢
 clear hw2 d6 f6
 refine wp_region_planP_gen (by kernel_rfl) (.pure 0 (.pure 1 (.pure 2 (.pure 3 (.pure 5 (.pure 6 (.pure 7 (.pure 8 (.eff (4) [3] (.eff (9) [8] (.pure 10 (.pure 11 (.pure 12 (.eff (13) [0,1,2,3,5,6,7,8,10,12] (.fin []))))))))))))))) (by kernel_rfl) (by kernel_rfl) (by decide) ?_
 intro wq hwq
 have hbd:Below w2.heap.size w2 wq:=by rw[hwq];exact(Below.refl _ _).drew
 have HZ:=Y1.out.kept hbd
 have HY:=Y2.out.kept hbd
 have C4:=HZ.cell 4 (v:=.slice V v.length vc) rfl
 have C5:=HZ.cell 5 (v:=.slice L l.length lc) rfl
 have HBq:=HB.out.trans (hbd.mono HB.out.size)
 have HV:=HVL.out.1.below HBq
 have HL:=HVL.out.2.below HBq
 have R0:=O3.out.below hbd
 clear hwq hbd Y1 Y2 HB O3
 refine pt_pureA ?_
 refine pt_pureA ?_
 refine pt_pureA ?_
 refine pt_cellsA [(⟨w.heap.size,4,none⟩,.slice V v.length vc)] ?_
 refine pt_pureA ?_
 refine pt_pureA ?_
 refine pt_pureA ?_
 refine pt_cellsA [(⟨w.heap.size,5,none⟩,.slice L l.length lc)] ?_
 refine pt_eff rfl (by rfl) (fun K hK=>?_)
 go_simp
 refine(cloneI V vc v wq HV (by omega)).mono ?_
 rintro e wv1 ⟨A3,c3,rfl,R3n,hb⟩
 have hlt:=HY.lt
 replace C4:=(hb.cell (p:=⟨w.heap.size,4,none⟩) (by simp only;omega)).trans C4
 replace C5:=(hb.cell (p:=⟨w.heap.size,5,none⟩) (by simp only;omega)).trans C5
 replace HZ:=HZ.kept hb
 replace HL:=HL.below hb
 replace HV:=HV.below hb
 replace R0:=R0.below hb
 try replace R7:=R7.below hb
 replace HBq:=HBq.trans (hb.mono HBq.size)
 have R3:=R3n.base_le (show w.heap.size+2<=_ by omega)
 replace HY:=HY.kept hb
 clear R3n hb hlt
 refine pt_ownA hK ?_
 clear hK K
 refine pt_eff rfl (by rfl) (fun K hK=>?_)
 go_simp
 refine(cloneI L lc l wv1 HL (by omega)).mono ?_
 rintro e wv2 ⟨A7,c7,rfl,R7n,hb⟩
 have hlt:=HY.lt
 replace C4:=(hb.cell (p:=⟨w.heap.size,4,none⟩) (by simp only;omega)).trans C4
 replace C5:=(hb.cell (p:=⟨w.heap.size,5,none⟩) (by simp only;omega)).trans C5
 replace HZ:=HZ.kept hb
 replace HL:=HL.below hb
 replace HV:=HV.below hb
 replace R0:=R0.below hb
 try replace R3:=R3.below hb
 replace HBq:=HBq.trans (hb.mono HBq.size)
 have R7:=R7n.base_le (show w.heap.size+2<=_ by omega)
 replace HY:=HY.kept hb
 clear R7n hb hlt
 refine pt_ownA hK ?_
 clear hK K
 refine pt_pureA ?_
 refine pt_pureA ?_
 refine pt_pureA ?_
 refine pt_eff rfl (by rfl) (fun K hK=>?_)
 refine wp_store_mid 33 _ _ rfl w.heap.size 4 #[.slice A3 v.length c3,.slice A7 l.length c7] rfl rfl (there_blk HZ 4 2 (by simp)) conf_size (by simp[Value.oneCell']) ?_
 have HZn:Blk (wv2.setCells w.heap.size 4 [.slice A3 v.length c3,.slice A7 l.length c7]) w.heap.size 38 #[.int .u64 (ht:Int),.int .i64 hvt,.int .u64 (i:Int),.int .u64 (t:Int),.slice A3 v.length c3,.slice A7 l.length c7,.slice C k.length cc,.slice none 0 0]:=blk_setCells2 HZ 4 (.slice A3 v.length c3) (.slice A7 l.length c7)
 have HYn:=blk_setCells2_other HY (k:=w.heap.size) (by omega) 4 (.slice A3 v.length c3) (.slice A7 l.length c7)
 have O1:=ov_setCells2 R3 (k:=w.heap.size) (by omega) 4 (.slice A3 v.length c3) (.slice A7 l.length c7)
 have O2:=ov_setCells2 R7 (k:=w.heap.size) (by omega) 4 (.slice A3 v.length c3) (.slice A7 l.length c7)
 have O0:OB (wv2.setCells w.heap.size 4 [.slice A3 v.length c3,.slice A7 l.length c7]) (w.heap.size+2) C cc k:=(R0.setCell (a:=⟨w.heap.size,4,none⟩) (by simp) (.slice A3 v.length c3)).setCell (a:=⟨w.heap.size,4+1,none⟩) (by simp) (.slice A7 l.length c7)
 have HBn:=below_setCells2 HBq (Nat.le_refl _) 4 (.slice A3 v.length c3) (.slice A7 l.length c7)
 simp only[]
 obtain⟨w5,hw5⟩:∃w5,w5=wv2.setCells w.heap.size 4 [.slice A3 v.length c3,.slice A7 l.length c7]:=⟨_,rfl⟩
 rw[<-hw5] at HZn HYn O1 O2 O0 HBn ⊢
 clear hw5 R3 R7 R0 HZ HY HBq HV HL C4 C5
 refine pt_ownA hK ?_
 clear hK K
 refine pt_fin (planE_end ?_)
 have z7:=HZn.cell 7 (v:=.slice none 0 0) rfl
 have f7:=HZn.free 7
 have HH:=qh (And.intro HZn (And.intro HYn (And.intro O1 (And.intro O2 (And.intro O0 HBn)))))
 clear HZn HYn O1 O2 O0 HBn HVL
 go_wp2_with fail
 go_loopw [3,28] (fun s3 s28 wr=>s3=.slice none 0 0/\s28=.int .i64 0/\wr=w5) (fun _ _ _=>0)
 case atStart=>exact⟨rfl,rfl,rfl⟩
 case round =>
  obtain⟨rfl,rfl,rfl⟩:=hrel
  obtain⟨HZn,HYn,O1,O2,O0,HBn⟩:=HH.out
  have HZ8:Hid (Blk (wr.setCell ⟨w.heap.size,7,none⟩ (.slice none 0 0)) w.heap.size 38 #[.int .u64 (ht:Int),.int .i64 hvt,.int .u64 (i:Int),.int .u64 (t:Int),.slice A3 v.length c3,.slice A7 l.length c7,.slice C k.length cc,.slice none 0 0]):=qh (HZn.setCell 7 (.slice none 0 0))
  have HY8:=qh (HYn.setCell_other (a:=⟨w.heap.size,7,none⟩) (.slice none 0 0) (by simp))
  clear HZn HYn O1 O2 O0 HBn
  go_wp2_with (first
   | (refine wpList_load_row rfl 38 (.tmp 1) rfl w.heap.size rfl 38 #[.int .u64 (ht:Int),.int .i64 hvt,.int .u64 (i:Int),.int .u64 (t:Int),.slice A3 v.length c3,.slice A7 l.length c7,.slice C k.length cc,.slice none 0 0] (0,0) _ HZ8.out Tryz.underlying38 rfl state_size ?_)
   | (refine wpList_store_row rfl 38 (.tmp 2) (.tmp 43) rfl (w.heap.size+1) #[.int .u64 (ht:Int),.int .i64 hvt,.int .u64 (i:Int),.int .u64 (t:Int),.slice A3 v.length c3,.slice A7 l.length c7,.slice C k.length cc,.slice none 0 0] rfl rfl _ _ HY8.out state_size rfl (by simp[Value.oneCell']) ?_))
  have Y9:=HY8.out.setRow #[.int .u64 (ht:Int),.int .i64 hvt,.int .u64 (i:Int),.int .u64 (t:Int),.slice A3 v.length c3,.slice A7 l.length c7,.slice C k.length cc,.slice none 0 0]
  refine bodyPost_ret (v:=.agg #[.int .u64 (ht:Int),.int .i64 hvt,.int .u64 (i:Int),.int .u64 (t:Int),.slice A3 v.length c3,.slice A7 l.length c7,.slice C k.length cc,.slice none 0 0]) (results_cell_row rfl _ _ (w.heap.size+1) 38 #[.int .u64 (ht:Int),.int .i64 hvt,.int .u64 (i:Int),.int .u64 (t:Int),.slice A3 v.length c3,.slice A7 l.length c7,.slice C k.length cc,.slice none 0 0] (0,0) _ rfl Y9 Tryz.underlying38 rfl state_size) rfl ?_
  obtain⟨_,_,O1,O2,O0,HBn⟩:=HH.out
  have Z1:=ownsRow_setRow (k:=w.heap.size+1) (ov_setCell O1 (a:=⟨w.heap.size,7,none⟩) (by simp) (.slice none 0 0)) (fun e=>by have:=(O1.own_lt _ e).1;omega) #[.int .u64 (ht:Int),.int .i64 hvt,.int .u64 (i:Int),.int .u64 (t:Int),.slice A3 v.length c3,.slice A7 l.length c7,.slice C k.length cc,.slice none 0 0]
  have Z2:=ownsRow_setRow (k:=w.heap.size+1) (ov_setCell O2 (a:=⟨w.heap.size,7,none⟩) (by simp) (.slice none 0 0)) (fun e=>by have:=(O2.own_lt _ e).1;omega) #[.int .u64 (ht:Int),.int .i64 hvt,.int .u64 (i:Int),.int .u64 (t:Int),.slice A3 v.length c3,.slice A7 l.length c7,.slice C k.length cc,.slice none 0 0]
  have Z3:=(O0.setCell (a:=⟨w.heap.size,7,none⟩) (by simp) (.slice none 0 0)).setRow (k:=w.heap.size+1) (fun e=>by have:=(O0.own_lt (w.heap.size+1) (by rw[own_blk];exact e)).1;omega) #[.int .u64 (ht:Int),.int .i64 hvt,.int .u64 (i:Int),.int .u64 (t:Int),.slice A3 v.length c3,.slice A7 l.length c7,.slice C k.length cc,.slice none 0 0]
  have Z4:=below_setRow (g:=w.heap.size+1) (HBn.setCell (p:=⟨w.heap.size,7,none⟩) (Nat.le_refl _) (.slice none 0 0)) (by omega) #[.int .u64 (ht:Int),.int .i64 hvt,.int .u64 (i:Int),.int .u64 (t:Int),.slice A3 v.length c3,.slice A7 l.length c7,.slice C k.length cc,.slice none 0 0]
  have hkd:=HKD.out
  subst hkd
  exact⟨A3,c3,A7,c7,C,cc,rfl,OV.base_le Z1 (by omega),OV.base_le Z2 (by omega),Z3.base_le (by omega),Z4⟩
end
abbrev stateL(ht:Nat)(hv:Int)(i t:Nat)(v l:List Int)(d:List UInt8)(V:Option Addr)(vc:Nat)(L:Option Addr)(lc:Nat)(D:Option Addr)(dc:Nat)(E:Option Addr)(en ec:Nat):Array Value :=
 #[.int .u64 (ht:Int),.int .i64 hv,.int .u64 (i:Int),.int .u64 (t:Int),.slice V v.length vc,.slice L l.length lc,.slice D d.length dc,.slice E en ec]
section
variable {w w':World}
theorem stateCloneL(ht:Nat)(hvt:Int)(i t:Nat)(v l:List Int)(d:List UInt8)(V:Option Addr)(vc:Nat)(L:Option Addr)(lc:Nat)(D:Option Addr)(dc:Nat)(E:Option Addr)(ec:Nat)(es:List ERow)(w:World)(hE:EL w E es)(hen:es.length<=1000000)(hed:∀x∈es,x.1.dat.length<=1000000)(hv:RV w V (ncells .i64 v))(hl:RV w L (ncells .i64 l))(hd:RB w D d)
  (hn:v.length<=1000000) (hm:l.length<=1000000) (hdl:d.length<=1000000) :
  Calls Tryz.prog 33 #[.agg (stateL ht hvt i t v l d V vc L lc D dc E es.length ec)] w fun e w'=>∃A ac B bc C cc E' ec' es',e=.returned (.agg (stateL ht hvt i t v l d A ac B bc C cc E' es'.length ec'))/\es'.map Prod.fst=es.map Prod.fst/\EO w' w.heap.size E' ec' es'/\OV w' w.heap.size 3 A ac (ncells .i64 v)/\OV w' w.heap.size 3 B bc (ncells .i64 l)/\OB w' w.heap.size C cc d/\Below w.heap.size w w':=by
 have hal:Below w.heap.size w ((w.alloc (.cells (stateL ht hvt i t v l d V vc L lc D dc E es.length ec) 38)).alloc (.cells state0 38)):=((Below.refl _ _).alloc (Nat.le_refl _) _).alloc (by simp) _
 have hZ:=(Blk.new w (stateL ht hvt i t v l d V vc L lc D dc E es.length ec) 38).below (((Below.refl (w.heap.size+1) _).alloc (by simp) (.cells state0 38))) (Nat.lt_succ_self _)
 have hZ2:=Blk.new (w.alloc (.cells (stateL ht hvt i t v l d V vc L lc D dc E es.length ec) 38)) state0 38
 have hws:(w.alloc (.cells (stateL ht hvt i t v l d V vc L lc D dc E es.length ec) 38)).heap.size=w.heap.size+1:=by simp
 have hws2:((w.alloc (.cells (stateL ht hvt i t v l d V vc L lc D dc E es.length ec) 38)).alloc (.cells state0 38)).heap.size=w.heap.size+2:=by simp
 rw[hws] at hZ2
 have CB:=cloneB D dc d _ (hd.below hal) (by omega)
 have H0:=qh (And.intro hal (And.intro hZ (And.intro hZ2 (And.intro hv hl))))
 have c6:=hZ.cell 6 rfl
 have HWS:=qh hws2
 have CBH:=qh CB
 have HEL:=qh hE
 have HED:=qh hed
 clear hal hZ hZ2 hws hws2 hv hl hd CB hE hed
 unfold stateL state0 at *
 go_enter Tryz.func33,Tryz.ntmps33
 go_wp2_with (go_at_call 82;refine CBH.out.mono ?_)
 rintro e w1 ⟨k,C,cc,hk,hk1,hk2,rfl,o3,b1⟩
 obtain⟨hal,hZ,hZ2,hv,hl⟩:=H0.out
 rw[HWS.out] at o3
 have hkd:k=d:=hk.out
 have y1:=hZ.kept b1
 have y2:=hZ2.kept b1
 have hb1:=belowTrans hal b1
 have Y1:Hid (Blk (w1.setCell ⟨w.heap.size,6,none⟩ (.slice C k.length cc)) w.heap.size 38 #[.int .u64 (ht:Int),.int .i64 hvt,.int .u64 (i:Int),.int .u64 (t:Int),.slice V v.length vc,.slice L l.length lc,.slice C k.length cc,.slice E es.length ec]):=qh (y1.setCell 6 (.slice C k.length cc))
 have Y2:=qh (y2.setCell_other (a:=⟨w.heap.size,6,none⟩) (.slice C k.length cc) (by simp))
 have O3:=qh (o3.setCell (a:=⟨w.heap.size,6,none⟩) (by simp) (.slice C k.length cc))
 have HB:=qh (hb1.setCell (p:=⟨w.heap.size,6,none⟩) (Nat.le_refl _) (.slice C k.length cc))
 have d6:=y1.cell 6 rfl
 have f6:=y1.free 6
 have HVL:=qh (And.intro hv hl)
 have HKD:=qh hkd
 clear H0 CBH HWS c6 hal hZ hZ2 hv hl y1 y2 hb1 b1 o3 hk hkd
 go_wp2_with fail
 obtain⟨w2,hw2⟩:∃w2,w2=w1.setCell ⟨w.heap.size,6,none⟩ (.slice C k.length cc):=⟨_,rfl⟩
 rw[<-hw2] at Y1 Y2 O3 HB ⊢
 clear hw2 d6 f6
 obtain⟨i0,hi0,hz0,hz1,hz2⟩:=info_parts en_info
 refine wp_region_planP_gen (by kernel_rfl) (.pure 0 (.pure 1 (.pure 2 (.pure 3 (.pure 5 (.pure 6 (.pure 7 (.pure 8 (.eff (4) [3] (.eff (9) [8] (.pure 10 (.pure 11 (.pure 12 (.eff (13) [0,1,2,3,5,6,7,8,10,12] (.fin []))))))))))))))) (by kernel_rfl) (by kernel_rfl) (by decide) ?_
 intro wq hwq
 have hbd:Below w2.heap.size w2 wq:=by rw[hwq];exact(Below.refl _ _).drew
 have HZ:=Y1.out.kept hbd
 have HY:=Y2.out.kept hbd
 have C4:=HZ.cell 4 (v:=.slice V v.length vc) rfl
 have C5:=HZ.cell 5 (v:=.slice L l.length lc) rfl
 have HBq:=HB.out.trans (hbd.mono HB.out.size)
 have HV:=HVL.out.1.below HBq
 have HL:=HVL.out.2.below HBq
 have R0:=O3.out.below hbd
 clear hwq hbd Y1 Y2 HB O3
 refine pt_pureA ?_
 refine pt_pureA ?_
 refine pt_pureA ?_
 refine pt_cellsA [(⟨w.heap.size,4,none⟩,.slice V v.length vc)] ?_
 refine pt_pureA ?_
 refine pt_pureA ?_
 refine pt_pureA ?_
 refine pt_cellsA [(⟨w.heap.size,5,none⟩,.slice L l.length lc)] ?_
 refine pt_eff rfl (by rfl) (fun K hK=>?_)
 go_simp
 refine(cloneI V vc v wq HV (by omega)).mono ?_
 rintro e wv1 ⟨A3,c3,rfl,R3n,hb⟩
 have hlt:=HY.lt
 replace C4:=(hb.cell (p:=⟨w.heap.size,4,none⟩) (by simp only;omega)).trans C4
 replace C5:=(hb.cell (p:=⟨w.heap.size,5,none⟩) (by simp only;omega)).trans C5
 replace HZ:=HZ.kept hb
 replace HL:=HL.below hb
 replace HV:=HV.below hb
 replace R0:=R0.below hb
 try replace R7:=R7.below hb
 replace HBq:=HBq.trans (hb.mono HBq.size)
 have R3:=R3n.base_le (show w.heap.size+2<=_ by omega)
 replace HY:=HY.kept hb
 clear R3n hb hlt
 refine pt_ownA hK ?_
 clear hK K
 refine pt_eff rfl (by rfl) (fun K hK=>?_)
 go_simp
 refine(cloneI L lc l wv1 HL (by omega)).mono ?_
 rintro e wv2 ⟨A7,c7,rfl,R7n,hb⟩
 have hlt:=HY.lt
 replace C4:=(hb.cell (p:=⟨w.heap.size,4,none⟩) (by simp only;omega)).trans C4
 replace C5:=(hb.cell (p:=⟨w.heap.size,5,none⟩) (by simp only;omega)).trans C5
 replace HZ:=HZ.kept hb
 replace HL:=HL.below hb
 replace HV:=HV.below hb
 replace R0:=R0.below hb
 try replace R3:=R3.below hb
 replace HBq:=HBq.trans (hb.mono HBq.size)
 have R7:=R7n.base_le (show w.heap.size+2<=_ by omega)
 replace HY:=HY.kept hb
 clear R7n hb hlt
 refine pt_ownA hK ?_
 clear hK K
 refine pt_pureA ?_
 refine pt_pureA ?_
 refine pt_pureA ?_
 refine pt_eff rfl (by rfl) (fun K hK=>?_)
 refine wp_store_mid 33 _ _ rfl w.heap.size 4 #[.slice A3 v.length c3,.slice A7 l.length c7] rfl rfl (there_blk HZ 4 2 (by simp)) conf_size (by simp[Value.oneCell']) ?_
 have HZn:Blk (wv2.setCells w.heap.size 4 [.slice A3 v.length c3,.slice A7 l.length c7]) w.heap.size 38 #[.int .u64 (ht:Int),.int .i64 hvt,.int .u64 (i:Int),.int .u64 (t:Int),.slice A3 v.length c3,.slice A7 l.length c7,.slice C k.length cc,.slice E es.length ec]:=blk_setCells2 HZ 4 (.slice A3 v.length c3) (.slice A7 l.length c7)
 have HYn:=blk_setCells2_other HY (k:=w.heap.size) (by omega) 4 (.slice A3 v.length c3) (.slice A7 l.length c7)
 have O1:=ov_setCells2 R3 (k:=w.heap.size) (by omega) 4 (.slice A3 v.length c3) (.slice A7 l.length c7)
 have O2:=ov_setCells2 R7 (k:=w.heap.size) (by omega) 4 (.slice A3 v.length c3) (.slice A7 l.length c7)
 have O0:OB (wv2.setCells w.heap.size 4 [.slice A3 v.length c3,.slice A7 l.length c7]) (w.heap.size+2) C cc k:=(R0.setCell (a:=⟨w.heap.size,4,none⟩) (by simp) (.slice A3 v.length c3)).setCell (a:=⟨w.heap.size,4+1,none⟩) (by simp) (.slice A7 l.length c7)
 have HBn:=below_setCells2 HBq (Nat.le_refl _) 4 (.slice A3 v.length c3) (.slice A7 l.length c7)
 simp only[]
 obtain⟨w5,hw5⟩:∃w5,w5=wv2.setCells w.heap.size 4 [.slice A3 v.length c3,.slice A7 l.length c7]:=⟨_,rfl⟩
 rw[<-hw5] at HZn HYn O1 O2 O0 HBn ⊢
 clear hw5 R3 R7 R0 HZ HY HBq HV HL C4 C5
 refine pt_ownA hK ?_
 clear hK K
 refine pt_fin (planE_end ?_)
 have z7:=HZn.cell 7 (v:=.slice E es.length ec) rfl
 have f7:=HZn.free 7
 have HH:=qh (And.intro HZn (And.intro HYn (And.intro O1 (And.intro O2 (And.intro O0 HBn)))))
 clear HZn HYn O1 O2 O0 HBn HVL
 go_wp2_with fail
 go_loopw [3,28] (fun s3 s28 wr=>∃(q:Nat) (A:Option Addr) (ac n3:Nat) (es':List ERow),q<=es.length/\s28=.int .i64 (q:Int)/\n3=es'.length/\s3=.slice A n3 ac/\Hid (es'.map Prod.fst=(es.take q).map Prod.fst)/\Hid (EO wr w5.heap.size A ac es')/\Hid (Below w5.heap.size w5 wr))
  (fun _ s28 _=>es.length - (intOf s28).toNat)
 case atStart=>exact⟨0,none,0,0,[],Nat.zero_le _,rfl,rfl,rfl,qh rfl,qh (EO.nil _ _),qh (Below.refl _ _)⟩
 case round =>
  obtain⟨q,A,ac,n3,es',hq,rfl,hn3,rfl,HM,HO,HB⟩:=hrel
  by_cases hlt:q<es.length
  ·have hH:=HH.out.2.2.2.2.2
   have hEL:=HEL.out.below (hH.trans (HB.out.mono hH.size))
   obtain⟨b,off,rfl,hb,hc⟩:=hEL.at_ hlt
   have hx:=hEL.rb es[q] (List.getElem_mem hlt)
   have hxl:=HED.out es[q] (List.getElem_mem hlt)
   have HT:Hid ((es.take (q+1)).map Prod.fst=(es.take q).map Prod.fst++[es[q].1]):=qh (by rw[List.take_succ_eq_append_getElem hlt,List.map_append];rfl)
   obtain⟨x,hxe⟩:∃x,x=es[q]:=⟨_,rfl⟩
   rw[<-hxe] at hc hx hxl HT
   obtain⟨⟨ei,et,kd,dl,dt⟩,eD,edc⟩:=x
   simp only[er] at hc hx hxl HT
   have RG:=qh hc
   have hal:Below wr.heap.size wr (wr.alloc (.cells entryZ TEn)):=(Below.refl _ _).alloc (Nat.le_refl _) _
   have Z:=qh (Blk.new wr entryZ TEn)
   have hbs:=HB.out.size
   have Y0:=Z.out.setRow #[.int .u64 (ei:Int),.int .u64 (et:Int),.int .i64 kd,.int .i64 dl,.slice eD dt.length edc]
   have hb1:=below_setRow (g:=wr.heap.size) hal (Nat.le_refl _) #[.int .u64 (ei:Int),.int .u64 (et:Int),.int .i64 kd,.int .i64 dl,.slice eD dt.length edc]
   obtain⟨w1,hw1⟩:∃w1,w1=(wr.alloc (.cells entryZ TEn)).setRow wr.heap.size #[.int .u64 (ei:Int),.int .u64 (et:Int),.int .i64 kd,.int .i64 dl,.slice eD dt.length edc]:=⟨_,rfl⟩
   rw[<-hw1] at Y0 hb1
   have HW1:=qh hw1.symm
   have Y:=qh Y0
   have HB1:=qh hb1
   have c4:=Y0.cell 4 (v:=.slice eD dt.length edc) rfl
   have CB2:=qh (cloneB eD edc dt w1 (hx.1.below hb1) (by omega))
   have hlt1:=Y0.lt
   have hr1:=hb1.size
   subst hn3
   have HLK:Hid (es'.length=q):=qh (by have:=congrArg List.length HM.out;rw[List.length_map,List.length_map,List.length_take] at this;omega)
   clear hxe hEL hc hx hal hw1 Y0 hb1 hH z7
   unfold entryZ at *
   go_wp2_with (first
    | (refine wpList_load_mid rfl TEn (.tmp 30) rfl b (off+q*5) rfl [.int .u64 (ei:Int),.int .u64 (et:Int),.int .i64 kd,.int .i64 dl,.slice eD dt.length edc] _ RG.out Tryz.underlying44 rfl en_size5 ?_)
    | (refine wpList_store_row rfl TEn (.tmp 5) (.tmp 31) rfl wr.heap.size #[.int .u64 (ei:Int),.int .u64 (et:Int),.int .i64 kd,.int .i64 dl,.slice eD dt.length edc] rfl rfl _ _ Z.out entry_size' rfl (by simp[Value.oneCell']) ?_;rw[HW1.out])
    | (go_at_call 82;refine CB2.out.mono ?_))
   rintro e w4 ⟨z,C2,c2,hz,hz1,hz2,rfl,hob,hb4⟩
   have HZ:=qh hz.out
   have q4:=(Y.out.kept hb4).cell 4 (v:=.slice eD dt.length edc) rfl
   have r4:=(Y.out.kept hb4).free 4
   have Y5:Blk (w4.setCell ⟨wr.heap.size,4,none⟩ (.slice C2 z.length c2)) wr.heap.size TEn #[.int .u64 (ei:Int),.int .u64 (et:Int),.int .i64 kd,.int .i64 dl,.slice C2 z.length c2]:=(Y.out.kept hb4).setCell 4 (.slice C2 z.length c2)
   have O5:=hob.setCell (a:=⟨wr.heap.size,4,none⟩) hlt1 (.slice C2 z.length c2)
   have hb5:=(HB1.out.trans (hb4.mono HB1.out.size)).setCell (p:=⟨wr.heap.size,4,none⟩) (Nat.le_refl _) (.slice C2 z.length c2)
   have Y5H:=qh Y5
   obtain⟨w6,hw6⟩:∃w6,w6=w4.setCell ⟨wr.heap.size,4,none⟩ (.slice C2 z.length c2):=⟨_,rfl⟩
   rw[<-hw6] at O5 hb5
   have HW6:=qh hw6.symm
   have H5:=qh (And.intro O5 hb5)
   have hbl5:Below w6.heap.size w6 (w6.alloc (.cells #[.int .u64 (ei:Int),.int .u64 (et:Int),.int .i64 kd,.int .i64 dl,.slice C2 z.length c2] TEn)):=(Below.refl _ _).alloc (Nat.le_refl _) _
   have HO5:=qh ((HO.out.below hb5).below hbl5)
   have hs5:w5.heap.size<=(w6.alloc (.cells #[.int .u64 (ei:Int),.int .u64 (et:Int),.int .i64 kd,.int .i64 dl,.slice C2 z.length c2] TEn)).heap.size:=Nat.le_trans (Nat.le_trans hbs hb5.size) hbl5.size
   have HBL:=qh hbl5
   clear hz hob hb4 c4 Y5 O5 hb5 hw6 hbl5 CB2 hz1 hz2
   go_wp2_with (first
    | (refine wpList_load_row rfl TEn (.tmp 5) rfl wr.heap.size rfl TEn #[.int .u64 (ei:Int),.int .u64 (et:Int),.int .i64 kd,.int .i64 dl,.slice C2 z.length c2] (0,0) _ Y5H.out Tryz.underlying44 rfl entry_size' ?_;rw[HW6.out])
    | (at_builtin;refine wp_appendS _ rfl (.tmp 36) (.tmp 38) 22 TEn rfl Tryz.underlying22 hi0 hz0 hz1 hz2 rfl (by decide) w5.heap.size A _ ac 1 (es'.map er) [[.int .u64 (ei:Int),.int .u64 (et:Int),.int .i64 kd,.int .i64 dl,.slice C2 z.length c2]] (by rw[List.length_map];rfl) rfl HO5.out.row (RS.lit (Blk.new w6 #[.int .u64 (ei:Int),.int .u64 (et:Int),.int .i64 kd,.int .i64 dl,.slice C2 z.length c2] TEn)) (by simp) (by simp[Value.oneCell']) (by have:=HLK.out;simp;omega) (by have:=HLK.out;simp;omega) hs5 ?_;intro ys A9 c9 w9 hys hy1 hy2 hrow hg9 hA9;have HYS:=hys;have HROW:=qh hrow;have HG9:=qh hg9;clear hys hrow hg9 hA9 hy1 hy2))
   go_roundw
   case rel =>
    have hz:z=dt:=HZ.out
    have hys:=HYS.out
    have hrow:=HROW.out
    subst hz
    rw[hys] at hrow ⊢
    have O6:=(H5.out.1.below HBL.out).base_le (base':=w5.heap.size) (by omega)
    have hb5:Below w5.heap.size w5 (w6.alloc (.cells #[.int .u64 (ei:Int),.int .u64 (et:Int),.int .i64 kd,.int .i64 dl,.slice C2 z.length c2] TEn)):=(HB.out.trans (H5.out.2.mono hbs)).alloc (Nat.le_trans hbs H5.out.2.size) _
    have hb9:Below w5.heap.size w5 w9:=hb5.grown HG9.out hs5 (fun b hb=>(HO5.out.row.blk_lt b hb).1)
    rw[show es'.map er++[[Value.int .u64 (ei:Int),.int .u64 (et:Int),.int .i64 kd,.int .i64 dl,.slice C2 z.length c2]]=(es'++[((⟨ei,et,kd,dl,z⟩:En),C2,c2)]).map er from by rw[List.map_append];rfl] at hrow
    refine⟨q+1,A9,c9,_,es'++[(⟨ei,et,kd,dl,z⟩,C2,c2)],by omega,by go_num,?_,rfl,qh ?_,qh (EO.snoc HO5.out O6 HG9.out hrow (Nat.le_refl _)),qh hb9⟩
    ·simp
    ·rw[List.map_append,HM.out]
     exact HT.out.symm
   case measure=>simp[intOf];omega
  ·obtain rfl:q=es.length:=by omega
   have hm:es'.map Prod.fst=es.map Prod.fst:=by have:=HM.out;rwa [List.take_length] at this
   clear HM
   have HM:=qh hm
   subst hn3
   obtain⟨HZn,HYn,O1,O2,O0,HBn⟩:=HH.out
   have hZ8:=HZn.kept HB.out
   have hY8:=HYn.kept HB.out
   have g7:=hZ8.cell 7 (v:=.slice E es.length ec) rfl
   have k7:=hZ8.free 7
   have HZ8:Hid (Blk (wr.setCell ⟨w.heap.size,7,none⟩ (.slice A es'.length ac)) w.heap.size 38 #[.int .u64 (ht:Int),.int .i64 hvt,.int .u64 (i:Int),.int .u64 (t:Int),.slice A3 v.length c3,.slice A7 l.length c7,.slice C k.length cc,.slice A es'.length ac]):=qh (hZ8.setCell 7 (.slice A es'.length ac))
   have HY8:=qh (hY8.setCell_other (a:=⟨w.heap.size,7,none⟩) (.slice A es'.length ac) (by simp))
   clear HZn HYn O1 O2 O0 HBn hm hZ8 hY8 z7 f7
   go_wp2_with (first
    | (refine wpList_load_row rfl 38 (.tmp 1) rfl w.heap.size rfl 38 #[.int .u64 (ht:Int),.int .i64 hvt,.int .u64 (i:Int),.int .u64 (t:Int),.slice A3 v.length c3,.slice A7 l.length c7,.slice C k.length cc,.slice A es'.length ac] (0,0) _ HZ8.out Tryz.underlying38 rfl state_size ?_)
    | (refine wpList_store_row rfl 38 (.tmp 2) (.tmp 43) rfl (w.heap.size+1) #[.int .u64 (ht:Int),.int .i64 hvt,.int .u64 (i:Int),.int .u64 (t:Int),.slice A3 v.length c3,.slice A7 l.length c7,.slice C k.length cc,.slice A es'.length ac] rfl rfl _ _ HY8.out state_size rfl (by simp[Value.oneCell']) ?_))
   have Y9:=HY8.out.setRow #[.int .u64 (ht:Int),.int .i64 hvt,.int .u64 (i:Int),.int .u64 (t:Int),.slice A3 v.length c3,.slice A7 l.length c7,.slice C k.length cc,.slice A es'.length ac]
   refine bodyPost_ret (v:=.agg #[.int .u64 (ht:Int),.int .i64 hvt,.int .u64 (i:Int),.int .u64 (t:Int),.slice A3 v.length c3,.slice A7 l.length c7,.slice C k.length cc,.slice A es'.length ac]) (results_cell_row rfl _ _ (w.heap.size+1) 38 #[.int .u64 (ht:Int),.int .i64 hvt,.int .u64 (i:Int),.int .u64 (t:Int),.slice A3 v.length c3,.slice A7 l.length c7,.slice C k.length cc,.slice A es'.length ac] (0,0) _ rfl Y9 Tryz.underlying38 rfl state_size) rfl ?_
   obtain⟨_,hY0,O1,O2,O0,HBn⟩:=HH.out
   have h2:=hY0.lt
   have mm:Mods (fun b=>b=w.heap.size\/b=w.heap.size+1) w5 ((wr.setCell ⟨w.heap.size,7,none⟩ (.slice A es'.length ac)).setRow (w.heap.size+1) #[.int .u64 (ht:Int),.int .i64 hvt,.int .u64 (i:Int),.int .u64 (t:Int),.slice A3 v.length c3,.slice A7 l.length c7,.slice C k.length cc,.slice A es'.length ac]):=((Mods.of_below (S:=fun b=>b=w.heap.size\/b=w.heap.size+1) HB.out).setCell ⟨w.heap.size,7,none⟩ (.inl (.inl rfl)) _).setRow (w.heap.size+1) (.inl (.inr rfl)) #[.int .u64 (ht:Int),.int .i64 hvt,.int .u64 (i:Int),.int .u64 (t:Int),.slice A3 v.length c3,.slice A7 l.length c7,.slice C k.length cc,.slice A es'.length ac]
   have m2:Mods (fun b=>b=w.heap.size\/b=w.heap.size+1) wr ((wr.setCell ⟨w.heap.size,7,none⟩ (.slice A es'.length ac)).setRow (w.heap.size+1) #[.int .u64 (ht:Int),.int .i64 hvt,.int .u64 (i:Int),.int .u64 (t:Int),.slice A3 v.length c3,.slice A7 l.length c7,.slice C k.length cc,.slice A es'.length ac]):=((Mods.refl (fun b=>b=w.heap.size\/b=w.heap.size+1) wr).setCell ⟨w.heap.size,7,none⟩ (.inl (.inl rfl)) _).setRow (w.heap.size+1) (.inl (.inr rfl)) #[.int .u64 (ht:Int),.int .i64 hvt,.int .u64 (i:Int),.int .u64 (t:Int),.slice A3 v.length c3,.slice A7 l.length c7,.slice C k.length cc,.slice A es'.length ac]
   have hkd:=HKD.out
   subst hkd
   exact⟨A3,c3,A7,c7,C,cc,A,ac,es',rfl,HM.out,(HO.out.mods m2 (fun b hb _ e=>by omega)).base_le (by omega),OV.base_le (O1.mods mm (fun b hb e=>by have:=(O1.blk_lt b hb).1;omega)) (by omega),OV.base_le (O2.mods mm (fun b hb e=>by have:=(O2.blk_lt b hb).1;omega)) (by omega),(O0.mods mm (fun b hb e=>by have:=(O0.blk_in b hb).1;omega)).base_le (by omega),Mods.old HBn mm HBn.size (fun b _ e=>by omega)⟩
end
end Go.Proofs.YtobdmlejabjmiaaGreatDoor
