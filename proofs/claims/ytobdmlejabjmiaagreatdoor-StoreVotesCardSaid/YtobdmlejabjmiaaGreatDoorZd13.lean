/- Made small by a program. -/
import Derived.Test.YtobdmlejabjmiaaGreatDoorZd12
import Derived.IntWalk
set_option maxRecDepth 20000
set_option maxHeartbeats 8000000
namespace Go.Proofs.YtobdmlejabjmiaaGreatDoor
open Go.RowKit
def PDone(S:Nat->Prop)(w:World)(g:Nat)(D:DSt)(v:Value)(e:Ending)(w':World):Prop:=e=.returned v/\DI (Sx S w w') w' g D/\Mods S w w'
section
variable {S:Nat->Prop} {w w':World} {g mf ms:Nat} {A:Option Addr} {c:Nat} {D:DSt}
theorem DR.sx(h:DR S w' g mf ms A c D)(hs:w.heap.size<=w'.heap.size)(hb:∀b,S b->b<w.heap.size):DI (Sx S w w') w' g D :=
 ⟨mf,ms,A,c,h.mono (fun b hb=>.inl hb) fun b hb'=>by
  rcases hb' with h1 | h1
  ·have:=hb b h1;omega
  ·exact h1.2⟩
theorem DR.same(h:DR S w g mf ms A c D)(hb:Below w.heap.size w w')(v:Value):PDone S w g D v (.returned v) w':=⟨rfl,(h.below hb).sx hb.size h.bnd,.of_below hb⟩
theorem DR.look2(h:DR S w g mf ms A c D)(name:Nm):∃Ao co,∀w',Below w.heap.size w w'->(Instr.lookup 63 (.map (some mf)) (.string ⟨name.toArray⟩) true).run Tryz.prog w'=.ok (.tuple #[.slice Ao ((fget D.files name).getD []).length co,.bool (fget D.files name).isSome]) w':=by
 obtain⟨es,hmap,ht,_,_⟩:=h.fi
 obtain⟨Ao,co,_,hl⟩:=ht.look2 (m:=mf) name
 exact⟨Ao,co,fun w' hb=>hl w' (hmap.below hb)⟩
theorem DR.len(h:DR S w g mf ms A c D):∀w',Below w.heap.size w w'->(Builtin.len_ #[63] 3 #[.map (some mf)]).run Tryz.prog w'=.ok (.int .i64 (D.files.length:Int)) w':=fun w' hb=>by
 obtain⟨es,hmap,ht,hF,_⟩:=h.fi
 rw[<-ht.len hmap.nodup hF]
 exact run_len_map (P:=Tryz.prog) (hmap.below hb) Tryz.underlying63 _
theorem DR.ris(h:DR S w g mf ms A c D):Rising D.files/\Rising D.sure:=by
 obtain⟨_,_,_,h1,_⟩:=h.fi
 obtain⟨_,_,_,h2,_⟩:=h.si
 exact⟨h1,h2⟩
theorem DR.other{x:Nat}(h:DR S w g mf ms A c D)(hm:Mods (fun b=>b=x) w w')(hx:¬S x):DR S w' g mf ms A c D:=h.mods hm fun b _ hb e=>hx (by rw[<-e];exact hb)
theorem FI.grown_row{m base k ca:Nat}{F:FS}{e:TypeId}{R:Option Addr}{rows:List (List Value)}(h:FI S w m F)(r:OR w base e k R ca rows)(hT:5≠e)(hg:w.grownBy w' (R.map (·.block))):FI S w' m F:=by
 obtain⟨es,h1,h2,h3,h4⟩:=h
 refine⟨es,h1.grown hg fun hb=>?_,⟨fun k v hv=>?_,h2.miss⟩,h3,h4⟩
 ·obtain⟨cs,hc⟩:=r.blk m hb
  exact h1.ne_cells hc rfl
 ·obtain⟨A',c',l,e1,e2,e3⟩:=h2.hit k v hv
  exact⟨A',c',l,e1,⟨e2.1.grown_row hg (e2.1.ne_row r hT),e2.2⟩,e3⟩
theorem FI.blk_ne{m x:Nat}{F:FS}{T:TypeId}{cs:Array Value}(h:FI S w m F)(hx:Blk w x T cs):m≠x:=by
 obtain⟨es,h1,_⟩:=h
 exact h1.ne_cells hx
theorem FI.ob_ne{m n ca:Nat}{F:FS}{R:Option Addr}{l:List UInt8}(h:FI S w m F)(hx:OB w n R ca l):∀b,R.map (·.block)=some b->b≠m:=fun b hb e=>by
 obtain⟨es,h1,_⟩:=h
 obtain⟨cs,hc⟩:=hx.blk b hb
 exact h1.ne_cells hc e.symm
theorem FI.at_{m:Nat}{F:FS}(h:FI S w m F):∃es:List (Nm × Value),MapAt encStr w m es:=by
 obtain⟨es,h1,_⟩:=h
 exact⟨es,h1⟩
theorem diskChange_good(kind:Int)(name:Nm)(off:Nat)(data:List UInt8)(Y:Option Addr)(cy:Nat)(h:DR S w g mf ms A c D)(hY:RB w Y data)(hYM:0<data.length->∀b,Y.map (·.block)=some b->¬S b)(hcnt:D.cnt<=1000000)(hd:D.down=false)(hs:name.length<=9223372036854775807)(ho:off<=4194304)(hdl:data.length<=140737488355328)(hk:kind=1\/kind=2\/kind=3)(hdat:kind≠1->data=[])(hn:nameOk name=true) :
  Calls Tryz.prog 74 #[.pointer (some ⟨g,0,none⟩),.agg #[.int .i64 kind,.string ⟨name.toArray⟩,.int .i64 (off:Int),.slice Y data.length cy]] w (PDone S w g (changeD D ⟨kind,name,off,data⟩ off).2 (.int .i64 (changeD D ⟨kind,name,off,data⟩ off).1)):=by
 have hal:Below w.heap.size w (w.alloc (.cells #[.int .i64 kind,.string ⟨name.toArray⟩,.int .i64 (off:Int),.slice Y data.length cy] 94)):=(Below.refl _ _).alloc (Nat.le_refl _) _
 have hx:=Blk.new w #[.int .i64 kind,.string ⟨name.toArray⟩,.int .i64 (off:Int),.slice Y data.length cy] 94
 have h1:=h.below hal
 have AL:=qh (diskAlive (S:=S) (D:=D) ⟨mf,ms,A,c,h1⟩)
 rw[if_neg (by rw[hd];simp)] at AL
 have NM:=qh (diskNamed ⟨name.toArray⟩ (w.alloc (.cells #[.int .i64 kind,.string ⟨name.toArray⟩,.int .i64 (off:Int),.slice Y data.length cy] 94)) (by simpa [ByteArray.size] using hs))
 rw[show nameOk (⟨name.toArray⟩:ByteArray).data.toList=true from hn] at NM
 have y1:=hx.cell 1 rfl
 obtain⟨hris,_⟩:=h.ris
 have hfl:D.files.length<=1000000:=Nat.le_trans (DSt.files_len D) hcnt
 have HSM:=qh h.ok.files
 have hfs:=DSt.size_le h.ok hris hcnt
 have hroom:=h.ok.1
 have HR:=qh h
 have hol:((fget D.files name).getD []).length<=4194304:=by
  cases hg:fget D.files name with
  | none=>simp
  | some l=>exact h.ok.files _ _ hg
 have haf:afterN ((fget D.files name).getD []).length ⟨kind,name,off,data⟩<=140737488355328+4194304+4194304:=by
  have:=afterN_le ((fget D.files name).getD []).length ⟨kind,name,off,data⟩
  simp only at this
  omega
 obtain⟨Ao,co,hlk⟩:=h.look2 name
 have HLK:=qh hlk
 have HLEN:=qh h.len
 have HREST:Hid (¬(fget D.files name=none/\kind≠3/\4096<=D.files.length)->(((fget D.files name).getD []).length<afterN ((fget D.files name).getD []).length ⟨kind,name,off,data⟩/\D.room<(fsize D.files:Int)+((afterN ((fget D.files name).getD []).length ⟨kind,name,off,data⟩:Int) - (((fget D.files name).getD []).length:Int))->changeD D ⟨kind,name,off,data⟩ off=(10,D)) /\
   (¬(((fget D.files name).getD []).length<afterN ((fget D.files name).getD []).length ⟨kind,name,off,data⟩/\D.room<(fsize D.files:Int)+((afterN ((fget D.files name).getD []).length ⟨kind,name,off,data⟩:Int) - (((fget D.files name).getD []).length:Int)))->Wr.ok ⟨kind,name,off,data⟩/\changeD D ⟨kind,name,off,data⟩ off=if (burnD D).down=true then(11,burnD D) else(0,{ burnD D with unsure:=D.unsure++[⟨kind,name,off,data⟩] }))):=qh fun hm=>by
  have e2:=refuse_rest (c:=⟨kind,name,off,data⟩) (off:=(off:Int)) hd hn (by omega) (by omega) hm
  simp only at e2
  constructor
  ·intro hf
   rw[if_pos hf] at e2
   exact changeD_err _ _ _ e2 (by decide)
  ·intro hf
   rw[if_neg hf] at e2
   refine⟨okW hk ho hdat (by exact hroom.2) HSM.out (by simp only;omega),?_⟩
   split
   ·rename_i hb;exact changeD_burnt _ _ _ e2 hb
   ·rename_i hb;exact changeD_eq0 _ _ _ e2 (by simpa using hb)
 have HMANY:Hid ((fget D.files name=none/\kind≠3/\4096<=D.files.length)->changeD D ⟨kind,name,off,data⟩ off=(7,D)):=qh fun hm =>
  changeD_err _ _ _ (refuse_many (c:=⟨kind,name,off,data⟩) (off:=(off:Int)) hd hn (by omega) (by omega) hm) (by decide)
 have HAFT:=qh (fun w'=>diskAfter ((fget D.files name).getD []).length ⟨kind,name,off,data⟩ Y cy w' (by omega) hk ho hdl)
 unfold wrV at HAFT
 have hmg:=h.sg
 obtain⟨xb,hxb⟩:∃xb,xb=w.heap.size:=⟨_,rfl⟩
 have HX:=qh hx
 have HXB:=qh hxb
 have HXS:Hid (¬S xb):=qh fun hS=>by have:=h.bnd xb hS;omega
 have HYY:=qh hY
 have HYM:=qh hYM
 have HD:=qh hd
 have HKK:=qh hk
 have HCD:∃cD,cD=changeD D ⟨kind,name,off,data⟩ off:=⟨_,rfl⟩
 obtain⟨cD,hcD⟩:=HCD
 rw[<-hcD] at HREST HMANY ⊢
 have HIS:Hid (∀b,(fget D.files name).isSome=b->(b=false->fget D.files name=none)/\(b=true->fget D.files name≠none)):=qh fun b hb=>by
  subst hb
  cases fget D.files name<;>simp
 generalize hol0:((fget D.files name).getD []).length=ol at *
 generalize haf0:afterN ol ⟨kind,name,off,data⟩=af at *
 generalize hfs0:fsize D.files=fs at *
 have HFS:=qh hfs0
 clear h hx h1 hris HSM hdat hn hd hY hYM hk hxb hcD hlk hol0 haf0 hfs0
 cases hse:(fget D.files name).isSome
 case true =>
  have HREST2:=HREST.out (fun h=>(HIS.out true hse).2 rfl h.1)
  clear HREST HMANY HIS
  go_enter Tryz.func74,Tryz.ntmps74
  go_wp2_with fail
  refine AL.out.mono ?_
  rintro e w1 ⟨rfl,rfl⟩
  go_wp2_with fail
  refine NM.out.mono ?_
  rintro e w2 ⟨rfl,hb2⟩
  rw[<-HXB.out]
  have hx2:Blk w2 xb 94 #[.int .i64 kind,.string ⟨name.toArray⟩,.int .i64 (off:Int),.slice Y data.length cy]:=by rw[HXB.out];exact HX.out.kept hb2
  have hB2:=hal.trans (hb2.mono hal.size)
  generalize w.alloc (.cells #[.int .i64 kind,.string ⟨name.toArray⟩,.int .i64 (off:Int),.slice Y data.length cy] 94)=w1 at *
  have z0:=hx2.cell 0 rfl
  have z1:=hx2.cell 1 rfl
  have z2:=hx2.cell 2 rfl
  have hbl2:=(HR.out.below hB2).blk
  have c0:=hbl2.cell 0 rfl
  have hl2:=HLK.out w2 hB2
  have hlen2:=HLEN.out w2 hB2
  rw[hse] at hl2
  clear hb2 y1 AL NM
  go_wp2_with fail
  refine wp_region_planE_gen (by kernel_rfl) [(0,none),(1,none),(2,none),(3,none),(4,none),(5,none),(6,none),(7,none),(8,none),(9,none),(10,none),(11,none)] (by kernel_rfl) (by kernel_rfl) (by decide) ?_
  intro wq hwq
  have hBq:Below w2.heap.size w2 wq:=by rw[hwq];exact(Below.refl _ _).drew
  have hxq:=hx2.kept hBq
  have q0:=hxq.cell 0 rfl
  have q1:=hxq.cell 1 rfl
  have q2:=hxq.cell 2 rfl
  have q3:=hxq.cell 3 rfl
  have hB3:=hB2.trans (hBq.mono hB2.size)
  have d0:=(HR.out.below hB3).blk.cell 0 rfl
  have hlq:=HLK.out wq hB3
  rw[hse] at hlq
  have hlenq:=HLEN.out wq hB3
  clear hwq z0 z1 z2 c0 hl2 hlen2 hx2 hbl2
  iterate 3 (refine planE_pureA ?_)
  refine planE_cellsA [(⟨g,0,none⟩,.map (some mf))] ?_
  iterate 1 (refine planE_pureA ?_)
  refine planE_cellsA [(⟨xb,1,none⟩,.string ⟨name.toArray⟩)] ?_
  refine planE_read (v:=?_) (fun w'=>(Instr.lookup 63 (.map (some mf)) (.string ⟨name.toArray⟩) true).run Tryz.prog w'=.ok (.tuple #[.slice Ao ol co,.bool true]) w') rfl (by rfl) (fun w' hw'=>?_) (hlq) ?_;rotate_left;(focus (simp only[List.getElem_toArray,List.getElem_cons_succ,List.getElem_cons_zero];go_simp;first | with_reducible rfl | (simp (disch:=omega) only [if_pos,if_neg,dif_pos,Result.andThen_ok];try with_reducible rfl) | skip));try simp only[List.getElem_toArray,List.getElem_cons_succ,List.getElem_cons_zero,Act.put,List.setIfInBounds_toArray,List.set_cons_zero,List.set_cons_succ]
  iterate 5 (refine planE_pureA ?_)
  refine planE_end ?_
  clear hB2 hlq
  go_wp2_with fail
  with_reducible refine(HAFT.out _).mono ?_
  rintro e w4 ⟨rfl,hb4⟩
  have hB4:=hB3.trans (hb4.mono hB3.size)
  have hx4:=hxq.kept hb4
  clear q0 q1 q2 q3 d0 hlenq hxq hb4 hBq hB3 HAFT
  go_wp2_with fail
  obtain⟨hfull,hgood⟩:=HREST2
  have HFULL:=qh hfull
  have HGOOD:=qh hgood
  clear hfull hgood
  obtain⟨hroom0,hroom1⟩:=hroom
  generalize hrm:D.room=room at *
  obtain⟨mo,hmo⟩:∃mo:Int,mo=(af:Int) - (ol:Int):=⟨_,rfl⟩
  have hmo1:ol<af ↔ 0<mo:=by omega
  rw[<-hmo] at HFULL HGOOD ⊢
  have hmob:-4194304<=mo/\mo<=150000000000000:=by omega
  obtain⟨hmob1,hmob2⟩:=hmob
  clear hmo
  by_cases hg1:0<mo
  ·have hg1b:decide (0<mo)=true:=by simpa using hg1
   refine wp_region_planE_gen (by kernel_rfl) [(0,none),(1,none),(2,none),(3,none),(4,none),(5,none),(6,none),(8,none),(10,none),(11,none),(12,none),(13,none),(7,some [2,6]),(9,none),(14,none),(15,none)] (by kernel_rfl) (by kernel_rfl) (by decide) ?_
   intro wq hwq
   have hBq:Below w4.heap.size w4 wq:=by rw[hwq];exact(Below.refl _ _).drew
   have hB5:=hB4.trans (hBq.mono hB4.size)
   have hx5:=hx4.kept hBq
   have HR5:=qh (HR.out.below hB5)
   have d0:=HR5.out.blk.cell 0 rfl
   have d3:=HR5.out.blk.cell 3 rfl
   rw[hrm] at d3
   have SZ:=qh (diskSize wq HR5.out.fi (by rw[HFS.out];omega))
   rw[HFS.out] at SZ
   have hw1:IntKind.i64.wrap ((fs:Int)+mo)=(fs:Int)+mo:=IntWalk.i64_in _ (by omega)
   clear hwq hB4 hx4 hBq
   iterate 6 (refine planE_pureA ?_)
   refine planE_cellsA [(⟨g,0,none⟩,.map (some mf))] ?_
   iterate 4 (refine planE_pureA ?_)
   refine planE_cellsA [(⟨g,3,none⟩,.int .i64 room)] ?_
   refine planE_eff rfl (by rfl) (fun K hK=>?_)
   go_simp
   refine SZ.out.mono ?_
   rintro e w6 ⟨rfl,hb6⟩
   have hB6:=hB5.trans (hb6.mono hB5.size)
   have hx6:=hx5.kept hb6
   have HR6:=qh (HR.out.below hB6)
   clear d0 d3 hB5 hx5 HR5 SZ hb6
   have d0:=HR6.out.blk.cell 0 rfl
   have d3:=HR6.out.blk.cell 3 rfl
   rw[hrm] at d3
   refine planE_ownA hK ?_
   clear hK K
   iterate 3 (refine planE_pureA ?_)
   refine planE_end ?_
   clear d0 d3
   by_cases hg2:room<(fs:Int)+mo
   ·have HF:Hid (PDone S w g cD.2 (.int .i64 cD.1) (.returned (.int .i64 10)) w6):=qh (by rw[HFULL.out ⟨hmo1.2 hg1,hg2⟩];exact HR.out.same hB6 (.int .i64 10))
    clear HR HFULL HGOOD HR6 hx6 hB6 HLK HLEN
    go_wp2_with fail
    go_ret
    exact HF.out
   ·have HG:=qh (HGOOD.out (fun h=>hg2 h.2))
    clear HFULL HGOOD
    have BN:=qh (diskBurn HR6.out)
    go_wp2_with fail
    refine BN.out.mono ?_
    rintro e w7 ⟨rfl,h7,hm7⟩
    have hx7:Blk w7 xb 94 #[.int .i64 kind,.string ⟨name.toArray⟩,.int .i64 (off:Int),.slice Y data.length cy]:=hx6.mods hm7 (fun e=>cells_ne HR6.out.blk hx6 (by decide) e.symm)
    have HM7:Hid (Mods S w w7):=qh ((Mods.of_below hB6).then (hm7.mono fun b _ hb=>by subst hb;exact hmg))
    have H7:=qh h7
    obtain⟨hcok,hG⟩:=HG.out
    cases hbd:(burnD D).down
    ·rw[hbd,if_neg (by simp)] at hG
     have HG2:=qh hG
     have HBD:=qh hbd
     have HY7:=qh ((HYY.out.below hB6).mods hm7 (fun h0 b hb e=>by subst e;exact HYM.out h0 _ hb hmg))
     have CL:=qh (cloneB' Y cy data w7 HY7.out (by omega))
     have z3:=hx7.cell 3 rfl
     clear h7 hm7 hG BN HR6 HG hx6 hB6 hbd HLK HLEN
     go_wp2_with fail
     refine CL.out.mono ?_
     rintro e w8 ⟨A8,c8,rfl,ho8,hb8⟩
     have hx8:=hx7.kept hb8
     have q3:=hx8.free 3
     have z8:=hx8.cell 3 rfl
     have hx9:Blk (w8.setCell ⟨xb,3,none⟩ (.slice A8 data.length c8)) xb 94 #[.int .i64 kind,.string ⟨name.toArray⟩,.int .i64 (off:Int),.slice A8 data.length c8]:=hx8.setCell 3 _
     have hm9:Mods (fun b=>b=xb) w7 (w8.setCell ⟨xb,3,none⟩ (.slice A8 data.length c8)):=Mods.setCell (S:=fun b=>b=xb) (Mods.of_below hb8) ⟨xb,3,none⟩ (.inl rfl) _
     have HR9:=qh (H7.out.other hm9 HXS.out)
     have HM9:Hid (Mods S w (w8.setCell ⟨xb,3,none⟩ (.slice A8 data.length c8))):=qh ((HM7.out.below hb8).setCell _ (.inr (by rw[HXB.out];exact Nat.le_refl _)) _)
     have HO9:=qh (ho8.of_block (w':=w8.setCell ⟨xb,3,none⟩ (.slice A8 data.length c8)) (fun b hb=>Below.heap_setCell _ _ _ b (by rintro rfl;exact ho8.ne_var hx8 (by decide) hb)))
     have HWS:Hid (w.heap.size<=w7.heap.size):=qh HM7.out.size
     clear z3 HM7 H7 CL HY7 hx7 ho8 hm9 hb8
     go_wp2_with fail
     generalize w8.setCell ⟨xb,3,none⟩ (.slice A8 data.length c8)=w9 at *
     clear hx8 q3 z8
     refine wp_region_planE_gen (by kernel_rfl) [(0,none),(1,none),(2,none),(3,none),(4,none),(5,some [3,4])] (by kernel_rfl) (by kernel_rfl) (by decide) ?_
     intro wq hwq
     have hbq:Below w9.heap.size w9 wq:=by rw[hwq];exact(Below.refl _ _).drew
     have HRq:=qh (HR9.out.below hbq)
     have HMq:=qh (HM9.out.below hbq)
     have HOq:=qh (HO9.out.below hbq)
     have hxq:=hx9.kept hbq
     have y0:=hxq.cell 0 rfl
     have y1:=hxq.cell 1 rfl
     have y2:=hxq.cell 2 rfl
     have y3:=hxq.cell 3 rfl
     have c0:=HRq.out.blk.cell 0 rfl
     have DO:=qh (diskDo wq HRq.out.fi ⟨kind,name,off,data⟩ A8 c8 HOq.out.rb HKK.out ho (by omega) (fun k l hkl=>by have:=HRq.out.ok.files k l hkl;omega))
     unfold wrV at DO
     clear hwq hbq HR9 HM9 HO9 hx9
     iterate 3 (refine planE_pureA ?_)
     refine planE_cellsA [(⟨g,0,none⟩,.map (some mf))] ?_
     refine planE_cellsA [(⟨xb,0,none⟩,.int .i64 kind),(⟨xb,1,none⟩,.string ⟨name.toArray⟩),(⟨xb,2,none⟩,.int .i64 (off:Int)),(⟨xb,3,none⟩,.slice A8 data.length c8)] ?_
     refine planE_eff rfl (by rfl) (fun K hK=>?_)
     go_simp
     refine DO.out.mono ?_
     rintro e w10 ⟨rfl,hfi,hmm⟩
     obtain⟨es,hmap⟩:=HRq.out.fi.at_
     have hgne:=HRq.out.fi.blk_ne HRq.out.blk
     have hxne:=HRq.out.fi.blk_ne hxq
     have HB10:=qh (HRq.out.blk.mods hmm (fun e=>hgne e.symm))
     have hx10:=hxq.mods hmm (fun e=>hxne e.symm)
     have HFI10:=qh hfi
     have HSI10:=qh (HRq.out.si.of_map hmap (fun e=>HRq.out.ne e.symm) hmm)
     have HUI10:=qh (HRq.out.ui.of_map hmap hmm)
     have HO10:=qh (HOq.out.of_block (w':=w10) fun b hb=>hmm.block b (HOq.out.blk_lt b hb).2 (HRq.out.fi.ob_ne HOq.out b hb))
     have hsz10:=hmm.size
     have HM10:Hid (Mods S w w10):=qh (HMq.out.then (hmm.mono fun b _ hb=>by subst hb;obtain⟨_,_,_,_,h4⟩:=HRq.out.fi;exact h4))
     have hokq:=HRq.out.ok
     have hneq:=HRq.out.ne
     have HBND:=qh HR.out.bnd
     have hsgq:=HRq.out.bnd g hmg
     have HNEWS:Hid (∀b,Sx S wq w10 b->S b\/(w.heap.size<=b/\b<w10.heap.size)):=qh fun b hb=>by
      rcases hb with hb | hb
      ·exact .inl hb
      ·have:=HMq.out.size;exact .inr ⟨by have:=hb.1;omega,hb.2⟩
     have hwqs:=HMq.out.size
     clear y0 y1 y2 y3 c0 DO hmap hgne hxne hfi hmm HOq HMq HRq hxq
     have y0:=hx10.cell 0 rfl
     have y1:=hx10.cell 1 rfl
     have y2:=hx10.cell 2 rfl
     have y3:=hx10.cell 3 rfl
     have c0:=HB10.out.cell 0 rfl
     refine planE_ownA hK ?_
     clear hK K
     refine planE_end ?_
     clear y0 y1 y2 y3 c0
     go_wp2_with fail
     generalize hS10:Sx S wq w10=S10 at *
     clear hS10
     obtain⟨Us,hU1,hU2,hU3,hU4⟩:=HUI10.out
     have HU1:=qh hU1
     have HU2:=qh hU2
     have HU3:=qh hU3
     have HU4:=qh hU4
     have hul:Us.length<=1000000:=by
      have e1:=congrArg List.length hU1
      rw[List.length_map,burnD_unsure] at e1
      unfold DSt.cnt at hcnt
      omega
     have HUL:Hid (Us.length=D.unsure.length):=qh (by have e1:=congrArg List.length hU1;rw[List.length_map,burnD_unsure] at e1;exact e1)
     clear hU1 hU2 hU3 hU4 HUI10
     refine wp_region_planE_gen (by kernel_rfl) [(0,none),(1,none),(2,none),(3,none),(4,none),(5,none),(6,some [5]),(7,some [4]),(8,none),(9,none),(10,some [0,1,2,3,4,5,9])] (by kernel_rfl) (by kernel_rfl) (by decide) ?_
     intro wq hwq
     have hbq:Below w10.heap.size w10 wq:=by rw[hwq];exact(Below.refl _ _).drew
     have HBq:=qh (HB10.out.kept hbq)
     have hxq:=hx10.kept hbq
     have y0:=hxq.cell 0 rfl
     have y1:=hxq.cell 1 rfl
     have y2:=hxq.cell 2 rfl
     have y3:=hxq.cell 3 rfl
     have c2':=HBq.out.cell 2 rfl
     have HFIq:=qh (HFI10.out.below hbq)
     have HSIq:=qh (HSI10.out.below hbq)
     have HOq:=qh (HO10.out.below hbq)
     have HMq:=qh (HM10.out.below hbq)
     have HU2q:=qh (HU2.out.below hbq)
     have HU4q:=qh (fun p hp=>(HU4.out p hp).below hbq)
     have hsq:=hbq.size
     clear hwq hbq HB10 HFI10 HSI10 HO10 HM10 HU2 HU4 hx10
     iterate 4 (refine planE_pureA ?_)
     refine planE_cellsA [(⟨g,2,none⟩,.slice A (burnD D).unsure.length c)] ?_
     refine planE_cellsA [(⟨xb,0,none⟩,.int .i64 kind),(⟨xb,1,none⟩,.string ⟨name.toArray⟩),(⟨xb,2,none⟩,.int .i64 (off:Int)),(⟨xb,3,none⟩,.slice A8 data.length c8)] ?_
     refine planE_eff rfl (by rfl) (fun K hK=>?_)
     go_simp
     have hb2:Below wq.heap.size wq (wq.alloc (.cells #[.int .i64 kind,.string ⟨name.toArray⟩,.int .i64 (off:Int),.slice A8 data.length c8] 94)):=(Below.refl _ _).alloc (Nat.le_refl _) _
     have hL6:=Blk.new wq #[.int .i64 kind,.string ⟨name.toArray⟩,.int .i64 (off:Int),.slice A8 data.length c8] 94
     have HB6:=qh (HBq.out.kept hb2)
     have hx6':=hxq.kept hb2
     have HFI6:=qh (HFIq.out.below hb2)
     have HSI6:=qh (HSIq.out.below hb2)
     have HO6:=qh (HOq.out.below hb2)
     have HM6:=qh (HMq.out.below hb2)
     have HU26:=qh (HU2q.out.below hb2)
     have HU46:=qh (fun p hp=>(HU4q.out p hp).below hb2)
     have hs6:=Nat.le_trans hsq hb2.size
     obtain⟨lb,hlb⟩:∃lb,lb=wq.heap.size:=⟨_,rfl⟩
     rw[<-hlb] at hL6 ⊢
     generalize wq.alloc (.cells #[.int .i64 kind,.string ⟨name.toArray⟩,.int .i64 (off:Int),.slice A8 data.length c8] 94)=w11 at *
     clear y0 y1 y2 y3 c2' hb2 hlb HBq hxq HFIq HSIq HOq HMq HU2q HU4q hsq
     have y0:=hx6'.cell 0 rfl
     have y1:=hx6'.cell 1 rfl
     have y2:=hx6'.cell 2 rfl
     have y3:=hx6'.cell 3 rfl
     have c2':=HB6.out.cell 2 rfl
     refine planE_ownA hK ?_
     clear hK K
     refine planE_eff rfl (by rfl) (fun K hK=>?_)
     obtain⟨i0,hi0,hz0,hz1,hz2⟩:=info_parts write_info
     refine op_appendS w11 (.tmp 92) (.tmp 94) 64 94 (by rfl) Tryz.underlying64 hi0 hz0 hz1 hz2 rfl (by decide) 0 A (some ⟨lb,0,none⟩) c 1 (Us.map wrRow) [[.int .i64 kind,.string ⟨name.toArray⟩,.int .i64 (off:Int),.slice A8 data.length c8]] (by rw[List.length_map,HUL.out,<-burnD_unsure D];rfl) (by rfl) HU26.out (RS.lit hL6) (by simp) (by simp[Value.oneCell']) (by simp;omega) (by simp;omega) (Nat.zero_le _) ?_
     intro ys B' cu' w12 hys hy1 hy2 hrow hg12 hB'
     have hk12:=HB6.out.grown hg12 (HU26.out.ne_var HB6.out (by decide))
     have HFI12:=qh (HFI6.out.grown_row HU26.out (by decide) hg12)
     have HSI12:=qh (HSI6.out.grown_row HU26.out (by decide) hg12)
     have HO12:=qh (HO6.out.grown_row hg12 (HO6.out.ne_row HU26.out (by decide)))
     have HU412:=qh (fun p hp=>(⟨(HU46.out p hp).1.grown_row hg12 ((HU46.out p hp).1.ne_row HU26.out (by decide)),(HU46.out p hp).2⟩:OBS S w12 p.2.1 p.2.2 p.1.data))
     have HM12:=qh (HM6.out.then (Mods.of_grown hg12 fun k hk=>HU3.out k hk))
     have hys':=hys.out
     have HYS:Hid (ys=(Us++[((⟨kind,name,off,data⟩,A8,c8):Wr × Option Addr × Nat)]).map wrRow):=qh (by rw[hys',List.map_append];rfl)
     have HYL:Hid (ys.length=(D.unsure++[(⟨kind,name,off,data⟩:Wr)]).length):=qh (by rw[HYS.out,List.length_map,List.length_append,List.length_append,HUL.out];rfl)
     have HRW:=qh hrow
     have HBB:=qh hB'
     have hs12:=hg12.size
     clear y0 y1 y2 y3 c2' hL6 hys hys' hy1 hy2 hrow hg12 hB' HB6 HFI6 HSI6 HO6 HM6 HU26 HU46 hx6'
     have c2':=hk12.cell 2 rfl
     have f2:=hk12.free 2
     refine planE_ownA hK ?_
     clear hK K
     iterate 2 (refine planE_pureA ?_)
     refine planE_eff rfl (by rfl) (fun K hK=>?_)
     go_simp
     skip
     refine planE_ownA hK ?_
     clear hK K
     refine planE_end ?_
     have HF:Hid (PDone S w g cD.2 (.int .i64 cD.1) (.returned (.int .i64 0)) (w12.setCell ⟨g,2,none⟩ (.slice B' ys.length cu'))):=qh (by
      rw[HG2.out]
      have hgk:∀b,b≠g->(w12.setCell ⟨g,2,none⟩ (.slice B' ys.length cu')).heap[b]?=w12.heap[b]?:=fun b hb=>Below.heap_setCell _ _ _ b hb
      have hsz:(w12.setCell ⟨g,2,none⟩ (.slice B' ys.length cu')).heap.size=w12.heap.size:=by simp
      have hT:∀b,b<w12.heap.size->S10 b->Sx S w (w12.setCell ⟨g,2,none⟩ (.slice B' ys.length cu')) b:=fun b hb hx=>by
       rcases HNEWS.out b hx with h | h
       ·exact .inl h
       ·exact .inr ⟨h.1,by rw[hsz];exact hb⟩
      have hT2:∀b,S b->Sx S w (w12.setCell ⟨g,2,none⟩ (.slice B' ys.length cu')) b:=fun b hb=>.inl hb
      have hBg:∀b,B'.map (·.block)=some b->b≠g:=fun b hb e=>by subst e;exact HRW.out.ne_var hk12 (by decide) hb
      have hs0:=HWS.out
      refine⟨rfl,⟨mf,ms,B',cu',?_,?_,?_,hneq,?_,.inl hmg,HR.out.ok.changed hcok,fun b hb=>?_⟩,HM12.out.setCell _ (.inl hmg) _⟩
      ·have:=hk12.setCell 2 (.slice B' ys.length cu')
       rw[<-HYL.out]
       rw[HBD.out] at this
       exact this
      ·have h1:=(HFI12.out.mono hT).of_var (w':=w12.setCell ⟨g,2,none⟩ (.slice B' ys.length cu')) hk12 (by decide) hgk
       show FI _ _ _ (List.foldl doF (burnD D).sure (D.unsure++[⟨kind,name,off,data⟩]))
       rw[List.foldl_append]
       have h2:doF (burnD D).files ⟨kind,name,off,data⟩=List.foldl doF (List.foldl doF (burnD D).sure D.unsure) [⟨kind,name,off,data⟩]:=by rw[burnD_files,burnD_sure];rfl
       rw[<-h2]
       exact h1
      ·exact(HSI12.out.mono fun b _ hb=>hT2 b hb).of_var hk12 (by decide) hgk
      ·refine⟨Us++[(⟨kind,name,off,data⟩,A8,c8)],?_,?_,fun b hb=>?_,fun p hp=>?_⟩
       ·rw[List.map_append,HU1.out,burnD_unsure];rfl
       ·have:=HRW.out
        rw[HYS.out] at this
        exact this.of_block fun b hb=>hgk b (hBg b hb)
       ·rcases HBB.out with e | e
        ·rw[e] at hb;exact .inl (HU3.out b hb)
        ·rw[e] at hb
         have h12:=(HRW.out.blk_lt b (by rw[e];exact hb)).2
         injection hb with hb
         refine .inr ⟨by omega,by rw[hsz];exact h12⟩
       ·rcases List.mem_append.1 hp with hp | hp
        ·have:=HU412.out p hp
         exact⟨this.1.of_block fun b hb=>hgk b (by rintro rfl;exact this.1.ne_var hk12 (by decide) hb),fun b hb=>.inl (this.2 b hb)⟩
        ·rw[List.mem_singleton] at hp
         subst hp
         refine⟨(HO12.out.base_le (Nat.zero_le _)).of_block fun b hb=>hgk b (by rintro rfl;exact HO12.out.ne_var hk12 (by decide) hb),fun b hb=>.inr ⟨?_,?_⟩⟩
         ·have:=(HO12.out.blk_lt b hb).1;omega
         ·rw[hsz];exact(HO12.out.blk_lt b hb).2
      ·rcases hb with hb | hb
       ·have:=HBND.out b hb;have:=HM12.out.size;rw[hsz];omega
       ·exact hb.2)
     clear HFI12 HSI12 HO12 HU412 HM12 HYS HYL HRW HBB HG2 HWS HBD HU1 HU3 HNEWS
     go_wp2_with fail
     go_ret
     exact HF.out
    ·rw[hbd,if_pos rfl] at hG
     have HF:Hid (PDone S w g cD.2 (.int .i64 cD.1) (.returned (.int .i64 11)) w7):=qh (by
      rw[hG]
      exact⟨rfl,H7.out.sx HM7.out.size HR.out.bnd,HM7.out⟩)
     clear HR HR6 hx6 hB6 H7 h7 hm7 HM7 hG HG BN hx7 hbd HLK HLEN
     go_wp2_with fail
     go_ret
     exact HF.out
  ·have hg1b:decide (0<mo)=false:=by simpa using hg1
   have HG:=qh (HGOOD.out (fun h=>hg1 (hmo1.1 h.1)))
   refine wp_region_planE_gen (by kernel_rfl) [(0,none),(1,none),(2,none),(3,none),(4,none),(5,none),(6,none),(7,none),(8,none),(9,none),(10,none),(11,none),(12,none),(13,none),(14,none),(15,none)] (by kernel_rfl) (by kernel_rfl) (by decide) ?_
   intro wq hwq
   have hBq:Below w4.heap.size w4 wq:=by rw[hwq];exact(Below.refl _ _).drew
   have hB6:=hB4.trans (hBq.mono hB4.size)
   have hx6:=hx4.kept hBq
   have HR6:=qh (HR.out.below hB6)
   clear hwq hB4 hx4 hBq
   iterate 3 (refine planE_pureA ?_)
   refine planE_skip rfl (by rfl) ?_
   try simp only[List.getElem_toArray,List.getElem_cons_succ,List.getElem_cons_zero,Act.put,List.setIfInBounds_toArray,List.set_cons_zero,List.set_cons_succ]
   refine planE_skip rfl (by rfl) ?_
   try simp only[List.getElem_toArray,List.getElem_cons_succ,List.getElem_cons_zero,Act.put,List.setIfInBounds_toArray,List.set_cons_zero,List.set_cons_succ]
   refine planE_skip rfl (by rfl) ?_
   try simp only[List.getElem_toArray,List.getElem_cons_succ,List.getElem_cons_zero,Act.put,List.setIfInBounds_toArray,List.set_cons_zero,List.set_cons_succ]
   refine planE_skip rfl (by rfl) ?_
   try simp only[List.getElem_toArray,List.getElem_cons_succ,List.getElem_cons_zero,Act.put,List.setIfInBounds_toArray,List.set_cons_zero,List.set_cons_succ]
   refine planE_skip rfl (by rfl) ?_
   try simp only[List.getElem_toArray,List.getElem_cons_succ,List.getElem_cons_zero,Act.put,List.setIfInBounds_toArray,List.set_cons_zero,List.set_cons_succ]
   refine planE_skip rfl (by rfl) ?_
   try simp only[List.getElem_toArray,List.getElem_cons_succ,List.getElem_cons_zero,Act.put,List.setIfInBounds_toArray,List.set_cons_zero,List.set_cons_succ]
   refine planE_skip rfl (by rfl) ?_
   try simp only[List.getElem_toArray,List.getElem_cons_succ,List.getElem_cons_zero,Act.put,List.setIfInBounds_toArray,List.set_cons_zero,List.set_cons_succ]
   refine planE_skip rfl (by rfl) ?_
   try simp only[List.getElem_toArray,List.getElem_cons_succ,List.getElem_cons_zero,Act.put,List.setIfInBounds_toArray,List.set_cons_zero,List.set_cons_succ]
   refine planE_skip rfl (by rfl) ?_
   try simp only[List.getElem_toArray,List.getElem_cons_succ,List.getElem_cons_zero,Act.put,List.setIfInBounds_toArray,List.set_cons_zero,List.set_cons_succ]
   refine planE_skip rfl (by rfl) ?_
   try simp only[List.getElem_toArray,List.getElem_cons_succ,List.getElem_cons_zero,Act.put,List.setIfInBounds_toArray,List.set_cons_zero,List.set_cons_succ]
   refine planE_skip rfl (by rfl) ?_
   try simp only[List.getElem_toArray,List.getElem_cons_succ,List.getElem_cons_zero,Act.put,List.setIfInBounds_toArray,List.set_cons_zero,List.set_cons_succ]
   refine planE_skip rfl (by rfl) ?_
   try simp only[List.getElem_toArray,List.getElem_cons_succ,List.getElem_cons_zero,Act.put,List.setIfInBounds_toArray,List.set_cons_zero,List.set_cons_succ]
   iterate 1 (refine planE_pureA ?_)
   refine planE_end ?_
   generalize wq=w6 at *
   clear HFULL HGOOD
   have BN:=qh (diskBurn HR6.out)
   go_wp2_with fail
   refine BN.out.mono ?_
   rintro e w7 ⟨rfl,h7,hm7⟩
   have hx7:Blk w7 xb 94 #[.int .i64 kind,.string ⟨name.toArray⟩,.int .i64 (off:Int),.slice Y data.length cy]:=hx6.mods hm7 (fun e=>cells_ne HR6.out.blk hx6 (by decide) e.symm)
   have HM7:Hid (Mods S w w7):=qh ((Mods.of_below hB6).then (hm7.mono fun b _ hb=>by subst hb;exact hmg))
   have H7:=qh h7
   obtain⟨hcok,hG⟩:=HG.out
   cases hbd:(burnD D).down
   ·rw[hbd,if_neg (by simp)] at hG
    have HG2:=qh hG
    have HBD:=qh hbd
    have HY7:=qh ((HYY.out.below hB6).mods hm7 (fun h0 b hb e=>by subst e;exact HYM.out h0 _ hb hmg))
    have CL:=qh (cloneB' Y cy data w7 HY7.out (by omega))
    have z3:=hx7.cell 3 rfl
    clear h7 hm7 hG BN HR6 HG hx6 hB6 hbd HLK HLEN
    go_wp2_with fail
    refine CL.out.mono ?_
    rintro e w8 ⟨A8,c8,rfl,ho8,hb8⟩
    have hx8:=hx7.kept hb8
    have q3:=hx8.free 3
    have z8:=hx8.cell 3 rfl
    have hx9:Blk (w8.setCell ⟨xb,3,none⟩ (.slice A8 data.length c8)) xb 94 #[.int .i64 kind,.string ⟨name.toArray⟩,.int .i64 (off:Int),.slice A8 data.length c8]:=hx8.setCell 3 _
    have hm9:Mods (fun b=>b=xb) w7 (w8.setCell ⟨xb,3,none⟩ (.slice A8 data.length c8)):=Mods.setCell (S:=fun b=>b=xb) (Mods.of_below hb8) ⟨xb,3,none⟩ (.inl rfl) _
    have HR9:=qh (H7.out.other hm9 HXS.out)
    have HM9:Hid (Mods S w (w8.setCell ⟨xb,3,none⟩ (.slice A8 data.length c8))):=qh ((HM7.out.below hb8).setCell _ (.inr (by rw[HXB.out];exact Nat.le_refl _)) _)
    have HO9:=qh (ho8.of_block (w':=w8.setCell ⟨xb,3,none⟩ (.slice A8 data.length c8)) (fun b hb=>Below.heap_setCell _ _ _ b (by rintro rfl;exact ho8.ne_var hx8 (by decide) hb)))
    have HWS:Hid (w.heap.size<=w7.heap.size):=qh HM7.out.size
    clear z3 HM7 H7 CL HY7 hx7 ho8 hm9 hb8
    go_wp2_with fail
    generalize w8.setCell ⟨xb,3,none⟩ (.slice A8 data.length c8)=w9 at *
    clear hx8 q3 z8
    refine wp_region_planE_gen (by kernel_rfl) [(0,none),(1,none),(2,none),(3,none),(4,none),(5,some [3,4])] (by kernel_rfl) (by kernel_rfl) (by decide) ?_
    intro wq hwq
    have hbq:Below w9.heap.size w9 wq:=by rw[hwq];exact(Below.refl _ _).drew
    have HRq:=qh (HR9.out.below hbq)
    have HMq:=qh (HM9.out.below hbq)
    have HOq:=qh (HO9.out.below hbq)
    have hxq:=hx9.kept hbq
    have y0:=hxq.cell 0 rfl
    have y1:=hxq.cell 1 rfl
    have y2:=hxq.cell 2 rfl
    have y3:=hxq.cell 3 rfl
    have c0:=HRq.out.blk.cell 0 rfl
    have DO:=qh (diskDo wq HRq.out.fi ⟨kind,name,off,data⟩ A8 c8 HOq.out.rb HKK.out ho (by omega) (fun k l hkl=>by have:=HRq.out.ok.files k l hkl;omega))
    unfold wrV at DO
    clear hwq hbq HR9 HM9 HO9 hx9
    iterate 3 (refine planE_pureA ?_)
    refine planE_cellsA [(⟨g,0,none⟩,.map (some mf))] ?_
    refine planE_cellsA [(⟨xb,0,none⟩,.int .i64 kind),(⟨xb,1,none⟩,.string ⟨name.toArray⟩),(⟨xb,2,none⟩,.int .i64 (off:Int)),(⟨xb,3,none⟩,.slice A8 data.length c8)] ?_
    refine planE_eff rfl (by rfl) (fun K hK=>?_)
    go_simp
    refine DO.out.mono ?_
    rintro e w10 ⟨rfl,hfi,hmm⟩
    obtain⟨es,hmap⟩:=HRq.out.fi.at_
    have hgne:=HRq.out.fi.blk_ne HRq.out.blk
    have hxne:=HRq.out.fi.blk_ne hxq
    have HB10:=qh (HRq.out.blk.mods hmm (fun e=>hgne e.symm))
    have hx10:=hxq.mods hmm (fun e=>hxne e.symm)
    have HFI10:=qh hfi
    have HSI10:=qh (HRq.out.si.of_map hmap (fun e=>HRq.out.ne e.symm) hmm)
    have HUI10:=qh (HRq.out.ui.of_map hmap hmm)
    have HO10:=qh (HOq.out.of_block (w':=w10) fun b hb=>hmm.block b (HOq.out.blk_lt b hb).2 (HRq.out.fi.ob_ne HOq.out b hb))
    have hsz10:=hmm.size
    have HM10:Hid (Mods S w w10):=qh (HMq.out.then (hmm.mono fun b _ hb=>by subst hb;obtain⟨_,_,_,_,h4⟩:=HRq.out.fi;exact h4))
    have hokq:=HRq.out.ok
    have hneq:=HRq.out.ne
    have HBND:=qh HR.out.bnd
    have hsgq:=HRq.out.bnd g hmg
    have HNEWS:Hid (∀b,Sx S wq w10 b->S b\/(w.heap.size<=b/\b<w10.heap.size)):=qh fun b hb=>by
     rcases hb with hb | hb
     ·exact .inl hb
     ·have:=HMq.out.size;exact .inr ⟨by have:=hb.1;omega,hb.2⟩
    have hwqs:=HMq.out.size
    clear y0 y1 y2 y3 c0 DO hmap hgne hxne hfi hmm HOq HMq HRq hxq
    have y0:=hx10.cell 0 rfl
    have y1:=hx10.cell 1 rfl
    have y2:=hx10.cell 2 rfl
    have y3:=hx10.cell 3 rfl
    have c0:=HB10.out.cell 0 rfl
    refine planE_ownA hK ?_
    clear hK K
    refine planE_end ?_
    clear y0 y1 y2 y3 c0
    go_wp2_with fail
    generalize hS10:Sx S wq w10=S10 at *
    clear hS10
    obtain⟨Us,hU1,hU2,hU3,hU4⟩:=HUI10.out
    have HU1:=qh hU1
    have HU2:=qh hU2
    have HU3:=qh hU3
    have HU4:=qh hU4
    have hul:Us.length<=1000000:=by
     have e1:=congrArg List.length hU1
     rw[List.length_map,burnD_unsure] at e1
     unfold DSt.cnt at hcnt
     omega
    have HUL:Hid (Us.length=D.unsure.length):=qh (by have e1:=congrArg List.length hU1;rw[List.length_map,burnD_unsure] at e1;exact e1)
    clear hU1 hU2 hU3 hU4 HUI10
    refine wp_region_planE_gen (by kernel_rfl) [(0,none),(1,none),(2,none),(3,none),(4,none),(5,none),(6,some [5]),(7,some [4]),(8,none),(9,none),(10,some [0,1,2,3,4,5,9])] (by kernel_rfl) (by kernel_rfl) (by decide) ?_
    intro wq hwq
    have hbq:Below w10.heap.size w10 wq:=by rw[hwq];exact(Below.refl _ _).drew
    have HBq:=qh (HB10.out.kept hbq)
    have hxq:=hx10.kept hbq
    have y0:=hxq.cell 0 rfl
    have y1:=hxq.cell 1 rfl
    have y2:=hxq.cell 2 rfl
    have y3:=hxq.cell 3 rfl
    have c2':=HBq.out.cell 2 rfl
    have HFIq:=qh (HFI10.out.below hbq)
    have HSIq:=qh (HSI10.out.below hbq)
    have HOq:=qh (HO10.out.below hbq)
    have HMq:=qh (HM10.out.below hbq)
    have HU2q:=qh (HU2.out.below hbq)
    have HU4q:=qh (fun p hp=>(HU4.out p hp).below hbq)
    have hsq:=hbq.size
    clear hwq hbq HB10 HFI10 HSI10 HO10 HM10 HU2 HU4 hx10
    iterate 4 (refine planE_pureA ?_)
    refine planE_cellsA [(⟨g,2,none⟩,.slice A (burnD D).unsure.length c)] ?_
    refine planE_cellsA [(⟨xb,0,none⟩,.int .i64 kind),(⟨xb,1,none⟩,.string ⟨name.toArray⟩),(⟨xb,2,none⟩,.int .i64 (off:Int)),(⟨xb,3,none⟩,.slice A8 data.length c8)] ?_
    refine planE_eff rfl (by rfl) (fun K hK=>?_)
    go_simp
    have hb2:Below wq.heap.size wq (wq.alloc (.cells #[.int .i64 kind,.string ⟨name.toArray⟩,.int .i64 (off:Int),.slice A8 data.length c8] 94)):=(Below.refl _ _).alloc (Nat.le_refl _) _
    have hL6:=Blk.new wq #[.int .i64 kind,.string ⟨name.toArray⟩,.int .i64 (off:Int),.slice A8 data.length c8] 94
    have HB6:=qh (HBq.out.kept hb2)
    have hx6':=hxq.kept hb2
    have HFI6:=qh (HFIq.out.below hb2)
    have HSI6:=qh (HSIq.out.below hb2)
    have HO6:=qh (HOq.out.below hb2)
    have HM6:=qh (HMq.out.below hb2)
    have HU26:=qh (HU2q.out.below hb2)
    have HU46:=qh (fun p hp=>(HU4q.out p hp).below hb2)
    have hs6:=Nat.le_trans hsq hb2.size
    obtain⟨lb,hlb⟩:∃lb,lb=wq.heap.size:=⟨_,rfl⟩
    rw[<-hlb] at hL6 ⊢
    generalize wq.alloc (.cells #[.int .i64 kind,.string ⟨name.toArray⟩,.int .i64 (off:Int),.slice A8 data.length c8] 94)=w11 at *
    clear y0 y1 y2 y3 c2' hb2 hlb HBq hxq HFIq HSIq HOq HMq HU2q HU4q hsq
    have y0:=hx6'.cell 0 rfl
    have y1:=hx6'.cell 1 rfl
    have y2:=hx6'.cell 2 rfl
    have y3:=hx6'.cell 3 rfl
    have c2':=HB6.out.cell 2 rfl
    refine planE_ownA hK ?_
    clear hK K
    refine planE_eff rfl (by rfl) (fun K hK=>?_)
    obtain⟨i0,hi0,hz0,hz1,hz2⟩:=info_parts write_info
    refine op_appendS w11 (.tmp 92) (.tmp 94) 64 94 (by rfl) Tryz.underlying64 hi0 hz0 hz1 hz2 rfl (by decide) 0 A (some ⟨lb,0,none⟩) c 1 (Us.map wrRow) [[.int .i64 kind,.string ⟨name.toArray⟩,.int .i64 (off:Int),.slice A8 data.length c8]] (by rw[List.length_map,HUL.out,<-burnD_unsure D];rfl) (by rfl) HU26.out (RS.lit hL6) (by simp) (by simp[Value.oneCell']) (by simp;omega) (by simp;omega) (Nat.zero_le _) ?_
    intro ys B' cu' w12 hys hy1 hy2 hrow hg12 hB'
    have hk12:=HB6.out.grown hg12 (HU26.out.ne_var HB6.out (by decide))
    have HFI12:=qh (HFI6.out.grown_row HU26.out (by decide) hg12)
    have HSI12:=qh (HSI6.out.grown_row HU26.out (by decide) hg12)
    have HO12:=qh (HO6.out.grown_row hg12 (HO6.out.ne_row HU26.out (by decide)))
    have HU412:=qh (fun p hp=>(⟨(HU46.out p hp).1.grown_row hg12 ((HU46.out p hp).1.ne_row HU26.out (by decide)),(HU46.out p hp).2⟩:OBS S w12 p.2.1 p.2.2 p.1.data))
    have HM12:=qh (HM6.out.then (Mods.of_grown hg12 fun k hk=>HU3.out k hk))
    have hys':=hys.out
    have HYS:Hid (ys=(Us++[((⟨kind,name,off,data⟩,A8,c8):Wr × Option Addr × Nat)]).map wrRow):=qh (by rw[hys',List.map_append];rfl)
    have HYL:Hid (ys.length=(D.unsure++[(⟨kind,name,off,data⟩:Wr)]).length):=qh (by rw[HYS.out,List.length_map,List.length_append,List.length_append,HUL.out];rfl)
    have HRW:=qh hrow
    have HBB:=qh hB'
    have hs12:=hg12.size
    clear y0 y1 y2 y3 c2' hL6 hys hys' hy1 hy2 hrow hg12 hB' HB6 HFI6 HSI6 HO6 HM6 HU26 HU46 hx6'
    have c2':=hk12.cell 2 rfl
    have f2:=hk12.free 2
    refine planE_ownA hK ?_
    clear hK K
    iterate 2 (refine planE_pureA ?_)
    refine planE_eff rfl (by rfl) (fun K hK=>?_)
    go_simp
    skip
    refine planE_ownA hK ?_
    clear hK K
    refine planE_end ?_
    have HF:Hid (PDone S w g cD.2 (.int .i64 cD.1) (.returned (.int .i64 0)) (w12.setCell ⟨g,2,none⟩ (.slice B' ys.length cu'))):=qh (by
     rw[HG2.out]
     have hgk:∀b,b≠g->(w12.setCell ⟨g,2,none⟩ (.slice B' ys.length cu')).heap[b]?=w12.heap[b]?:=fun b hb=>Below.heap_setCell _ _ _ b hb
     have hsz:(w12.setCell ⟨g,2,none⟩ (.slice B' ys.length cu')).heap.size=w12.heap.size:=by simp
     have hT:∀b,b<w12.heap.size->S10 b->Sx S w (w12.setCell ⟨g,2,none⟩ (.slice B' ys.length cu')) b:=fun b hb hx=>by
      rcases HNEWS.out b hx with h | h
      ·exact .inl h
      ·exact .inr ⟨h.1,by rw[hsz];exact hb⟩
     have hT2:∀b,S b->Sx S w (w12.setCell ⟨g,2,none⟩ (.slice B' ys.length cu')) b:=fun b hb=>.inl hb
     have hBg:∀b,B'.map (·.block)=some b->b≠g:=fun b hb e=>by subst e;exact HRW.out.ne_var hk12 (by decide) hb
     have hs0:=HWS.out
     refine⟨rfl,⟨mf,ms,B',cu',?_,?_,?_,hneq,?_,.inl hmg,HR.out.ok.changed hcok,fun b hb=>?_⟩,HM12.out.setCell _ (.inl hmg) _⟩
     ·have:=hk12.setCell 2 (.slice B' ys.length cu')
      rw[<-HYL.out]
      rw[HBD.out] at this
      exact this
     ·have h1:=(HFI12.out.mono hT).of_var (w':=w12.setCell ⟨g,2,none⟩ (.slice B' ys.length cu')) hk12 (by decide) hgk
      show FI _ _ _ (List.foldl doF (burnD D).sure (D.unsure++[⟨kind,name,off,data⟩]))
      rw[List.foldl_append]
      have h2:doF (burnD D).files ⟨kind,name,off,data⟩=List.foldl doF (List.foldl doF (burnD D).sure D.unsure) [⟨kind,name,off,data⟩]:=by rw[burnD_files,burnD_sure];rfl
      rw[<-h2]
      exact h1
     ·exact(HSI12.out.mono fun b _ hb=>hT2 b hb).of_var hk12 (by decide) hgk
     ·refine⟨Us++[(⟨kind,name,off,data⟩,A8,c8)],?_,?_,fun b hb=>?_,fun p hp=>?_⟩
      ·rw[List.map_append,HU1.out,burnD_unsure];rfl
      ·have:=HRW.out
       rw[HYS.out] at this
       exact this.of_block fun b hb=>hgk b (hBg b hb)
      ·rcases HBB.out with e | e
       ·rw[e] at hb;exact .inl (HU3.out b hb)
       ·rw[e] at hb
        have h12:=(HRW.out.blk_lt b (by rw[e];exact hb)).2
        injection hb with hb
        refine .inr ⟨by omega,by rw[hsz];exact h12⟩
      ·rcases List.mem_append.1 hp with hp | hp
       ·have:=HU412.out p hp
        exact⟨this.1.of_block fun b hb=>hgk b (by rintro rfl;exact this.1.ne_var hk12 (by decide) hb),fun b hb=>.inl (this.2 b hb)⟩
       ·rw[List.mem_singleton] at hp
        subst hp
        refine⟨(HO12.out.base_le (Nat.zero_le _)).of_block fun b hb=>hgk b (by rintro rfl;exact HO12.out.ne_var hk12 (by decide) hb),fun b hb=>.inr ⟨?_,?_⟩⟩
        ·have:=(HO12.out.blk_lt b hb).1;omega
        ·rw[hsz];exact(HO12.out.blk_lt b hb).2
     ·rcases hb with hb | hb
      ·have:=HBND.out b hb;have:=HM12.out.size;rw[hsz];omega
      ·exact hb.2)
    clear HFI12 HSI12 HO12 HU412 HM12 HYS HYL HRW HBB HG2 HWS HBD HU1 HU3 HNEWS
    go_wp2_with fail
    go_ret
    exact HF.out
   ·rw[hbd,if_pos rfl] at hG
    have HF:Hid (PDone S w g cD.2 (.int .i64 cD.1) (.returned (.int .i64 11)) w7):=qh (by
     rw[hG]
     exact⟨rfl,H7.out.sx HM7.out.size HR.out.bnd,HM7.out⟩)
    clear HR HR6 hx6 hB6 H7 h7 hm7 HM7 hG HG BN hx7 hbd HLK HLEN
    go_wp2_with fail
    go_ret
    exact HF.out
 case false =>
  have HNO:=qh ((HIS.out false hse).1 rfl)
  by_cases hk3:kind=3
  ·have hk3b:(kind != 3)=false:=by rw[hk3];rfl
   have HREST2:=HREST.out (fun h=>h.2.1 hk3)
   clear HREST HMANY HIS HNO hk3
   go_enter Tryz.func74,Tryz.ntmps74
   go_wp2_with fail
   refine AL.out.mono ?_
   rintro e w1 ⟨rfl,rfl⟩
   go_wp2_with fail
   refine NM.out.mono ?_
   rintro e w2 ⟨rfl,hb2⟩
   rw[<-HXB.out]
   have hx2:Blk w2 xb 94 #[.int .i64 kind,.string ⟨name.toArray⟩,.int .i64 (off:Int),.slice Y data.length cy]:=by rw[HXB.out];exact HX.out.kept hb2
   have hB2:=hal.trans (hb2.mono hal.size)
   generalize w.alloc (.cells #[.int .i64 kind,.string ⟨name.toArray⟩,.int .i64 (off:Int),.slice Y data.length cy] 94)=w1 at *
   have z0:=hx2.cell 0 rfl
   have z1:=hx2.cell 1 rfl
   have z2:=hx2.cell 2 rfl
   have hbl2:=(HR.out.below hB2).blk
   have c0:=hbl2.cell 0 rfl
   have hl2:=HLK.out w2 hB2
   have hlen2:=HLEN.out w2 hB2
   rw[hse] at hl2
   clear hb2 y1 AL NM
   go_wp2_with fail
   refine wp_region_planE_gen (by kernel_rfl) [(0,none),(1,none),(2,none),(3,none),(4,none),(5,none),(6,none),(7,none),(8,none),(9,none),(10,none),(11,none)] (by kernel_rfl) (by kernel_rfl) (by decide) ?_
   intro wq hwq
   have hBq:Below w2.heap.size w2 wq:=by rw[hwq];exact(Below.refl _ _).drew
   have hxq:=hx2.kept hBq
   have q0:=hxq.cell 0 rfl
   have q1:=hxq.cell 1 rfl
   have q2:=hxq.cell 2 rfl
   have q3:=hxq.cell 3 rfl
   have hB3:=hB2.trans (hBq.mono hB2.size)
   have d0:=(HR.out.below hB3).blk.cell 0 rfl
   have hlq:=HLK.out wq hB3
   rw[hse] at hlq
   have hlenq:=HLEN.out wq hB3
   clear hwq z0 z1 z2 c0 hl2 hlen2 hx2 hbl2
   iterate 3 (refine planE_pureA ?_)
   refine planE_cellsA [(⟨g,0,none⟩,.map (some mf))] ?_
   iterate 1 (refine planE_pureA ?_)
   refine planE_cellsA [(⟨xb,1,none⟩,.string ⟨name.toArray⟩)] ?_
   refine planE_read (v:=?_) (fun w'=>(Instr.lookup 63 (.map (some mf)) (.string ⟨name.toArray⟩) true).run Tryz.prog w'=.ok (.tuple #[.slice Ao ol co,.bool false]) w') rfl (by rfl) (fun w' hw'=>?_) (hlq) ?_;rotate_left;(focus (simp only[List.getElem_toArray,List.getElem_cons_succ,List.getElem_cons_zero];go_simp;first | with_reducible rfl | (simp (disch:=omega) only [if_pos,if_neg,dif_pos,Result.andThen_ok];try with_reducible rfl) | skip));try simp only[List.getElem_toArray,List.getElem_cons_succ,List.getElem_cons_zero,Act.put,List.setIfInBounds_toArray,List.set_cons_zero,List.set_cons_succ]
   iterate 5 (refine planE_pureA ?_)
   refine planE_end ?_
   clear hB2 hlq
   go_wp2_with fail
   with_reducible refine(HAFT.out _).mono ?_
   rintro e w4 ⟨rfl,hb4⟩
   have hB4:=hB3.trans (hb4.mono hB3.size)
   have hx4:=hxq.kept hb4
   clear q0 q1 q2 q3 d0 hlenq hxq hb4 hBq hB3 HAFT
   go_wp2_with fail
   obtain⟨hfull,hgood⟩:=HREST2
   have HFULL:=qh hfull
   have HGOOD:=qh hgood
   clear hfull hgood
   obtain⟨hroom0,hroom1⟩:=hroom
   generalize hrm:D.room=room at *
   obtain⟨mo,hmo⟩:∃mo:Int,mo=(af:Int) - (ol:Int):=⟨_,rfl⟩
   have hmo1:ol<af ↔ 0<mo:=by omega
   rw[<-hmo] at HFULL HGOOD ⊢
   have hmob:-4194304<=mo/\mo<=150000000000000:=by omega
   obtain⟨hmob1,hmob2⟩:=hmob
   clear hmo
   by_cases hg1:0<mo
   ·have hg1b:decide (0<mo)=true:=by simpa using hg1
    refine wp_region_planE_gen (by kernel_rfl) [(0,none),(1,none),(2,none),(3,none),(4,none),(5,none),(6,none),(8,none),(10,none),(11,none),(12,none),(13,none),(7,some [2,6]),(9,none),(14,none),(15,none)] (by kernel_rfl) (by kernel_rfl) (by decide) ?_
    intro wq hwq
    have hBq:Below w4.heap.size w4 wq:=by rw[hwq];exact(Below.refl _ _).drew
    have hB5:=hB4.trans (hBq.mono hB4.size)
    have hx5:=hx4.kept hBq
    have HR5:=qh (HR.out.below hB5)
    have d0:=HR5.out.blk.cell 0 rfl
    have d3:=HR5.out.blk.cell 3 rfl
    rw[hrm] at d3
    have SZ:=qh (diskSize wq HR5.out.fi (by rw[HFS.out];omega))
    rw[HFS.out] at SZ
    have hw1:IntKind.i64.wrap ((fs:Int)+mo)=(fs:Int)+mo:=IntWalk.i64_in _ (by omega)
    clear hwq hB4 hx4 hBq
    iterate 6 (refine planE_pureA ?_)
    refine planE_cellsA [(⟨g,0,none⟩,.map (some mf))] ?_
    iterate 4 (refine planE_pureA ?_)
    refine planE_cellsA [(⟨g,3,none⟩,.int .i64 room)] ?_
    refine planE_eff rfl (by rfl) (fun K hK=>?_)
    go_simp
    refine SZ.out.mono ?_
    rintro e w6 ⟨rfl,hb6⟩
    have hB6:=hB5.trans (hb6.mono hB5.size)
    have hx6:=hx5.kept hb6
    have HR6:=qh (HR.out.below hB6)
    clear d0 d3 hB5 hx5 HR5 SZ hb6
    have d0:=HR6.out.blk.cell 0 rfl
    have d3:=HR6.out.blk.cell 3 rfl
    rw[hrm] at d3
    refine planE_ownA hK ?_
    clear hK K
    iterate 3 (refine planE_pureA ?_)
    refine planE_end ?_
    clear d0 d3
    by_cases hg2:room<(fs:Int)+mo
    ·have HF:Hid (PDone S w g cD.2 (.int .i64 cD.1) (.returned (.int .i64 10)) w6):=qh (by rw[HFULL.out ⟨hmo1.2 hg1,hg2⟩];exact HR.out.same hB6 (.int .i64 10))
     clear HR HFULL HGOOD HR6 hx6 hB6 HLK HLEN
     go_wp2_with fail
     go_ret
     exact HF.out
    ·have HG:=qh (HGOOD.out (fun h=>hg2 h.2))
     clear HFULL HGOOD
     have BN:=qh (diskBurn HR6.out)
     go_wp2_with fail
     refine BN.out.mono ?_
     rintro e w7 ⟨rfl,h7,hm7⟩
     have hx7:Blk w7 xb 94 #[.int .i64 kind,.string ⟨name.toArray⟩,.int .i64 (off:Int),.slice Y data.length cy]:=hx6.mods hm7 (fun e=>cells_ne HR6.out.blk hx6 (by decide) e.symm)
     have HM7:Hid (Mods S w w7):=qh ((Mods.of_below hB6).then (hm7.mono fun b _ hb=>by subst hb;exact hmg))
     have H7:=qh h7
     obtain⟨hcok,hG⟩:=HG.out
     cases hbd:(burnD D).down
     ·rw[hbd,if_neg (by simp)] at hG
      have HG2:=qh hG
      have HBD:=qh hbd
      have HY7:=qh ((HYY.out.below hB6).mods hm7 (fun h0 b hb e=>by subst e;exact HYM.out h0 _ hb hmg))
      have CL:=qh (cloneB' Y cy data w7 HY7.out (by omega))
      have z3:=hx7.cell 3 rfl
      clear h7 hm7 hG BN HR6 HG hx6 hB6 hbd HLK HLEN
      go_wp2_with fail
      refine CL.out.mono ?_
      rintro e w8 ⟨A8,c8,rfl,ho8,hb8⟩
      have hx8:=hx7.kept hb8
      have q3:=hx8.free 3
      have z8:=hx8.cell 3 rfl
      have hx9:Blk (w8.setCell ⟨xb,3,none⟩ (.slice A8 data.length c8)) xb 94 #[.int .i64 kind,.string ⟨name.toArray⟩,.int .i64 (off:Int),.slice A8 data.length c8]:=hx8.setCell 3 _
      have hm9:Mods (fun b=>b=xb) w7 (w8.setCell ⟨xb,3,none⟩ (.slice A8 data.length c8)):=Mods.setCell (S:=fun b=>b=xb) (Mods.of_below hb8) ⟨xb,3,none⟩ (.inl rfl) _
      have HR9:=qh (H7.out.other hm9 HXS.out)
      have HM9:Hid (Mods S w (w8.setCell ⟨xb,3,none⟩ (.slice A8 data.length c8))):=qh ((HM7.out.below hb8).setCell _ (.inr (by rw[HXB.out];exact Nat.le_refl _)) _)
      have HO9:=qh (ho8.of_block (w':=w8.setCell ⟨xb,3,none⟩ (.slice A8 data.length c8)) (fun b hb=>Below.heap_setCell _ _ _ b (by rintro rfl;exact ho8.ne_var hx8 (by decide) hb)))
      have HWS:Hid (w.heap.size<=w7.heap.size):=qh HM7.out.size
      clear z3 HM7 H7 CL HY7 hx7 ho8 hm9 hb8
      go_wp2_with fail
      generalize w8.setCell ⟨xb,3,none⟩ (.slice A8 data.length c8)=w9 at *
      clear hx8 q3 z8
      refine wp_region_planE_gen (by kernel_rfl) [(0,none),(1,none),(2,none),(3,none),(4,none),(5,some [3,4])] (by kernel_rfl) (by kernel_rfl) (by decide) ?_
      intro wq hwq
      have hbq:Below w9.heap.size w9 wq:=by rw[hwq];exact(Below.refl _ _).drew
      have HRq:=qh (HR9.out.below hbq)
      have HMq:=qh (HM9.out.below hbq)
      have HOq:=qh (HO9.out.below hbq)
      have hxq:=hx9.kept hbq
      have y0:=hxq.cell 0 rfl
      have y1:=hxq.cell 1 rfl
      have y2:=hxq.cell 2 rfl
      have y3:=hxq.cell 3 rfl
      have c0:=HRq.out.blk.cell 0 rfl
      have DO:=qh (diskDo wq HRq.out.fi ⟨kind,name,off,data⟩ A8 c8 HOq.out.rb HKK.out ho (by omega) (fun k l hkl=>by have:=HRq.out.ok.files k l hkl;omega))
      unfold wrV at DO
      clear hwq hbq HR9 HM9 HO9 hx9
      iterate 3 (refine planE_pureA ?_)
      refine planE_cellsA [(⟨g,0,none⟩,.map (some mf))] ?_
      refine planE_cellsA [(⟨xb,0,none⟩,.int .i64 kind),(⟨xb,1,none⟩,.string ⟨name.toArray⟩),(⟨xb,2,none⟩,.int .i64 (off:Int)),(⟨xb,3,none⟩,.slice A8 data.length c8)] ?_
      refine planE_eff rfl (by rfl) (fun K hK=>?_)
      go_simp
      refine DO.out.mono ?_
      rintro e w10 ⟨rfl,hfi,hmm⟩
      obtain⟨es,hmap⟩:=HRq.out.fi.at_
      have hgne:=HRq.out.fi.blk_ne HRq.out.blk
      have hxne:=HRq.out.fi.blk_ne hxq
      have HB10:=qh (HRq.out.blk.mods hmm (fun e=>hgne e.symm))
      have hx10:=hxq.mods hmm (fun e=>hxne e.symm)
      have HFI10:=qh hfi
      have HSI10:=qh (HRq.out.si.of_map hmap (fun e=>HRq.out.ne e.symm) hmm)
      have HUI10:=qh (HRq.out.ui.of_map hmap hmm)
      have HO10:=qh (HOq.out.of_block (w':=w10) fun b hb=>hmm.block b (HOq.out.blk_lt b hb).2 (HRq.out.fi.ob_ne HOq.out b hb))
      have hsz10:=hmm.size
      have HM10:Hid (Mods S w w10):=qh (HMq.out.then (hmm.mono fun b _ hb=>by subst hb;obtain⟨_,_,_,_,h4⟩:=HRq.out.fi;exact h4))
      have hokq:=HRq.out.ok
      have hneq:=HRq.out.ne
      have HBND:=qh HR.out.bnd
      have hsgq:=HRq.out.bnd g hmg
      have HNEWS:Hid (∀b,Sx S wq w10 b->S b\/(w.heap.size<=b/\b<w10.heap.size)):=qh fun b hb=>by
       rcases hb with hb | hb
       ·exact .inl hb
       ·have:=HMq.out.size;exact .inr ⟨by have:=hb.1;omega,hb.2⟩
      have hwqs:=HMq.out.size
      clear y0 y1 y2 y3 c0 DO hmap hgne hxne hfi hmm HOq HMq HRq hxq
      have y0:=hx10.cell 0 rfl
      have y1:=hx10.cell 1 rfl
      have y2:=hx10.cell 2 rfl
      have y3:=hx10.cell 3 rfl
      have c0:=HB10.out.cell 0 rfl
      refine planE_ownA hK ?_
      clear hK K
      refine planE_end ?_
      clear y0 y1 y2 y3 c0
      go_wp2_with fail
      generalize hS10:Sx S wq w10=S10 at *
      clear hS10
      obtain⟨Us,hU1,hU2,hU3,hU4⟩:=HUI10.out
      have HU1:=qh hU1
      have HU2:=qh hU2
      have HU3:=qh hU3
      have HU4:=qh hU4
      have hul:Us.length<=1000000:=by
       have e1:=congrArg List.length hU1
       rw[List.length_map,burnD_unsure] at e1
       unfold DSt.cnt at hcnt
       omega
      have HUL:Hid (Us.length=D.unsure.length):=qh (by have e1:=congrArg List.length hU1;rw[List.length_map,burnD_unsure] at e1;exact e1)
      clear hU1 hU2 hU3 hU4 HUI10
      refine wp_region_planE_gen (by kernel_rfl) [(0,none),(1,none),(2,none),(3,none),(4,none),(5,none),(6,some [5]),(7,some [4]),(8,none),(9,none),(10,some [0,1,2,3,4,5,9])] (by kernel_rfl) (by kernel_rfl) (by decide) ?_
      intro wq hwq
      have hbq:Below w10.heap.size w10 wq:=by rw[hwq];exact(Below.refl _ _).drew
      have HBq:=qh (HB10.out.kept hbq)
      have hxq:=hx10.kept hbq
      have y0:=hxq.cell 0 rfl
      have y1:=hxq.cell 1 rfl
      have y2:=hxq.cell 2 rfl
      have y3:=hxq.cell 3 rfl
      have c2':=HBq.out.cell 2 rfl
      have HFIq:=qh (HFI10.out.below hbq)
      have HSIq:=qh (HSI10.out.below hbq)
      have HOq:=qh (HO10.out.below hbq)
      have HMq:=qh (HM10.out.below hbq)
      have HU2q:=qh (HU2.out.below hbq)
      have HU4q:=qh (fun p hp=>(HU4.out p hp).below hbq)
      have hsq:=hbq.size
      clear hwq hbq HB10 HFI10 HSI10 HO10 HM10 HU2 HU4 hx10
      iterate 4 (refine planE_pureA ?_)
      refine planE_cellsA [(⟨g,2,none⟩,.slice A (burnD D).unsure.length c)] ?_
      refine planE_cellsA [(⟨xb,0,none⟩,.int .i64 kind),(⟨xb,1,none⟩,.string ⟨name.toArray⟩),(⟨xb,2,none⟩,.int .i64 (off:Int)),(⟨xb,3,none⟩,.slice A8 data.length c8)] ?_
      refine planE_eff rfl (by rfl) (fun K hK=>?_)
      go_simp
      have hb2:Below wq.heap.size wq (wq.alloc (.cells #[.int .i64 kind,.string ⟨name.toArray⟩,.int .i64 (off:Int),.slice A8 data.length c8] 94)):=(Below.refl _ _).alloc (Nat.le_refl _) _
      have hL6:=Blk.new wq #[.int .i64 kind,.string ⟨name.toArray⟩,.int .i64 (off:Int),.slice A8 data.length c8] 94
      have HB6:=qh (HBq.out.kept hb2)
      have hx6':=hxq.kept hb2
      have HFI6:=qh (HFIq.out.below hb2)
      have HSI6:=qh (HSIq.out.below hb2)
      have HO6:=qh (HOq.out.below hb2)
      have HM6:=qh (HMq.out.below hb2)
      have HU26:=qh (HU2q.out.below hb2)
      have HU46:=qh (fun p hp=>(HU4q.out p hp).below hb2)
      have hs6:=Nat.le_trans hsq hb2.size
      obtain⟨lb,hlb⟩:∃lb,lb=wq.heap.size:=⟨_,rfl⟩
      rw[<-hlb] at hL6 ⊢
      generalize wq.alloc (.cells #[.int .i64 kind,.string ⟨name.toArray⟩,.int .i64 (off:Int),.slice A8 data.length c8] 94)=w11 at *
      clear y0 y1 y2 y3 c2' hb2 hlb HBq hxq HFIq HSIq HOq HMq HU2q HU4q hsq
      have y0:=hx6'.cell 0 rfl
      have y1:=hx6'.cell 1 rfl
      have y2:=hx6'.cell 2 rfl
      have y3:=hx6'.cell 3 rfl
      have c2':=HB6.out.cell 2 rfl
      refine planE_ownA hK ?_
      clear hK K
      refine planE_eff rfl (by rfl) (fun K hK=>?_)
      obtain⟨i0,hi0,hz0,hz1,hz2⟩:=info_parts write_info
      refine op_appendS w11 (.tmp 92) (.tmp 94) 64 94 (by rfl) Tryz.underlying64 hi0 hz0 hz1 hz2 rfl (by decide) 0 A (some ⟨lb,0,none⟩) c 1 (Us.map wrRow) [[.int .i64 kind,.string ⟨name.toArray⟩,.int .i64 (off:Int),.slice A8 data.length c8]] (by rw[List.length_map,HUL.out,<-burnD_unsure D];rfl) (by rfl) HU26.out (RS.lit hL6) (by simp) (by simp[Value.oneCell']) (by simp;omega) (by simp;omega) (Nat.zero_le _) ?_
      intro ys B' cu' w12 hys hy1 hy2 hrow hg12 hB'
      have hk12:=HB6.out.grown hg12 (HU26.out.ne_var HB6.out (by decide))
      have HFI12:=qh (HFI6.out.grown_row HU26.out (by decide) hg12)
      have HSI12:=qh (HSI6.out.grown_row HU26.out (by decide) hg12)
      have HO12:=qh (HO6.out.grown_row hg12 (HO6.out.ne_row HU26.out (by decide)))
      have HU412:=qh (fun p hp=>(⟨(HU46.out p hp).1.grown_row hg12 ((HU46.out p hp).1.ne_row HU26.out (by decide)),(HU46.out p hp).2⟩:OBS S w12 p.2.1 p.2.2 p.1.data))
      have HM12:=qh (HM6.out.then (Mods.of_grown hg12 fun k hk=>HU3.out k hk))
      have hys':=hys.out
      have HYS:Hid (ys=(Us++[((⟨kind,name,off,data⟩,A8,c8):Wr × Option Addr × Nat)]).map wrRow):=qh (by rw[hys',List.map_append];rfl)
      have HYL:Hid (ys.length=(D.unsure++[(⟨kind,name,off,data⟩:Wr)]).length):=qh (by rw[HYS.out,List.length_map,List.length_append,List.length_append,HUL.out];rfl)
      have HRW:=qh hrow
      have HBB:=qh hB'
      have hs12:=hg12.size
      clear y0 y1 y2 y3 c2' hL6 hys hys' hy1 hy2 hrow hg12 hB' HB6 HFI6 HSI6 HO6 HM6 HU26 HU46 hx6'
      have c2':=hk12.cell 2 rfl
      have f2:=hk12.free 2
      refine planE_ownA hK ?_
      clear hK K
      iterate 2 (refine planE_pureA ?_)
      refine planE_eff rfl (by rfl) (fun K hK=>?_)
      go_simp
      skip
      refine planE_ownA hK ?_
      clear hK K
      refine planE_end ?_
      have HF:Hid (PDone S w g cD.2 (.int .i64 cD.1) (.returned (.int .i64 0)) (w12.setCell ⟨g,2,none⟩ (.slice B' ys.length cu'))):=qh (by
       rw[HG2.out]
       have hgk:∀b,b≠g->(w12.setCell ⟨g,2,none⟩ (.slice B' ys.length cu')).heap[b]?=w12.heap[b]?:=fun b hb=>Below.heap_setCell _ _ _ b hb
       have hsz:(w12.setCell ⟨g,2,none⟩ (.slice B' ys.length cu')).heap.size=w12.heap.size:=by simp
       have hT:∀b,b<w12.heap.size->S10 b->Sx S w (w12.setCell ⟨g,2,none⟩ (.slice B' ys.length cu')) b:=fun b hb hx=>by
        rcases HNEWS.out b hx with h | h
        ·exact .inl h
        ·exact .inr ⟨h.1,by rw[hsz];exact hb⟩
       have hT2:∀b,S b->Sx S w (w12.setCell ⟨g,2,none⟩ (.slice B' ys.length cu')) b:=fun b hb=>.inl hb
       have hBg:∀b,B'.map (·.block)=some b->b≠g:=fun b hb e=>by subst e;exact HRW.out.ne_var hk12 (by decide) hb
       have hs0:=HWS.out
       refine⟨rfl,⟨mf,ms,B',cu',?_,?_,?_,hneq,?_,.inl hmg,HR.out.ok.changed hcok,fun b hb=>?_⟩,HM12.out.setCell _ (.inl hmg) _⟩
       ·have:=hk12.setCell 2 (.slice B' ys.length cu')
        rw[<-HYL.out]
        rw[HBD.out] at this
        exact this
       ·have h1:=(HFI12.out.mono hT).of_var (w':=w12.setCell ⟨g,2,none⟩ (.slice B' ys.length cu')) hk12 (by decide) hgk
        show FI _ _ _ (List.foldl doF (burnD D).sure (D.unsure++[⟨kind,name,off,data⟩]))
        rw[List.foldl_append]
        have h2:doF (burnD D).files ⟨kind,name,off,data⟩=List.foldl doF (List.foldl doF (burnD D).sure D.unsure) [⟨kind,name,off,data⟩]:=by rw[burnD_files,burnD_sure];rfl
        rw[<-h2]
        exact h1
       ·exact(HSI12.out.mono fun b _ hb=>hT2 b hb).of_var hk12 (by decide) hgk
       ·refine⟨Us++[(⟨kind,name,off,data⟩,A8,c8)],?_,?_,fun b hb=>?_,fun p hp=>?_⟩
        ·rw[List.map_append,HU1.out,burnD_unsure];rfl
        ·have:=HRW.out
         rw[HYS.out] at this
         exact this.of_block fun b hb=>hgk b (hBg b hb)
        ·rcases HBB.out with e | e
         ·rw[e] at hb;exact .inl (HU3.out b hb)
         ·rw[e] at hb
          have h12:=(HRW.out.blk_lt b (by rw[e];exact hb)).2
          injection hb with hb
          refine .inr ⟨by omega,by rw[hsz];exact h12⟩
        ·rcases List.mem_append.1 hp with hp | hp
         ·have:=HU412.out p hp
          exact⟨this.1.of_block fun b hb=>hgk b (by rintro rfl;exact this.1.ne_var hk12 (by decide) hb),fun b hb=>.inl (this.2 b hb)⟩
         ·rw[List.mem_singleton] at hp
          subst hp
          refine⟨(HO12.out.base_le (Nat.zero_le _)).of_block fun b hb=>hgk b (by rintro rfl;exact HO12.out.ne_var hk12 (by decide) hb),fun b hb=>.inr ⟨?_,?_⟩⟩
          ·have:=(HO12.out.blk_lt b hb).1;omega
          ·rw[hsz];exact(HO12.out.blk_lt b hb).2
       ·rcases hb with hb | hb
        ·have:=HBND.out b hb;have:=HM12.out.size;rw[hsz];omega
        ·exact hb.2)
      clear HFI12 HSI12 HO12 HU412 HM12 HYS HYL HRW HBB HG2 HWS HBD HU1 HU3 HNEWS
      go_wp2_with fail
      go_ret
      exact HF.out
     ·rw[hbd,if_pos rfl] at hG
      have HF:Hid (PDone S w g cD.2 (.int .i64 cD.1) (.returned (.int .i64 11)) w7):=qh (by
       rw[hG]
       exact⟨rfl,H7.out.sx HM7.out.size HR.out.bnd,HM7.out⟩)
      clear HR HR6 hx6 hB6 H7 h7 hm7 HM7 hG HG BN hx7 hbd HLK HLEN
      go_wp2_with fail
      go_ret
      exact HF.out
   ·have hg1b:decide (0<mo)=false:=by simpa using hg1
    have HG:=qh (HGOOD.out (fun h=>hg1 (hmo1.1 h.1)))
    refine wp_region_planE_gen (by kernel_rfl) [(0,none),(1,none),(2,none),(3,none),(4,none),(5,none),(6,none),(7,none),(8,none),(9,none),(10,none),(11,none),(12,none),(13,none),(14,none),(15,none)] (by kernel_rfl) (by kernel_rfl) (by decide) ?_
    intro wq hwq
    have hBq:Below w4.heap.size w4 wq:=by rw[hwq];exact(Below.refl _ _).drew
    have hB6:=hB4.trans (hBq.mono hB4.size)
    have hx6:=hx4.kept hBq
    have HR6:=qh (HR.out.below hB6)
    clear hwq hB4 hx4 hBq
    iterate 3 (refine planE_pureA ?_)
    refine planE_skip rfl (by rfl) ?_
    try simp only[List.getElem_toArray,List.getElem_cons_succ,List.getElem_cons_zero,Act.put,List.setIfInBounds_toArray,List.set_cons_zero,List.set_cons_succ]
    refine planE_skip rfl (by rfl) ?_
    try simp only[List.getElem_toArray,List.getElem_cons_succ,List.getElem_cons_zero,Act.put,List.setIfInBounds_toArray,List.set_cons_zero,List.set_cons_succ]
    refine planE_skip rfl (by rfl) ?_
    try simp only[List.getElem_toArray,List.getElem_cons_succ,List.getElem_cons_zero,Act.put,List.setIfInBounds_toArray,List.set_cons_zero,List.set_cons_succ]
    refine planE_skip rfl (by rfl) ?_
    try simp only[List.getElem_toArray,List.getElem_cons_succ,List.getElem_cons_zero,Act.put,List.setIfInBounds_toArray,List.set_cons_zero,List.set_cons_succ]
    refine planE_skip rfl (by rfl) ?_
    try simp only[List.getElem_toArray,List.getElem_cons_succ,List.getElem_cons_zero,Act.put,List.setIfInBounds_toArray,List.set_cons_zero,List.set_cons_succ]
    refine planE_skip rfl (by rfl) ?_
    try simp only[List.getElem_toArray,List.getElem_cons_succ,List.getElem_cons_zero,Act.put,List.setIfInBounds_toArray,List.set_cons_zero,List.set_cons_succ]
    refine planE_skip rfl (by rfl) ?_
    try simp only[List.getElem_toArray,List.getElem_cons_succ,List.getElem_cons_zero,Act.put,List.setIfInBounds_toArray,List.set_cons_zero,List.set_cons_succ]
    refine planE_skip rfl (by rfl) ?_
    try simp only[List.getElem_toArray,List.getElem_cons_succ,List.getElem_cons_zero,Act.put,List.setIfInBounds_toArray,List.set_cons_zero,List.set_cons_succ]
    refine planE_skip rfl (by rfl) ?_
    try simp only[List.getElem_toArray,List.getElem_cons_succ,List.getElem_cons_zero,Act.put,List.setIfInBounds_toArray,List.set_cons_zero,List.set_cons_succ]
    refine planE_skip rfl (by rfl) ?_
    try simp only[List.getElem_toArray,List.getElem_cons_succ,List.getElem_cons_zero,Act.put,List.setIfInBounds_toArray,List.set_cons_zero,List.set_cons_succ]
    refine planE_skip rfl (by rfl) ?_
    try simp only[List.getElem_toArray,List.getElem_cons_succ,List.getElem_cons_zero,Act.put,List.setIfInBounds_toArray,List.set_cons_zero,List.set_cons_succ]
    refine planE_skip rfl (by rfl) ?_
    try simp only[List.getElem_toArray,List.getElem_cons_succ,List.getElem_cons_zero,Act.put,List.setIfInBounds_toArray,List.set_cons_zero,List.set_cons_succ]
    iterate 1 (refine planE_pureA ?_)
    refine planE_end ?_
    generalize wq=w6 at *
    clear HFULL HGOOD
    have BN:=qh (diskBurn HR6.out)
    go_wp2_with fail
    refine BN.out.mono ?_
    rintro e w7 ⟨rfl,h7,hm7⟩
    have hx7:Blk w7 xb 94 #[.int .i64 kind,.string ⟨name.toArray⟩,.int .i64 (off:Int),.slice Y data.length cy]:=hx6.mods hm7 (fun e=>cells_ne HR6.out.blk hx6 (by decide) e.symm)
    have HM7:Hid (Mods S w w7):=qh ((Mods.of_below hB6).then (hm7.mono fun b _ hb=>by subst hb;exact hmg))
    have H7:=qh h7
    obtain⟨hcok,hG⟩:=HG.out
    cases hbd:(burnD D).down
    ·rw[hbd,if_neg (by simp)] at hG
     have HG2:=qh hG
     have HBD:=qh hbd
     have HY7:=qh ((HYY.out.below hB6).mods hm7 (fun h0 b hb e=>by subst e;exact HYM.out h0 _ hb hmg))
     have CL:=qh (cloneB' Y cy data w7 HY7.out (by omega))
     have z3:=hx7.cell 3 rfl
     clear h7 hm7 hG BN HR6 HG hx6 hB6 hbd HLK HLEN
     go_wp2_with fail
     refine CL.out.mono ?_
     rintro e w8 ⟨A8,c8,rfl,ho8,hb8⟩
     have hx8:=hx7.kept hb8
     have q3:=hx8.free 3
     have z8:=hx8.cell 3 rfl
     have hx9:Blk (w8.setCell ⟨xb,3,none⟩ (.slice A8 data.length c8)) xb 94 #[.int .i64 kind,.string ⟨name.toArray⟩,.int .i64 (off:Int),.slice A8 data.length c8]:=hx8.setCell 3 _
     have hm9:Mods (fun b=>b=xb) w7 (w8.setCell ⟨xb,3,none⟩ (.slice A8 data.length c8)):=Mods.setCell (S:=fun b=>b=xb) (Mods.of_below hb8) ⟨xb,3,none⟩ (.inl rfl) _
     have HR9:=qh (H7.out.other hm9 HXS.out)
     have HM9:Hid (Mods S w (w8.setCell ⟨xb,3,none⟩ (.slice A8 data.length c8))):=qh ((HM7.out.below hb8).setCell _ (.inr (by rw[HXB.out];exact Nat.le_refl _)) _)
     have HO9:=qh (ho8.of_block (w':=w8.setCell ⟨xb,3,none⟩ (.slice A8 data.length c8)) (fun b hb=>Below.heap_setCell _ _ _ b (by rintro rfl;exact ho8.ne_var hx8 (by decide) hb)))
     have HWS:Hid (w.heap.size<=w7.heap.size):=qh HM7.out.size
     clear z3 HM7 H7 CL HY7 hx7 ho8 hm9 hb8
     go_wp2_with fail
     generalize w8.setCell ⟨xb,3,none⟩ (.slice A8 data.length c8)=w9 at *
     clear hx8 q3 z8
     refine wp_region_planE_gen (by kernel_rfl) [(0,none),(1,none),(2,none),(3,none),(4,none),(5,some [3,4])] (by kernel_rfl) (by kernel_rfl) (by decide) ?_
     intro wq hwq
     have hbq:Below w9.heap.size w9 wq:=by rw[hwq];exact(Below.refl _ _).drew
     have HRq:=qh (HR9.out.below hbq)
     have HMq:=qh (HM9.out.below hbq)
     have HOq:=qh (HO9.out.below hbq)
     have hxq:=hx9.kept hbq
     have y0:=hxq.cell 0 rfl
     have y1:=hxq.cell 1 rfl
     have y2:=hxq.cell 2 rfl
     have y3:=hxq.cell 3 rfl
     have c0:=HRq.out.blk.cell 0 rfl
     have DO:=qh (diskDo wq HRq.out.fi ⟨kind,name,off,data⟩ A8 c8 HOq.out.rb HKK.out ho (by omega) (fun k l hkl=>by have:=HRq.out.ok.files k l hkl;omega))
     unfold wrV at DO
     clear hwq hbq HR9 HM9 HO9 hx9
     iterate 3 (refine planE_pureA ?_)
     refine planE_cellsA [(⟨g,0,none⟩,.map (some mf))] ?_
     refine planE_cellsA [(⟨xb,0,none⟩,.int .i64 kind),(⟨xb,1,none⟩,.string ⟨name.toArray⟩),(⟨xb,2,none⟩,.int .i64 (off:Int)),(⟨xb,3,none⟩,.slice A8 data.length c8)] ?_
     refine planE_eff rfl (by rfl) (fun K hK=>?_)
     go_simp
     refine DO.out.mono ?_
     rintro e w10 ⟨rfl,hfi,hmm⟩
     obtain⟨es,hmap⟩:=HRq.out.fi.at_
     have hgne:=HRq.out.fi.blk_ne HRq.out.blk
     have hxne:=HRq.out.fi.blk_ne hxq
     have HB10:=qh (HRq.out.blk.mods hmm (fun e=>hgne e.symm))
     have hx10:=hxq.mods hmm (fun e=>hxne e.symm)
     have HFI10:=qh hfi
     have HSI10:=qh (HRq.out.si.of_map hmap (fun e=>HRq.out.ne e.symm) hmm)
     have HUI10:=qh (HRq.out.ui.of_map hmap hmm)
     have HO10:=qh (HOq.out.of_block (w':=w10) fun b hb=>hmm.block b (HOq.out.blk_lt b hb).2 (HRq.out.fi.ob_ne HOq.out b hb))
     have hsz10:=hmm.size
     have HM10:Hid (Mods S w w10):=qh (HMq.out.then (hmm.mono fun b _ hb=>by subst hb;obtain⟨_,_,_,_,h4⟩:=HRq.out.fi;exact h4))
     have hokq:=HRq.out.ok
     have hneq:=HRq.out.ne
     have HBND:=qh HR.out.bnd
     have hsgq:=HRq.out.bnd g hmg
     have HNEWS:Hid (∀b,Sx S wq w10 b->S b\/(w.heap.size<=b/\b<w10.heap.size)):=qh fun b hb=>by
      rcases hb with hb | hb
      ·exact .inl hb
      ·have:=HMq.out.size;exact .inr ⟨by have:=hb.1;omega,hb.2⟩
     have hwqs:=HMq.out.size
     clear y0 y1 y2 y3 c0 DO hmap hgne hxne hfi hmm HOq HMq HRq hxq
     have y0:=hx10.cell 0 rfl
     have y1:=hx10.cell 1 rfl
     have y2:=hx10.cell 2 rfl
     have y3:=hx10.cell 3 rfl
     have c0:=HB10.out.cell 0 rfl
     refine planE_ownA hK ?_
     clear hK K
     refine planE_end ?_
     clear y0 y1 y2 y3 c0
     go_wp2_with fail
     generalize hS10:Sx S wq w10=S10 at *
     clear hS10
     obtain⟨Us,hU1,hU2,hU3,hU4⟩:=HUI10.out
     have HU1:=qh hU1
     have HU2:=qh hU2
     have HU3:=qh hU3
     have HU4:=qh hU4
     have hul:Us.length<=1000000:=by
      have e1:=congrArg List.length hU1
      rw[List.length_map,burnD_unsure] at e1
      unfold DSt.cnt at hcnt
      omega
     have HUL:Hid (Us.length=D.unsure.length):=qh (by have e1:=congrArg List.length hU1;rw[List.length_map,burnD_unsure] at e1;exact e1)
     clear hU1 hU2 hU3 hU4 HUI10
     refine wp_region_planE_gen (by kernel_rfl) [(0,none),(1,none),(2,none),(3,none),(4,none),(5,none),(6,some [5]),(7,some [4]),(8,none),(9,none),(10,some [0,1,2,3,4,5,9])] (by kernel_rfl) (by kernel_rfl) (by decide) ?_
     intro wq hwq
     have hbq:Below w10.heap.size w10 wq:=by rw[hwq];exact(Below.refl _ _).drew
     have HBq:=qh (HB10.out.kept hbq)
     have hxq:=hx10.kept hbq
     have y0:=hxq.cell 0 rfl
     have y1:=hxq.cell 1 rfl
     have y2:=hxq.cell 2 rfl
     have y3:=hxq.cell 3 rfl
     have c2':=HBq.out.cell 2 rfl
     have HFIq:=qh (HFI10.out.below hbq)
     have HSIq:=qh (HSI10.out.below hbq)
     have HOq:=qh (HO10.out.below hbq)
     have HMq:=qh (HM10.out.below hbq)
     have HU2q:=qh (HU2.out.below hbq)
     have HU4q:=qh (fun p hp=>(HU4.out p hp).below hbq)
     have hsq:=hbq.size
     clear hwq hbq HB10 HFI10 HSI10 HO10 HM10 HU2 HU4 hx10
     iterate 4 (refine planE_pureA ?_)
     refine planE_cellsA [(⟨g,2,none⟩,.slice A (burnD D).unsure.length c)] ?_
     refine planE_cellsA [(⟨xb,0,none⟩,.int .i64 kind),(⟨xb,1,none⟩,.string ⟨name.toArray⟩),(⟨xb,2,none⟩,.int .i64 (off:Int)),(⟨xb,3,none⟩,.slice A8 data.length c8)] ?_
     refine planE_eff rfl (by rfl) (fun K hK=>?_)
     go_simp
     have hb2:Below wq.heap.size wq (wq.alloc (.cells #[.int .i64 kind,.string ⟨name.toArray⟩,.int .i64 (off:Int),.slice A8 data.length c8] 94)):=(Below.refl _ _).alloc (Nat.le_refl _) _
     have hL6:=Blk.new wq #[.int .i64 kind,.string ⟨name.toArray⟩,.int .i64 (off:Int),.slice A8 data.length c8] 94
     have HB6:=qh (HBq.out.kept hb2)
     have hx6':=hxq.kept hb2
     have HFI6:=qh (HFIq.out.below hb2)
     have HSI6:=qh (HSIq.out.below hb2)
     have HO6:=qh (HOq.out.below hb2)
     have HM6:=qh (HMq.out.below hb2)
     have HU26:=qh (HU2q.out.below hb2)
     have HU46:=qh (fun p hp=>(HU4q.out p hp).below hb2)
     have hs6:=Nat.le_trans hsq hb2.size
     obtain⟨lb,hlb⟩:∃lb,lb=wq.heap.size:=⟨_,rfl⟩
     rw[<-hlb] at hL6 ⊢
     generalize wq.alloc (.cells #[.int .i64 kind,.string ⟨name.toArray⟩,.int .i64 (off:Int),.slice A8 data.length c8] 94)=w11 at *
     clear y0 y1 y2 y3 c2' hb2 hlb HBq hxq HFIq HSIq HOq HMq HU2q HU4q hsq
     have y0:=hx6'.cell 0 rfl
     have y1:=hx6'.cell 1 rfl
     have y2:=hx6'.cell 2 rfl
     have y3:=hx6'.cell 3 rfl
     have c2':=HB6.out.cell 2 rfl
     refine planE_ownA hK ?_
     clear hK K
     refine planE_eff rfl (by rfl) (fun K hK=>?_)
     obtain⟨i0,hi0,hz0,hz1,hz2⟩:=info_parts write_info
     refine op_appendS w11 (.tmp 92) (.tmp 94) 64 94 (by rfl) Tryz.underlying64 hi0 hz0 hz1 hz2 rfl (by decide) 0 A (some ⟨lb,0,none⟩) c 1 (Us.map wrRow) [[.int .i64 kind,.string ⟨name.toArray⟩,.int .i64 (off:Int),.slice A8 data.length c8]] (by rw[List.length_map,HUL.out,<-burnD_unsure D];rfl) (by rfl) HU26.out (RS.lit hL6) (by simp) (by simp[Value.oneCell']) (by simp;omega) (by simp;omega) (Nat.zero_le _) ?_
     intro ys B' cu' w12 hys hy1 hy2 hrow hg12 hB'
     have hk12:=HB6.out.grown hg12 (HU26.out.ne_var HB6.out (by decide))
     have HFI12:=qh (HFI6.out.grown_row HU26.out (by decide) hg12)
     have HSI12:=qh (HSI6.out.grown_row HU26.out (by decide) hg12)
     have HO12:=qh (HO6.out.grown_row hg12 (HO6.out.ne_row HU26.out (by decide)))
     have HU412:=qh (fun p hp=>(⟨(HU46.out p hp).1.grown_row hg12 ((HU46.out p hp).1.ne_row HU26.out (by decide)),(HU46.out p hp).2⟩:OBS S w12 p.2.1 p.2.2 p.1.data))
     have HM12:=qh (HM6.out.then (Mods.of_grown hg12 fun k hk=>HU3.out k hk))
     have hys':=hys.out
     have HYS:Hid (ys=(Us++[((⟨kind,name,off,data⟩,A8,c8):Wr × Option Addr × Nat)]).map wrRow):=qh (by rw[hys',List.map_append];rfl)
     have HYL:Hid (ys.length=(D.unsure++[(⟨kind,name,off,data⟩:Wr)]).length):=qh (by rw[HYS.out,List.length_map,List.length_append,List.length_append,HUL.out];rfl)
     have HRW:=qh hrow
     have HBB:=qh hB'
     have hs12:=hg12.size
     clear y0 y1 y2 y3 c2' hL6 hys hys' hy1 hy2 hrow hg12 hB' HB6 HFI6 HSI6 HO6 HM6 HU26 HU46 hx6'
     have c2':=hk12.cell 2 rfl
     have f2:=hk12.free 2
     refine planE_ownA hK ?_
     clear hK K
     iterate 2 (refine planE_pureA ?_)
     refine planE_eff rfl (by rfl) (fun K hK=>?_)
     go_simp
     skip
     refine planE_ownA hK ?_
     clear hK K
     refine planE_end ?_
     have HF:Hid (PDone S w g cD.2 (.int .i64 cD.1) (.returned (.int .i64 0)) (w12.setCell ⟨g,2,none⟩ (.slice B' ys.length cu'))):=qh (by
      rw[HG2.out]
      have hgk:∀b,b≠g->(w12.setCell ⟨g,2,none⟩ (.slice B' ys.length cu')).heap[b]?=w12.heap[b]?:=fun b hb=>Below.heap_setCell _ _ _ b hb
      have hsz:(w12.setCell ⟨g,2,none⟩ (.slice B' ys.length cu')).heap.size=w12.heap.size:=by simp
      have hT:∀b,b<w12.heap.size->S10 b->Sx S w (w12.setCell ⟨g,2,none⟩ (.slice B' ys.length cu')) b:=fun b hb hx=>by
       rcases HNEWS.out b hx with h | h
       ·exact .inl h
       ·exact .inr ⟨h.1,by rw[hsz];exact hb⟩
      have hT2:∀b,S b->Sx S w (w12.setCell ⟨g,2,none⟩ (.slice B' ys.length cu')) b:=fun b hb=>.inl hb
      have hBg:∀b,B'.map (·.block)=some b->b≠g:=fun b hb e=>by subst e;exact HRW.out.ne_var hk12 (by decide) hb
      have hs0:=HWS.out
      refine⟨rfl,⟨mf,ms,B',cu',?_,?_,?_,hneq,?_,.inl hmg,HR.out.ok.changed hcok,fun b hb=>?_⟩,HM12.out.setCell _ (.inl hmg) _⟩
      ·have:=hk12.setCell 2 (.slice B' ys.length cu')
       rw[<-HYL.out]
       rw[HBD.out] at this
       exact this
      ·have h1:=(HFI12.out.mono hT).of_var (w':=w12.setCell ⟨g,2,none⟩ (.slice B' ys.length cu')) hk12 (by decide) hgk
       show FI _ _ _ (List.foldl doF (burnD D).sure (D.unsure++[⟨kind,name,off,data⟩]))
       rw[List.foldl_append]
       have h2:doF (burnD D).files ⟨kind,name,off,data⟩=List.foldl doF (List.foldl doF (burnD D).sure D.unsure) [⟨kind,name,off,data⟩]:=by rw[burnD_files,burnD_sure];rfl
       rw[<-h2]
       exact h1
      ·exact(HSI12.out.mono fun b _ hb=>hT2 b hb).of_var hk12 (by decide) hgk
      ·refine⟨Us++[(⟨kind,name,off,data⟩,A8,c8)],?_,?_,fun b hb=>?_,fun p hp=>?_⟩
       ·rw[List.map_append,HU1.out,burnD_unsure];rfl
       ·have:=HRW.out
        rw[HYS.out] at this
        exact this.of_block fun b hb=>hgk b (hBg b hb)
       ·rcases HBB.out with e | e
        ·rw[e] at hb;exact .inl (HU3.out b hb)
        ·rw[e] at hb
         have h12:=(HRW.out.blk_lt b (by rw[e];exact hb)).2
         injection hb with hb
         refine .inr ⟨by omega,by rw[hsz];exact h12⟩
       ·rcases List.mem_append.1 hp with hp | hp
        ·have:=HU412.out p hp
         exact⟨this.1.of_block fun b hb=>hgk b (by rintro rfl;exact this.1.ne_var hk12 (by decide) hb),fun b hb=>.inl (this.2 b hb)⟩
        ·rw[List.mem_singleton] at hp
         subst hp
         refine⟨(HO12.out.base_le (Nat.zero_le _)).of_block fun b hb=>hgk b (by rintro rfl;exact HO12.out.ne_var hk12 (by decide) hb),fun b hb=>.inr ⟨?_,?_⟩⟩
         ·have:=(HO12.out.blk_lt b hb).1;omega
         ·rw[hsz];exact(HO12.out.blk_lt b hb).2
      ·rcases hb with hb | hb
       ·have:=HBND.out b hb;have:=HM12.out.size;rw[hsz];omega
       ·exact hb.2)
     clear HFI12 HSI12 HO12 HU412 HM12 HYS HYL HRW HBB HG2 HWS HBD HU1 HU3 HNEWS
     go_wp2_with fail
     go_ret
     exact HF.out
    ·rw[hbd,if_pos rfl] at hG
     have HF:Hid (PDone S w g cD.2 (.int .i64 cD.1) (.returned (.int .i64 11)) w7):=qh (by
      rw[hG]
      exact⟨rfl,H7.out.sx HM7.out.size HR.out.bnd,HM7.out⟩)
     clear HR HR6 hx6 hB6 H7 h7 hm7 HM7 hG HG BN hx7 hbd HLK HLEN
     go_wp2_with fail
     go_ret
     exact HF.out
  ·have hk3b:(kind != 3)=true:=by rw[bne_iff_ne];exact hk3
   by_cases hlen:D.files.length<4096
   ·have HREST2:=HREST.out (fun h=>by omega)
    clear HREST HMANY HIS HNO hk3
    go_enter Tryz.func74,Tryz.ntmps74
    go_wp2_with fail
    refine AL.out.mono ?_
    rintro e w1 ⟨rfl,rfl⟩
    go_wp2_with fail
    refine NM.out.mono ?_
    rintro e w2 ⟨rfl,hb2⟩
    rw[<-HXB.out]
    have hx2:Blk w2 xb 94 #[.int .i64 kind,.string ⟨name.toArray⟩,.int .i64 (off:Int),.slice Y data.length cy]:=by rw[HXB.out];exact HX.out.kept hb2
    have hB2:=hal.trans (hb2.mono hal.size)
    generalize w.alloc (.cells #[.int .i64 kind,.string ⟨name.toArray⟩,.int .i64 (off:Int),.slice Y data.length cy] 94)=w1 at *
    have z0:=hx2.cell 0 rfl
    have z1:=hx2.cell 1 rfl
    have z2:=hx2.cell 2 rfl
    have hbl2:=(HR.out.below hB2).blk
    have c0:=hbl2.cell 0 rfl
    have hl2:=HLK.out w2 hB2
    have hlen2:=HLEN.out w2 hB2
    rw[hse] at hl2
    clear hb2 y1 AL NM
    go_wp2_with fail
    refine wp_region_planE_gen (by kernel_rfl) [(0,none),(1,none),(2,none),(3,none),(4,none),(5,none),(6,none),(7,none),(8,none),(9,none),(10,none),(11,none)] (by kernel_rfl) (by kernel_rfl) (by decide) ?_
    intro wq hwq
    have hBq:Below w2.heap.size w2 wq:=by rw[hwq];exact(Below.refl _ _).drew
    have hxq:=hx2.kept hBq
    have q0:=hxq.cell 0 rfl
    have q1:=hxq.cell 1 rfl
    have q2:=hxq.cell 2 rfl
    have q3:=hxq.cell 3 rfl
    have hB3:=hB2.trans (hBq.mono hB2.size)
    have d0:=(HR.out.below hB3).blk.cell 0 rfl
    have hlq:=HLK.out wq hB3
    rw[hse] at hlq
    have hlenq:=HLEN.out wq hB3
    clear hwq z0 z1 z2 c0 hl2 hlen2 hx2 hbl2
    iterate 3 (refine planE_pureA ?_)
    refine planE_cellsA [(⟨g,0,none⟩,.map (some mf))] ?_
    iterate 1 (refine planE_pureA ?_)
    refine planE_cellsA [(⟨xb,1,none⟩,.string ⟨name.toArray⟩)] ?_
    refine planE_read (v:=?_) (fun w'=>(Instr.lookup 63 (.map (some mf)) (.string ⟨name.toArray⟩) true).run Tryz.prog w'=.ok (.tuple #[.slice Ao ol co,.bool false]) w') rfl (by rfl) (fun w' hw'=>?_) (hlq) ?_;rotate_left;(focus (simp only[List.getElem_toArray,List.getElem_cons_succ,List.getElem_cons_zero];go_simp;first | with_reducible rfl | (simp (disch:=omega) only [if_pos,if_neg,dif_pos,Result.andThen_ok];try with_reducible rfl) | skip));try simp only[List.getElem_toArray,List.getElem_cons_succ,List.getElem_cons_zero,Act.put,List.setIfInBounds_toArray,List.set_cons_zero,List.set_cons_succ]
    iterate 5 (refine planE_pureA ?_)
    refine planE_end ?_
    clear hB2 hlq
    go_wp2_with fail
    with_reducible refine(HAFT.out _).mono ?_
    rintro e w4 ⟨rfl,hb4⟩
    have hB4:=hB3.trans (hb4.mono hB3.size)
    have hx4:=hxq.kept hb4
    clear q0 q1 q2 q3 d0 hlenq hxq hb4 hBq hB3 HAFT
    go_wp2_with fail
    obtain⟨hfull,hgood⟩:=HREST2
    have HFULL:=qh hfull
    have HGOOD:=qh hgood
    clear hfull hgood
    obtain⟨hroom0,hroom1⟩:=hroom
    generalize hrm:D.room=room at *
    obtain⟨mo,hmo⟩:∃mo:Int,mo=(af:Int) - (ol:Int):=⟨_,rfl⟩
    have hmo1:ol<af ↔ 0<mo:=by omega
    rw[<-hmo] at HFULL HGOOD ⊢
    have hmob:-4194304<=mo/\mo<=150000000000000:=by omega
    obtain⟨hmob1,hmob2⟩:=hmob
    clear hmo
    by_cases hg1:0<mo
    ·have hg1b:decide (0<mo)=true:=by simpa using hg1
     refine wp_region_planE_gen (by kernel_rfl) [(0,none),(1,none),(2,none),(3,none),(4,none),(5,none),(6,none),(8,none),(10,none),(11,none),(12,none),(13,none),(7,some [2,6]),(9,none),(14,none),(15,none)] (by kernel_rfl) (by kernel_rfl) (by decide) ?_
     intro wq hwq
     have hBq:Below w4.heap.size w4 wq:=by rw[hwq];exact(Below.refl _ _).drew
     have hB5:=hB4.trans (hBq.mono hB4.size)
     have hx5:=hx4.kept hBq
     have HR5:=qh (HR.out.below hB5)
     have d0:=HR5.out.blk.cell 0 rfl
     have d3:=HR5.out.blk.cell 3 rfl
     rw[hrm] at d3
     have SZ:=qh (diskSize wq HR5.out.fi (by rw[HFS.out];omega))
     rw[HFS.out] at SZ
     have hw1:IntKind.i64.wrap ((fs:Int)+mo)=(fs:Int)+mo:=IntWalk.i64_in _ (by omega)
     clear hwq hB4 hx4 hBq
     iterate 6 (refine planE_pureA ?_)
     refine planE_cellsA [(⟨g,0,none⟩,.map (some mf))] ?_
     iterate 4 (refine planE_pureA ?_)
     refine planE_cellsA [(⟨g,3,none⟩,.int .i64 room)] ?_
     refine planE_eff rfl (by rfl) (fun K hK=>?_)
     go_simp
     refine SZ.out.mono ?_
     rintro e w6 ⟨rfl,hb6⟩
     have hB6:=hB5.trans (hb6.mono hB5.size)
     have hx6:=hx5.kept hb6
     have HR6:=qh (HR.out.below hB6)
     clear d0 d3 hB5 hx5 HR5 SZ hb6
     have d0:=HR6.out.blk.cell 0 rfl
     have d3:=HR6.out.blk.cell 3 rfl
     rw[hrm] at d3
     refine planE_ownA hK ?_
     clear hK K
     iterate 3 (refine planE_pureA ?_)
     refine planE_end ?_
     clear d0 d3
     by_cases hg2:room<(fs:Int)+mo
     ·have HF:Hid (PDone S w g cD.2 (.int .i64 cD.1) (.returned (.int .i64 10)) w6):=qh (by rw[HFULL.out ⟨hmo1.2 hg1,hg2⟩];exact HR.out.same hB6 (.int .i64 10))
      clear HR HFULL HGOOD HR6 hx6 hB6 HLK HLEN
      go_wp2_with fail
      go_ret
      exact HF.out
     ·have HG:=qh (HGOOD.out (fun h=>hg2 h.2))
      clear HFULL HGOOD
      have BN:=qh (diskBurn HR6.out)
      go_wp2_with fail
      refine BN.out.mono ?_
      rintro e w7 ⟨rfl,h7,hm7⟩
      have hx7:Blk w7 xb 94 #[.int .i64 kind,.string ⟨name.toArray⟩,.int .i64 (off:Int),.slice Y data.length cy]:=hx6.mods hm7 (fun e=>cells_ne HR6.out.blk hx6 (by decide) e.symm)
      have HM7:Hid (Mods S w w7):=qh ((Mods.of_below hB6).then (hm7.mono fun b _ hb=>by subst hb;exact hmg))
      have H7:=qh h7
      obtain⟨hcok,hG⟩:=HG.out
      cases hbd:(burnD D).down
      ·rw[hbd,if_neg (by simp)] at hG
       have HG2:=qh hG
       have HBD:=qh hbd
       have HY7:=qh ((HYY.out.below hB6).mods hm7 (fun h0 b hb e=>by subst e;exact HYM.out h0 _ hb hmg))
       have CL:=qh (cloneB' Y cy data w7 HY7.out (by omega))
       have z3:=hx7.cell 3 rfl
       clear h7 hm7 hG BN HR6 HG hx6 hB6 hbd HLK HLEN
       go_wp2_with fail
       refine CL.out.mono ?_
       rintro e w8 ⟨A8,c8,rfl,ho8,hb8⟩
       have hx8:=hx7.kept hb8
       have q3:=hx8.free 3
       have z8:=hx8.cell 3 rfl
       have hx9:Blk (w8.setCell ⟨xb,3,none⟩ (.slice A8 data.length c8)) xb 94 #[.int .i64 kind,.string ⟨name.toArray⟩,.int .i64 (off:Int),.slice A8 data.length c8]:=hx8.setCell 3 _
       have hm9:Mods (fun b=>b=xb) w7 (w8.setCell ⟨xb,3,none⟩ (.slice A8 data.length c8)):=Mods.setCell (S:=fun b=>b=xb) (Mods.of_below hb8) ⟨xb,3,none⟩ (.inl rfl) _
       have HR9:=qh (H7.out.other hm9 HXS.out)
       have HM9:Hid (Mods S w (w8.setCell ⟨xb,3,none⟩ (.slice A8 data.length c8))):=qh ((HM7.out.below hb8).setCell _ (.inr (by rw[HXB.out];exact Nat.le_refl _)) _)
       have HO9:=qh (ho8.of_block (w':=w8.setCell ⟨xb,3,none⟩ (.slice A8 data.length c8)) (fun b hb=>Below.heap_setCell _ _ _ b (by rintro rfl;exact ho8.ne_var hx8 (by decide) hb)))
       have HWS:Hid (w.heap.size<=w7.heap.size):=qh HM7.out.size
       clear z3 HM7 H7 CL HY7 hx7 ho8 hm9 hb8
       go_wp2_with fail
       generalize w8.setCell ⟨xb,3,none⟩ (.slice A8 data.length c8)=w9 at *
       clear hx8 q3 z8
       refine wp_region_planE_gen (by kernel_rfl) [(0,none),(1,none),(2,none),(3,none),(4,none),(5,some [3,4])] (by kernel_rfl) (by kernel_rfl) (by decide) ?_
       intro wq hwq
       have hbq:Below w9.heap.size w9 wq:=by rw[hwq];exact(Below.refl _ _).drew
       have HRq:=qh (HR9.out.below hbq)
       have HMq:=qh (HM9.out.below hbq)
       have HOq:=qh (HO9.out.below hbq)
       have hxq:=hx9.kept hbq
       have y0:=hxq.cell 0 rfl
       have y1:=hxq.cell 1 rfl
       have y2:=hxq.cell 2 rfl
       have y3:=hxq.cell 3 rfl
       have c0:=HRq.out.blk.cell 0 rfl
       have DO:=qh (diskDo wq HRq.out.fi ⟨kind,name,off,data⟩ A8 c8 HOq.out.rb HKK.out ho (by omega) (fun k l hkl=>by have:=HRq.out.ok.files k l hkl;omega))
       unfold wrV at DO
       clear hwq hbq HR9 HM9 HO9 hx9
       iterate 3 (refine planE_pureA ?_)
       refine planE_cellsA [(⟨g,0,none⟩,.map (some mf))] ?_
       refine planE_cellsA [(⟨xb,0,none⟩,.int .i64 kind),(⟨xb,1,none⟩,.string ⟨name.toArray⟩),(⟨xb,2,none⟩,.int .i64 (off:Int)),(⟨xb,3,none⟩,.slice A8 data.length c8)] ?_
       refine planE_eff rfl (by rfl) (fun K hK=>?_)
       go_simp
       refine DO.out.mono ?_
       rintro e w10 ⟨rfl,hfi,hmm⟩
       obtain⟨es,hmap⟩:=HRq.out.fi.at_
       have hgne:=HRq.out.fi.blk_ne HRq.out.blk
       have hxne:=HRq.out.fi.blk_ne hxq
       have HB10:=qh (HRq.out.blk.mods hmm (fun e=>hgne e.symm))
       have hx10:=hxq.mods hmm (fun e=>hxne e.symm)
       have HFI10:=qh hfi
       have HSI10:=qh (HRq.out.si.of_map hmap (fun e=>HRq.out.ne e.symm) hmm)
       have HUI10:=qh (HRq.out.ui.of_map hmap hmm)
       have HO10:=qh (HOq.out.of_block (w':=w10) fun b hb=>hmm.block b (HOq.out.blk_lt b hb).2 (HRq.out.fi.ob_ne HOq.out b hb))
       have hsz10:=hmm.size
       have HM10:Hid (Mods S w w10):=qh (HMq.out.then (hmm.mono fun b _ hb=>by subst hb;obtain⟨_,_,_,_,h4⟩:=HRq.out.fi;exact h4))
       have hokq:=HRq.out.ok
       have hneq:=HRq.out.ne
       have HBND:=qh HR.out.bnd
       have hsgq:=HRq.out.bnd g hmg
       have HNEWS:Hid (∀b,Sx S wq w10 b->S b\/(w.heap.size<=b/\b<w10.heap.size)):=qh fun b hb=>by
        rcases hb with hb | hb
        ·exact .inl hb
        ·have:=HMq.out.size;exact .inr ⟨by have:=hb.1;omega,hb.2⟩
       have hwqs:=HMq.out.size
       clear y0 y1 y2 y3 c0 DO hmap hgne hxne hfi hmm HOq HMq HRq hxq
       have y0:=hx10.cell 0 rfl
       have y1:=hx10.cell 1 rfl
       have y2:=hx10.cell 2 rfl
       have y3:=hx10.cell 3 rfl
       have c0:=HB10.out.cell 0 rfl
       refine planE_ownA hK ?_
       clear hK K
       refine planE_end ?_
       clear y0 y1 y2 y3 c0
       go_wp2_with fail
       generalize hS10:Sx S wq w10=S10 at *
       clear hS10
       obtain⟨Us,hU1,hU2,hU3,hU4⟩:=HUI10.out
       have HU1:=qh hU1
       have HU2:=qh hU2
       have HU3:=qh hU3
       have HU4:=qh hU4
       have hul:Us.length<=1000000:=by
        have e1:=congrArg List.length hU1
        rw[List.length_map,burnD_unsure] at e1
        unfold DSt.cnt at hcnt
        omega
       have HUL:Hid (Us.length=D.unsure.length):=qh (by have e1:=congrArg List.length hU1;rw[List.length_map,burnD_unsure] at e1;exact e1)
       clear hU1 hU2 hU3 hU4 HUI10
       refine wp_region_planE_gen (by kernel_rfl) [(0,none),(1,none),(2,none),(3,none),(4,none),(5,none),(6,some [5]),(7,some [4]),(8,none),(9,none),(10,some [0,1,2,3,4,5,9])] (by kernel_rfl) (by kernel_rfl) (by decide) ?_
       intro wq hwq
       have hbq:Below w10.heap.size w10 wq:=by rw[hwq];exact(Below.refl _ _).drew
       have HBq:=qh (HB10.out.kept hbq)
       have hxq:=hx10.kept hbq
       have y0:=hxq.cell 0 rfl
       have y1:=hxq.cell 1 rfl
       have y2:=hxq.cell 2 rfl
       have y3:=hxq.cell 3 rfl
       have c2':=HBq.out.cell 2 rfl
       have HFIq:=qh (HFI10.out.below hbq)
       have HSIq:=qh (HSI10.out.below hbq)
       have HOq:=qh (HO10.out.below hbq)
       have HMq:=qh (HM10.out.below hbq)
       have HU2q:=qh (HU2.out.below hbq)
       have HU4q:=qh (fun p hp=>(HU4.out p hp).below hbq)
       have hsq:=hbq.size
       clear hwq hbq HB10 HFI10 HSI10 HO10 HM10 HU2 HU4 hx10
       iterate 4 (refine planE_pureA ?_)
       refine planE_cellsA [(⟨g,2,none⟩,.slice A (burnD D).unsure.length c)] ?_
       refine planE_cellsA [(⟨xb,0,none⟩,.int .i64 kind),(⟨xb,1,none⟩,.string ⟨name.toArray⟩),(⟨xb,2,none⟩,.int .i64 (off:Int)),(⟨xb,3,none⟩,.slice A8 data.length c8)] ?_
       refine planE_eff rfl (by rfl) (fun K hK=>?_)
       go_simp
       have hb2:Below wq.heap.size wq (wq.alloc (.cells #[.int .i64 kind,.string ⟨name.toArray⟩,.int .i64 (off:Int),.slice A8 data.length c8] 94)):=(Below.refl _ _).alloc (Nat.le_refl _) _
       have hL6:=Blk.new wq #[.int .i64 kind,.string ⟨name.toArray⟩,.int .i64 (off:Int),.slice A8 data.length c8] 94
       have HB6:=qh (HBq.out.kept hb2)
       have hx6':=hxq.kept hb2
       have HFI6:=qh (HFIq.out.below hb2)
       have HSI6:=qh (HSIq.out.below hb2)
       have HO6:=qh (HOq.out.below hb2)
       have HM6:=qh (HMq.out.below hb2)
       have HU26:=qh (HU2q.out.below hb2)
       have HU46:=qh (fun p hp=>(HU4q.out p hp).below hb2)
       have hs6:=Nat.le_trans hsq hb2.size
       obtain⟨lb,hlb⟩:∃lb,lb=wq.heap.size:=⟨_,rfl⟩
       rw[<-hlb] at hL6 ⊢
       generalize wq.alloc (.cells #[.int .i64 kind,.string ⟨name.toArray⟩,.int .i64 (off:Int),.slice A8 data.length c8] 94)=w11 at *
       clear y0 y1 y2 y3 c2' hb2 hlb HBq hxq HFIq HSIq HOq HMq HU2q HU4q hsq
       have y0:=hx6'.cell 0 rfl
       have y1:=hx6'.cell 1 rfl
       have y2:=hx6'.cell 2 rfl
       have y3:=hx6'.cell 3 rfl
       have c2':=HB6.out.cell 2 rfl
       refine planE_ownA hK ?_
       clear hK K
       refine planE_eff rfl (by rfl) (fun K hK=>?_)
       obtain⟨i0,hi0,hz0,hz1,hz2⟩:=info_parts write_info
       refine op_appendS w11 (.tmp 92) (.tmp 94) 64 94 (by rfl) Tryz.underlying64 hi0 hz0 hz1 hz2 rfl (by decide) 0 A (some ⟨lb,0,none⟩) c 1 (Us.map wrRow) [[.int .i64 kind,.string ⟨name.toArray⟩,.int .i64 (off:Int),.slice A8 data.length c8]] (by rw[List.length_map,HUL.out,<-burnD_unsure D];rfl) (by rfl) HU26.out (RS.lit hL6) (by simp) (by simp[Value.oneCell']) (by simp;omega) (by simp;omega) (Nat.zero_le _) ?_
       intro ys B' cu' w12 hys hy1 hy2 hrow hg12 hB'
       have hk12:=HB6.out.grown hg12 (HU26.out.ne_var HB6.out (by decide))
       have HFI12:=qh (HFI6.out.grown_row HU26.out (by decide) hg12)
       have HSI12:=qh (HSI6.out.grown_row HU26.out (by decide) hg12)
       have HO12:=qh (HO6.out.grown_row hg12 (HO6.out.ne_row HU26.out (by decide)))
       have HU412:=qh (fun p hp=>(⟨(HU46.out p hp).1.grown_row hg12 ((HU46.out p hp).1.ne_row HU26.out (by decide)),(HU46.out p hp).2⟩:OBS S w12 p.2.1 p.2.2 p.1.data))
       have HM12:=qh (HM6.out.then (Mods.of_grown hg12 fun k hk=>HU3.out k hk))
       have hys':=hys.out
       have HYS:Hid (ys=(Us++[((⟨kind,name,off,data⟩,A8,c8):Wr × Option Addr × Nat)]).map wrRow):=qh (by rw[hys',List.map_append];rfl)
       have HYL:Hid (ys.length=(D.unsure++[(⟨kind,name,off,data⟩:Wr)]).length):=qh (by rw[HYS.out,List.length_map,List.length_append,List.length_append,HUL.out];rfl)
       have HRW:=qh hrow
       have HBB:=qh hB'
       have hs12:=hg12.size
       clear y0 y1 y2 y3 c2' hL6 hys hys' hy1 hy2 hrow hg12 hB' HB6 HFI6 HSI6 HO6 HM6 HU26 HU46 hx6'
       have c2':=hk12.cell 2 rfl
       have f2:=hk12.free 2
       refine planE_ownA hK ?_
       clear hK K
       iterate 2 (refine planE_pureA ?_)
       refine planE_eff rfl (by rfl) (fun K hK=>?_)
       go_simp
       skip
       refine planE_ownA hK ?_
       clear hK K
       refine planE_end ?_
       have HF:Hid (PDone S w g cD.2 (.int .i64 cD.1) (.returned (.int .i64 0)) (w12.setCell ⟨g,2,none⟩ (.slice B' ys.length cu'))):=qh (by
        rw[HG2.out]
        have hgk:∀b,b≠g->(w12.setCell ⟨g,2,none⟩ (.slice B' ys.length cu')).heap[b]?=w12.heap[b]?:=fun b hb=>Below.heap_setCell _ _ _ b hb
        have hsz:(w12.setCell ⟨g,2,none⟩ (.slice B' ys.length cu')).heap.size=w12.heap.size:=by simp
        have hT:∀b,b<w12.heap.size->S10 b->Sx S w (w12.setCell ⟨g,2,none⟩ (.slice B' ys.length cu')) b:=fun b hb hx=>by
         rcases HNEWS.out b hx with h | h
         ·exact .inl h
         ·exact .inr ⟨h.1,by rw[hsz];exact hb⟩
        have hT2:∀b,S b->Sx S w (w12.setCell ⟨g,2,none⟩ (.slice B' ys.length cu')) b:=fun b hb=>.inl hb
        have hBg:∀b,B'.map (·.block)=some b->b≠g:=fun b hb e=>by subst e;exact HRW.out.ne_var hk12 (by decide) hb
        have hs0:=HWS.out
        refine⟨rfl,⟨mf,ms,B',cu',?_,?_,?_,hneq,?_,.inl hmg,HR.out.ok.changed hcok,fun b hb=>?_⟩,HM12.out.setCell _ (.inl hmg) _⟩
        ·have:=hk12.setCell 2 (.slice B' ys.length cu')
         rw[<-HYL.out]
         rw[HBD.out] at this
         exact this
        ·have h1:=(HFI12.out.mono hT).of_var (w':=w12.setCell ⟨g,2,none⟩ (.slice B' ys.length cu')) hk12 (by decide) hgk
         show FI _ _ _ (List.foldl doF (burnD D).sure (D.unsure++[⟨kind,name,off,data⟩]))
         rw[List.foldl_append]
         have h2:doF (burnD D).files ⟨kind,name,off,data⟩=List.foldl doF (List.foldl doF (burnD D).sure D.unsure) [⟨kind,name,off,data⟩]:=by rw[burnD_files,burnD_sure];rfl
         rw[<-h2]
         exact h1
        ·exact(HSI12.out.mono fun b _ hb=>hT2 b hb).of_var hk12 (by decide) hgk
        ·refine⟨Us++[(⟨kind,name,off,data⟩,A8,c8)],?_,?_,fun b hb=>?_,fun p hp=>?_⟩
         ·rw[List.map_append,HU1.out,burnD_unsure];rfl
         ·have:=HRW.out
          rw[HYS.out] at this
          exact this.of_block fun b hb=>hgk b (hBg b hb)
         ·rcases HBB.out with e | e
          ·rw[e] at hb;exact .inl (HU3.out b hb)
          ·rw[e] at hb
           have h12:=(HRW.out.blk_lt b (by rw[e];exact hb)).2
           injection hb with hb
           refine .inr ⟨by omega,by rw[hsz];exact h12⟩
         ·rcases List.mem_append.1 hp with hp | hp
          ·have:=HU412.out p hp
           exact⟨this.1.of_block fun b hb=>hgk b (by rintro rfl;exact this.1.ne_var hk12 (by decide) hb),fun b hb=>.inl (this.2 b hb)⟩
          ·rw[List.mem_singleton] at hp
           subst hp
           refine⟨(HO12.out.base_le (Nat.zero_le _)).of_block fun b hb=>hgk b (by rintro rfl;exact HO12.out.ne_var hk12 (by decide) hb),fun b hb=>.inr ⟨?_,?_⟩⟩
           ·have:=(HO12.out.blk_lt b hb).1;omega
           ·rw[hsz];exact(HO12.out.blk_lt b hb).2
        ·rcases hb with hb | hb
         ·have:=HBND.out b hb;have:=HM12.out.size;rw[hsz];omega
         ·exact hb.2)
       clear HFI12 HSI12 HO12 HU412 HM12 HYS HYL HRW HBB HG2 HWS HBD HU1 HU3 HNEWS
       go_wp2_with fail
       go_ret
       exact HF.out
      ·rw[hbd,if_pos rfl] at hG
       have HF:Hid (PDone S w g cD.2 (.int .i64 cD.1) (.returned (.int .i64 11)) w7):=qh (by
        rw[hG]
        exact⟨rfl,H7.out.sx HM7.out.size HR.out.bnd,HM7.out⟩)
       clear HR HR6 hx6 hB6 H7 h7 hm7 HM7 hG HG BN hx7 hbd HLK HLEN
       go_wp2_with fail
       go_ret
       exact HF.out
    ·have hg1b:decide (0<mo)=false:=by simpa using hg1
     have HG:=qh (HGOOD.out (fun h=>hg1 (hmo1.1 h.1)))
     refine wp_region_planE_gen (by kernel_rfl) [(0,none),(1,none),(2,none),(3,none),(4,none),(5,none),(6,none),(7,none),(8,none),(9,none),(10,none),(11,none),(12,none),(13,none),(14,none),(15,none)] (by kernel_rfl) (by kernel_rfl) (by decide) ?_
     intro wq hwq
     have hBq:Below w4.heap.size w4 wq:=by rw[hwq];exact(Below.refl _ _).drew
     have hB6:=hB4.trans (hBq.mono hB4.size)
     have hx6:=hx4.kept hBq
     have HR6:=qh (HR.out.below hB6)
     clear hwq hB4 hx4 hBq
     iterate 3 (refine planE_pureA ?_)
     refine planE_skip rfl (by rfl) ?_
     try simp only[List.getElem_toArray,List.getElem_cons_succ,List.getElem_cons_zero,Act.put,List.setIfInBounds_toArray,List.set_cons_zero,List.set_cons_succ]
     refine planE_skip rfl (by rfl) ?_
     try simp only[List.getElem_toArray,List.getElem_cons_succ,List.getElem_cons_zero,Act.put,List.setIfInBounds_toArray,List.set_cons_zero,List.set_cons_succ]
     refine planE_skip rfl (by rfl) ?_
     try simp only[List.getElem_toArray,List.getElem_cons_succ,List.getElem_cons_zero,Act.put,List.setIfInBounds_toArray,List.set_cons_zero,List.set_cons_succ]
     refine planE_skip rfl (by rfl) ?_
     try simp only[List.getElem_toArray,List.getElem_cons_succ,List.getElem_cons_zero,Act.put,List.setIfInBounds_toArray,List.set_cons_zero,List.set_cons_succ]
     refine planE_skip rfl (by rfl) ?_
     try simp only[List.getElem_toArray,List.getElem_cons_succ,List.getElem_cons_zero,Act.put,List.setIfInBounds_toArray,List.set_cons_zero,List.set_cons_succ]
     refine planE_skip rfl (by rfl) ?_
     try simp only[List.getElem_toArray,List.getElem_cons_succ,List.getElem_cons_zero,Act.put,List.setIfInBounds_toArray,List.set_cons_zero,List.set_cons_succ]
     refine planE_skip rfl (by rfl) ?_
     try simp only[List.getElem_toArray,List.getElem_cons_succ,List.getElem_cons_zero,Act.put,List.setIfInBounds_toArray,List.set_cons_zero,List.set_cons_succ]
     refine planE_skip rfl (by rfl) ?_
     try simp only[List.getElem_toArray,List.getElem_cons_succ,List.getElem_cons_zero,Act.put,List.setIfInBounds_toArray,List.set_cons_zero,List.set_cons_succ]
     refine planE_skip rfl (by rfl) ?_
     try simp only[List.getElem_toArray,List.getElem_cons_succ,List.getElem_cons_zero,Act.put,List.setIfInBounds_toArray,List.set_cons_zero,List.set_cons_succ]
     refine planE_skip rfl (by rfl) ?_
     try simp only[List.getElem_toArray,List.getElem_cons_succ,List.getElem_cons_zero,Act.put,List.setIfInBounds_toArray,List.set_cons_zero,List.set_cons_succ]
     refine planE_skip rfl (by rfl) ?_
     try simp only[List.getElem_toArray,List.getElem_cons_succ,List.getElem_cons_zero,Act.put,List.setIfInBounds_toArray,List.set_cons_zero,List.set_cons_succ]
     refine planE_skip rfl (by rfl) ?_
     try simp only[List.getElem_toArray,List.getElem_cons_succ,List.getElem_cons_zero,Act.put,List.setIfInBounds_toArray,List.set_cons_zero,List.set_cons_succ]
     iterate 1 (refine planE_pureA ?_)
     refine planE_end ?_
     generalize wq=w6 at *
     clear HFULL HGOOD
     have BN:=qh (diskBurn HR6.out)
     go_wp2_with fail
     refine BN.out.mono ?_
     rintro e w7 ⟨rfl,h7,hm7⟩
     have hx7:Blk w7 xb 94 #[.int .i64 kind,.string ⟨name.toArray⟩,.int .i64 (off:Int),.slice Y data.length cy]:=hx6.mods hm7 (fun e=>cells_ne HR6.out.blk hx6 (by decide) e.symm)
     have HM7:Hid (Mods S w w7):=qh ((Mods.of_below hB6).then (hm7.mono fun b _ hb=>by subst hb;exact hmg))
     have H7:=qh h7
     obtain⟨hcok,hG⟩:=HG.out
     cases hbd:(burnD D).down
     ·rw[hbd,if_neg (by simp)] at hG
      have HG2:=qh hG
      have HBD:=qh hbd
      have HY7:=qh ((HYY.out.below hB6).mods hm7 (fun h0 b hb e=>by subst e;exact HYM.out h0 _ hb hmg))
      have CL:=qh (cloneB' Y cy data w7 HY7.out (by omega))
      have z3:=hx7.cell 3 rfl
      clear h7 hm7 hG BN HR6 HG hx6 hB6 hbd HLK HLEN
      go_wp2_with fail
      refine CL.out.mono ?_
      rintro e w8 ⟨A8,c8,rfl,ho8,hb8⟩
      have hx8:=hx7.kept hb8
      have q3:=hx8.free 3
      have z8:=hx8.cell 3 rfl
      have hx9:Blk (w8.setCell ⟨xb,3,none⟩ (.slice A8 data.length c8)) xb 94 #[.int .i64 kind,.string ⟨name.toArray⟩,.int .i64 (off:Int),.slice A8 data.length c8]:=hx8.setCell 3 _
      have hm9:Mods (fun b=>b=xb) w7 (w8.setCell ⟨xb,3,none⟩ (.slice A8 data.length c8)):=Mods.setCell (S:=fun b=>b=xb) (Mods.of_below hb8) ⟨xb,3,none⟩ (.inl rfl) _
      have HR9:=qh (H7.out.other hm9 HXS.out)
      have HM9:Hid (Mods S w (w8.setCell ⟨xb,3,none⟩ (.slice A8 data.length c8))):=qh ((HM7.out.below hb8).setCell _ (.inr (by rw[HXB.out];exact Nat.le_refl _)) _)
      have HO9:=qh (ho8.of_block (w':=w8.setCell ⟨xb,3,none⟩ (.slice A8 data.length c8)) (fun b hb=>Below.heap_setCell _ _ _ b (by rintro rfl;exact ho8.ne_var hx8 (by decide) hb)))
      have HWS:Hid (w.heap.size<=w7.heap.size):=qh HM7.out.size
      clear z3 HM7 H7 CL HY7 hx7 ho8 hm9 hb8
      go_wp2_with fail
      generalize w8.setCell ⟨xb,3,none⟩ (.slice A8 data.length c8)=w9 at *
      clear hx8 q3 z8
      refine wp_region_planE_gen (by kernel_rfl) [(0,none),(1,none),(2,none),(3,none),(4,none),(5,some [3,4])] (by kernel_rfl) (by kernel_rfl) (by decide) ?_
      intro wq hwq
      have hbq:Below w9.heap.size w9 wq:=by rw[hwq];exact(Below.refl _ _).drew
      have HRq:=qh (HR9.out.below hbq)
      have HMq:=qh (HM9.out.below hbq)
      have HOq:=qh (HO9.out.below hbq)
      have hxq:=hx9.kept hbq
      have y0:=hxq.cell 0 rfl
      have y1:=hxq.cell 1 rfl
      have y2:=hxq.cell 2 rfl
      have y3:=hxq.cell 3 rfl
      have c0:=HRq.out.blk.cell 0 rfl
      have DO:=qh (diskDo wq HRq.out.fi ⟨kind,name,off,data⟩ A8 c8 HOq.out.rb HKK.out ho (by omega) (fun k l hkl=>by have:=HRq.out.ok.files k l hkl;omega))
      unfold wrV at DO
      clear hwq hbq HR9 HM9 HO9 hx9
      iterate 3 (refine planE_pureA ?_)
      refine planE_cellsA [(⟨g,0,none⟩,.map (some mf))] ?_
      refine planE_cellsA [(⟨xb,0,none⟩,.int .i64 kind),(⟨xb,1,none⟩,.string ⟨name.toArray⟩),(⟨xb,2,none⟩,.int .i64 (off:Int)),(⟨xb,3,none⟩,.slice A8 data.length c8)] ?_
      refine planE_eff rfl (by rfl) (fun K hK=>?_)
      go_simp
      refine DO.out.mono ?_
      rintro e w10 ⟨rfl,hfi,hmm⟩
      obtain⟨es,hmap⟩:=HRq.out.fi.at_
      have hgne:=HRq.out.fi.blk_ne HRq.out.blk
      have hxne:=HRq.out.fi.blk_ne hxq
      have HB10:=qh (HRq.out.blk.mods hmm (fun e=>hgne e.symm))
      have hx10:=hxq.mods hmm (fun e=>hxne e.symm)
      have HFI10:=qh hfi
      have HSI10:=qh (HRq.out.si.of_map hmap (fun e=>HRq.out.ne e.symm) hmm)
      have HUI10:=qh (HRq.out.ui.of_map hmap hmm)
      have HO10:=qh (HOq.out.of_block (w':=w10) fun b hb=>hmm.block b (HOq.out.blk_lt b hb).2 (HRq.out.fi.ob_ne HOq.out b hb))
      have hsz10:=hmm.size
      have HM10:Hid (Mods S w w10):=qh (HMq.out.then (hmm.mono fun b _ hb=>by subst hb;obtain⟨_,_,_,_,h4⟩:=HRq.out.fi;exact h4))
      have hokq:=HRq.out.ok
      have hneq:=HRq.out.ne
      have HBND:=qh HR.out.bnd
      have hsgq:=HRq.out.bnd g hmg
      have HNEWS:Hid (∀b,Sx S wq w10 b->S b\/(w.heap.size<=b/\b<w10.heap.size)):=qh fun b hb=>by
       rcases hb with hb | hb
       ·exact .inl hb
       ·have:=HMq.out.size;exact .inr ⟨by have:=hb.1;omega,hb.2⟩
      have hwqs:=HMq.out.size
      clear y0 y1 y2 y3 c0 DO hmap hgne hxne hfi hmm HOq HMq HRq hxq
      have y0:=hx10.cell 0 rfl
      have y1:=hx10.cell 1 rfl
      have y2:=hx10.cell 2 rfl
      have y3:=hx10.cell 3 rfl
      have c0:=HB10.out.cell 0 rfl
      refine planE_ownA hK ?_
      clear hK K
      refine planE_end ?_
      clear y0 y1 y2 y3 c0
      go_wp2_with fail
      generalize hS10:Sx S wq w10=S10 at *
      clear hS10
      obtain⟨Us,hU1,hU2,hU3,hU4⟩:=HUI10.out
      have HU1:=qh hU1
      have HU2:=qh hU2
      have HU3:=qh hU3
      have HU4:=qh hU4
      have hul:Us.length<=1000000:=by
       have e1:=congrArg List.length hU1
       rw[List.length_map,burnD_unsure] at e1
       unfold DSt.cnt at hcnt
       omega
      have HUL:Hid (Us.length=D.unsure.length):=qh (by have e1:=congrArg List.length hU1;rw[List.length_map,burnD_unsure] at e1;exact e1)
      clear hU1 hU2 hU3 hU4 HUI10
      refine wp_region_planE_gen (by kernel_rfl) [(0,none),(1,none),(2,none),(3,none),(4,none),(5,none),(6,some [5]),(7,some [4]),(8,none),(9,none),(10,some [0,1,2,3,4,5,9])] (by kernel_rfl) (by kernel_rfl) (by decide) ?_
      intro wq hwq
      have hbq:Below w10.heap.size w10 wq:=by rw[hwq];exact(Below.refl _ _).drew
      have HBq:=qh (HB10.out.kept hbq)
      have hxq:=hx10.kept hbq
      have y0:=hxq.cell 0 rfl
      have y1:=hxq.cell 1 rfl
      have y2:=hxq.cell 2 rfl
      have y3:=hxq.cell 3 rfl
      have c2':=HBq.out.cell 2 rfl
      have HFIq:=qh (HFI10.out.below hbq)
      have HSIq:=qh (HSI10.out.below hbq)
      have HOq:=qh (HO10.out.below hbq)
      have HMq:=qh (HM10.out.below hbq)
      have HU2q:=qh (HU2.out.below hbq)
      have HU4q:=qh (fun p hp=>(HU4.out p hp).below hbq)
      have hsq:=hbq.size
      clear hwq hbq HB10 HFI10 HSI10 HO10 HM10 HU2 HU4 hx10
      iterate 4 (refine planE_pureA ?_)
      refine planE_cellsA [(⟨g,2,none⟩,.slice A (burnD D).unsure.length c)] ?_
      refine planE_cellsA [(⟨xb,0,none⟩,.int .i64 kind),(⟨xb,1,none⟩,.string ⟨name.toArray⟩),(⟨xb,2,none⟩,.int .i64 (off:Int)),(⟨xb,3,none⟩,.slice A8 data.length c8)] ?_
      refine planE_eff rfl (by rfl) (fun K hK=>?_)
      go_simp
      have hb2:Below wq.heap.size wq (wq.alloc (.cells #[.int .i64 kind,.string ⟨name.toArray⟩,.int .i64 (off:Int),.slice A8 data.length c8] 94)):=(Below.refl _ _).alloc (Nat.le_refl _) _
      have hL6:=Blk.new wq #[.int .i64 kind,.string ⟨name.toArray⟩,.int .i64 (off:Int),.slice A8 data.length c8] 94
      have HB6:=qh (HBq.out.kept hb2)
      have hx6':=hxq.kept hb2
      have HFI6:=qh (HFIq.out.below hb2)
      have HSI6:=qh (HSIq.out.below hb2)
      have HO6:=qh (HOq.out.below hb2)
      have HM6:=qh (HMq.out.below hb2)
      have HU26:=qh (HU2q.out.below hb2)
      have HU46:=qh (fun p hp=>(HU4q.out p hp).below hb2)
      have hs6:=Nat.le_trans hsq hb2.size
      obtain⟨lb,hlb⟩:∃lb,lb=wq.heap.size:=⟨_,rfl⟩
      rw[<-hlb] at hL6 ⊢
      generalize wq.alloc (.cells #[.int .i64 kind,.string ⟨name.toArray⟩,.int .i64 (off:Int),.slice A8 data.length c8] 94)=w11 at *
      clear y0 y1 y2 y3 c2' hb2 hlb HBq hxq HFIq HSIq HOq HMq HU2q HU4q hsq
      have y0:=hx6'.cell 0 rfl
      have y1:=hx6'.cell 1 rfl
      have y2:=hx6'.cell 2 rfl
      have y3:=hx6'.cell 3 rfl
      have c2':=HB6.out.cell 2 rfl
      refine planE_ownA hK ?_
      clear hK K
      refine planE_eff rfl (by rfl) (fun K hK=>?_)
      obtain⟨i0,hi0,hz0,hz1,hz2⟩:=info_parts write_info
      refine op_appendS w11 (.tmp 92) (.tmp 94) 64 94 (by rfl) Tryz.underlying64 hi0 hz0 hz1 hz2 rfl (by decide) 0 A (some ⟨lb,0,none⟩) c 1 (Us.map wrRow) [[.int .i64 kind,.string ⟨name.toArray⟩,.int .i64 (off:Int),.slice A8 data.length c8]] (by rw[List.length_map,HUL.out,<-burnD_unsure D];rfl) (by rfl) HU26.out (RS.lit hL6) (by simp) (by simp[Value.oneCell']) (by simp;omega) (by simp;omega) (Nat.zero_le _) ?_
      intro ys B' cu' w12 hys hy1 hy2 hrow hg12 hB'
      have hk12:=HB6.out.grown hg12 (HU26.out.ne_var HB6.out (by decide))
      have HFI12:=qh (HFI6.out.grown_row HU26.out (by decide) hg12)
      have HSI12:=qh (HSI6.out.grown_row HU26.out (by decide) hg12)
      have HO12:=qh (HO6.out.grown_row hg12 (HO6.out.ne_row HU26.out (by decide)))
      have HU412:=qh (fun p hp=>(⟨(HU46.out p hp).1.grown_row hg12 ((HU46.out p hp).1.ne_row HU26.out (by decide)),(HU46.out p hp).2⟩:OBS S w12 p.2.1 p.2.2 p.1.data))
      have HM12:=qh (HM6.out.then (Mods.of_grown hg12 fun k hk=>HU3.out k hk))
      have hys':=hys.out
      have HYS:Hid (ys=(Us++[((⟨kind,name,off,data⟩,A8,c8):Wr × Option Addr × Nat)]).map wrRow):=qh (by rw[hys',List.map_append];rfl)
      have HYL:Hid (ys.length=(D.unsure++[(⟨kind,name,off,data⟩:Wr)]).length):=qh (by rw[HYS.out,List.length_map,List.length_append,List.length_append,HUL.out];rfl)
      have HRW:=qh hrow
      have HBB:=qh hB'
      have hs12:=hg12.size
      clear y0 y1 y2 y3 c2' hL6 hys hys' hy1 hy2 hrow hg12 hB' HB6 HFI6 HSI6 HO6 HM6 HU26 HU46 hx6'
      have c2':=hk12.cell 2 rfl
      have f2:=hk12.free 2
      refine planE_ownA hK ?_
      clear hK K
      iterate 2 (refine planE_pureA ?_)
      refine planE_eff rfl (by rfl) (fun K hK=>?_)
      go_simp
      skip
      refine planE_ownA hK ?_
      clear hK K
      refine planE_end ?_
      have HF:Hid (PDone S w g cD.2 (.int .i64 cD.1) (.returned (.int .i64 0)) (w12.setCell ⟨g,2,none⟩ (.slice B' ys.length cu'))):=qh (by
       rw[HG2.out]
       have hgk:∀b,b≠g->(w12.setCell ⟨g,2,none⟩ (.slice B' ys.length cu')).heap[b]?=w12.heap[b]?:=fun b hb=>Below.heap_setCell _ _ _ b hb
       have hsz:(w12.setCell ⟨g,2,none⟩ (.slice B' ys.length cu')).heap.size=w12.heap.size:=by simp
       have hT:∀b,b<w12.heap.size->S10 b->Sx S w (w12.setCell ⟨g,2,none⟩ (.slice B' ys.length cu')) b:=fun b hb hx=>by
        rcases HNEWS.out b hx with h | h
        ·exact .inl h
        ·exact .inr ⟨h.1,by rw[hsz];exact hb⟩
       have hT2:∀b,S b->Sx S w (w12.setCell ⟨g,2,none⟩ (.slice B' ys.length cu')) b:=fun b hb=>.inl hb
       have hBg:∀b,B'.map (·.block)=some b->b≠g:=fun b hb e=>by subst e;exact HRW.out.ne_var hk12 (by decide) hb
       have hs0:=HWS.out
       refine⟨rfl,⟨mf,ms,B',cu',?_,?_,?_,hneq,?_,.inl hmg,HR.out.ok.changed hcok,fun b hb=>?_⟩,HM12.out.setCell _ (.inl hmg) _⟩
       ·have:=hk12.setCell 2 (.slice B' ys.length cu')
        rw[<-HYL.out]
        rw[HBD.out] at this
        exact this
       ·have h1:=(HFI12.out.mono hT).of_var (w':=w12.setCell ⟨g,2,none⟩ (.slice B' ys.length cu')) hk12 (by decide) hgk
        show FI _ _ _ (List.foldl doF (burnD D).sure (D.unsure++[⟨kind,name,off,data⟩]))
        rw[List.foldl_append]
        have h2:doF (burnD D).files ⟨kind,name,off,data⟩=List.foldl doF (List.foldl doF (burnD D).sure D.unsure) [⟨kind,name,off,data⟩]:=by rw[burnD_files,burnD_sure];rfl
        rw[<-h2]
        exact h1
       ·exact(HSI12.out.mono fun b _ hb=>hT2 b hb).of_var hk12 (by decide) hgk
       ·refine⟨Us++[(⟨kind,name,off,data⟩,A8,c8)],?_,?_,fun b hb=>?_,fun p hp=>?_⟩
        ·rw[List.map_append,HU1.out,burnD_unsure];rfl
        ·have:=HRW.out
         rw[HYS.out] at this
         exact this.of_block fun b hb=>hgk b (hBg b hb)
        ·rcases HBB.out with e | e
         ·rw[e] at hb;exact .inl (HU3.out b hb)
         ·rw[e] at hb
          have h12:=(HRW.out.blk_lt b (by rw[e];exact hb)).2
          injection hb with hb
          refine .inr ⟨by omega,by rw[hsz];exact h12⟩
        ·rcases List.mem_append.1 hp with hp | hp
         ·have:=HU412.out p hp
          exact⟨this.1.of_block fun b hb=>hgk b (by rintro rfl;exact this.1.ne_var hk12 (by decide) hb),fun b hb=>.inl (this.2 b hb)⟩
         ·rw[List.mem_singleton] at hp
          subst hp
          refine⟨(HO12.out.base_le (Nat.zero_le _)).of_block fun b hb=>hgk b (by rintro rfl;exact HO12.out.ne_var hk12 (by decide) hb),fun b hb=>.inr ⟨?_,?_⟩⟩
          ·have:=(HO12.out.blk_lt b hb).1;omega
          ·rw[hsz];exact(HO12.out.blk_lt b hb).2
       ·rcases hb with hb | hb
        ·have:=HBND.out b hb;have:=HM12.out.size;rw[hsz];omega
        ·exact hb.2)
      clear HFI12 HSI12 HO12 HU412 HM12 HYS HYL HRW HBB HG2 HWS HBD HU1 HU3 HNEWS
      go_wp2_with fail
      go_ret
      exact HF.out
     ·rw[hbd,if_pos rfl] at hG
      have HF:Hid (PDone S w g cD.2 (.int .i64 cD.1) (.returned (.int .i64 11)) w7):=qh (by
       rw[hG]
       exact⟨rfl,H7.out.sx HM7.out.size HR.out.bnd,HM7.out⟩)
      clear HR HR6 hx6 hB6 H7 h7 hm7 HM7 hG HG BN hx7 hbd HLK HLEN
      go_wp2_with fail
      go_ret
      exact HF.out
   ·have HM7:=qh (HMANY.out ⟨HNO.out,hk3,by omega⟩)
    clear HREST HMANY HIS HNO hk3
    go_enter Tryz.func74,Tryz.ntmps74
    go_wp2_with fail
    refine AL.out.mono ?_
    rintro e w1 ⟨rfl,rfl⟩
    go_wp2_with fail
    refine NM.out.mono ?_
    rintro e w2 ⟨rfl,hb2⟩
    rw[<-HXB.out]
    have hx2:Blk w2 xb 94 #[.int .i64 kind,.string ⟨name.toArray⟩,.int .i64 (off:Int),.slice Y data.length cy]:=by rw[HXB.out];exact HX.out.kept hb2
    have hB2:=hal.trans (hb2.mono hal.size)
    generalize w.alloc (.cells #[.int .i64 kind,.string ⟨name.toArray⟩,.int .i64 (off:Int),.slice Y data.length cy] 94)=w1 at *
    have z0:=hx2.cell 0 rfl
    have z1:=hx2.cell 1 rfl
    have z2:=hx2.cell 2 rfl
    have hbl2:=(HR.out.below hB2).blk
    have c0:=hbl2.cell 0 rfl
    have hl2:=HLK.out w2 hB2
    have hlen2:=HLEN.out w2 hB2
    rw[hse] at hl2
    clear hb2 y1 AL NM
    go_wp2_with fail
    refine wp_region_planE_gen (by kernel_rfl) [(0,none),(1,none),(2,none),(3,none),(4,none),(5,none),(6,none),(7,none),(8,none),(9,none),(10,none),(11,none)] (by kernel_rfl) (by kernel_rfl) (by decide) ?_
    intro wq hwq
    have hBq:Below w2.heap.size w2 wq:=by rw[hwq];exact(Below.refl _ _).drew
    have hxq:=hx2.kept hBq
    have q0:=hxq.cell 0 rfl
    have q1:=hxq.cell 1 rfl
    have q2:=hxq.cell 2 rfl
    have q3:=hxq.cell 3 rfl
    have hB3:=hB2.trans (hBq.mono hB2.size)
    have d0:=(HR.out.below hB3).blk.cell 0 rfl
    have hlq:=HLK.out wq hB3
    rw[hse] at hlq
    have hlenq:=HLEN.out wq hB3
    clear hwq z0 z1 z2 c0 hl2 hlen2 hx2 hbl2
    iterate 3 (refine planE_pureA ?_)
    refine planE_cellsA [(⟨g,0,none⟩,.map (some mf))] ?_
    iterate 1 (refine planE_pureA ?_)
    refine planE_cellsA [(⟨xb,1,none⟩,.string ⟨name.toArray⟩)] ?_
    refine planE_read (v:=?_) (fun w'=>(Instr.lookup 63 (.map (some mf)) (.string ⟨name.toArray⟩) true).run Tryz.prog w'=.ok (.tuple #[.slice Ao ol co,.bool false]) w') rfl (by rfl) (fun w' hw'=>?_) (hlq) ?_;rotate_left;(focus (simp only[List.getElem_toArray,List.getElem_cons_succ,List.getElem_cons_zero];go_simp;first | with_reducible rfl | (simp (disch:=omega) only [if_pos,if_neg,dif_pos,Result.andThen_ok];try with_reducible rfl) | skip));try simp only[List.getElem_toArray,List.getElem_cons_succ,List.getElem_cons_zero,Act.put,List.setIfInBounds_toArray,List.set_cons_zero,List.set_cons_succ]
    iterate 5 (refine planE_pureA ?_)
    refine planE_end ?_
    clear hB2 hlq
    have HF:Hid (PDone S w g cD.2 (.int .i64 cD.1) (.returned (.int .i64 7)) wq):=qh (by rw[HM7.out];exact HR.out.same hB3 (.int .i64 7))
    clear HR HLK HLEN HM7 hxq
    go_wp2_with fail
    go_ret
    exact HF.out
end
end Go.Proofs.YtobdmlejabjmiaaGreatDoor
