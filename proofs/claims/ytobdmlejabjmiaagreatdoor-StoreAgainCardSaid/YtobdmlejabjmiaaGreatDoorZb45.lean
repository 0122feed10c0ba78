/- Made small by a program. -/
import Derived.Test.YtobdmlejabjmiaaGreatDoorZb44
set_option maxRecDepth 20000
set_option maxHeartbeats 8000000
namespace Go.Proofs.YtobdmlejabjmiaaGreatDoor
open Go.RowKit
structure KS(lo hi:Nat)(w:World)(n:Nat)(ht:Nat)(hv:Int)(i t:Nat)(v l:List Int)(d:List UInt8)(es:List En)(A:Option Addr)(ac:Nat)(Bb:Option Addr)(bc:Nat)(C:Option Addr)(cc:Nat)(E:Option Addr)(ec:Nat)(es':List ERow):Prop where
 blk:Blk w n 38 (stateL ht hv i t v l d A ac Bb bc C cc E es'.length ec)
 fst:es'.map Prod.fst=es
 re:EO w lo E ec es'
 rv:OV w lo 3 A ac (ncells .i64 v)
 rl:OV w lo 3 Bb bc (ncells .i64 l)
 rd:OB w lo C cc d
 nl:lo<=n
 hn:n<hi
 hi:∀b,(A.map (·.block)=some b\/Bb.map (·.block)=some b\/C.map (·.block)=some b\/E.map (·.block)=some b\/∃y∈es',y.2.1.map (·.block)=some b)->b<hi
section
variable {w w':World} {lo hi n ht i t ac bc cc ec:Nat} {hv:Int} {v l:List Int} {d:List UInt8} {es:List En} {A Bb C E:Option Addr} {es':List ERow}
theorem KS.mods{T:Nat->Prop}(h:KS lo hi w n ht hv i t v l d es A ac Bb bc C cc E ec es')(m:Mods T w w')(hT:∀b,lo<=b->b<hi->¬T b):KS lo hi w' n ht hv i t v l d es A ac Bb bc C cc E ec es' :=
 ⟨h.blk.mods m (hT n h.nl h.hn),h.fst,⟨h.re.row.mods m (fun b hb=>hT b (h.re.row.blk_lt b hb).1 (h.hi b (.inr (.inr (.inr (.inl hb)))))),fun y hy=>(h.re.ob y hy).mods m (fun b hb=>hT b ((h.re.ob y hy).blk_in b hb).1 (h.hi b (.inr (.inr (.inr (.inr ⟨y,hy,hb⟩))))))⟩,
  h.rv.mods m (fun b hb=>hT b (h.rv.blk_lt b hb).1 (h.hi b (.inl hb))),h.rl.mods m (fun b hb=>hT b (h.rl.blk_lt b hb).1 (h.hi b (.inr (.inl hb)))),h.rd.mods m (fun b hb=>hT b (h.rd.blk_in b hb).1 (h.hi b (.inr (.inr (.inl hb))))),h.nl,h.hn,h.hi⟩
theorem KS.below(h:KS lo hi w n ht hv i t v l d es A ac Bb bc C cc E ec es')(hb:Below w.heap.size w w'):KS lo hi w' n ht hv i t v l d es A ac Bb bc C cc E ec es':=h.mods (T:=fun _=>False) (Mods.of_below hb) (fun _ _ _ e=>e)
theorem KS.made{lo':Nat}(hre:EO w lo E ec es')(hfst:es'.map Prod.fst=es)(hrv:OV w lo 3 A ac (ncells .i64 v))(hrl:OV w lo 3 Bb bc (ncells .i64 l))(hrd:OB w lo C cc d)(hlo:lo'<=lo)(hlw:lo'<=w.heap.size)(z:Array Value)(_hz:z.size=8) :
  KS lo' (w.heap.size+1) ((w.alloc (.cells z 38)).setRow w.heap.size (stateL ht hv i t v l d A ac Bb bc C cc E es'.length ec)) w.heap.size ht hv i t v l d es A ac Bb bc C cc E ec es'/\Below w.heap.size w ((w.alloc (.cells z 38)).setRow w.heap.size (stateL ht hv i t v l d A ac Bb bc C cc E es'.length ec)):=by
 have hb:=below_setRow (g:=w.heap.size) ((Below.refl _ w).alloc (Nat.le_refl _) (.cells z 38)) (Nat.le_refl _) (stateL ht hv i t v l d A ac Bb bc C cc E es'.length ec)
 refine⟨⟨(Blk.new w z 38).setRow _,hfst,(hre.below hb).base_le hlo,OV.base_le (hrv.below hb) hlo,OV.base_le (hrl.below hb) hlo,(hrd.below hb).base_le hlo,hlw,Nat.lt_succ_self _,fun b h=>?_⟩,hb⟩
 rcases h with h | h | h | h | ⟨y,hy,h⟩
 ·have:=(hrv.blk_lt b h).2;omega
 ·have:=(hrl.blk_lt b h).2;omega
 ·have:=(hrd.blk_in b h).2;omega
 ·have:=(hre.row.blk_lt b h).2;omega
 ·have:=((hre.ob y hy).blk_in b h).2;omega
end
theorem ov_base{w:World}{nb c:Nat}{T:TypeId}{A:Option Addr}{xs:List Value}(h:OV w nb T A c xs)(hl:0<xs.length):nb<=w.heap.size:=by
 rcases h.form with⟨_,_,hx⟩ | ⟨g,_,h1,h2,_⟩
 ·rw[hx] at hl;exact absurd hl (by simp)
 ·omega
theorem fine1:lg1.fine:=by
 have e:∀s∈lg1.segs,s=⟨walName 0 1,1,[0]⟩:=fun s hs=>by simpa [lg1] using hs
 refine⟨fun s hs=>?_,by decide,by decide,by decide,by decide,fun r hr=>by cases hr⟩
 rw[e s hs]
 exact⟨by decide,by decide,by show(walName 0 1).length<=1000;rw[walName_one];decide,by decide⟩
section
variable {w w':World}
theorem walkStoreAgain(E:Option Addr)(c:Nat)(es:List ERow)(t:Nat)(v:Int)(mask:Nat)(torn:Int)(w:World)(h:EL w E es)(hn:es.length*56<=140737488351232)(hd:∀x∈es,x.1.dat.length<=140737488351232)(ht:t<18446744073709551616)(hm:mask<18446744073709551616)(hto:-9223372036854775808<=torn/\torn<=9223372036854775807)(hE:WEnv w.heap.size w) :
  Calls Tryz.prog 3 #[.slice E es.length c,.agg #[.int .u64 (t:Int),.int .i64 v],.int .u64 (mask:Int),.int .i64 torn] w fun e w'=>e=.returned (.bool true)/\Below w.heap.size w w':=by
 have hal:Below w.heap.size w (w.alloc (.cells #[.int .u64 (t:Int),.int .i64 v] 25)):=(Below.refl _ _).alloc (Nat.le_refl _) _
 have Z:=qh (Blk.new w #[.int .u64 (t:Int),.int .i64 v] 25)
 have ND:=qh (diskNew 2000000 (w.alloc (.cells #[.int .u64 (t:Int),.int .i64 v] 25)) (by decide) (by decide))
 have hws:(w.alloc (.cells #[.int .u64 (t:Int),.int .i64 v] 25)).heap.size=w.heap.size+1:=by simp
 have HWS:=qh hws
 have HAL:=qh hal
 have HL:=qh h
 have HD:=qh hd
 have HE:=qh hE
 have HMT:=qh (And.intro hm hto)
 clear hal hws h hd hE hm hto
 go_enter Tryz.func3,Tryz.ntmps3
 go_wp2_with fail
 refine ND.out.mono ?_
 rintro e w1 ⟨g,rfl,hD,b1⟩
 have hb1:=belowTrans HAL.out b1
 have Z1:=qh (Z.out.kept b1)
 have HB1:=qh hb1
 have HNS:Hid (∀b,News (w.alloc (.cells #[.int .u64 (t:Int),.int .i64 v] 25)) w1 b->w.heap.size+1<=b/\b<w1.heap.size):=qh (fun b e=>⟨by have:=e.1;rw[HWS.out] at this;exact this,e.2⟩)
 have HDI:=qh hD
 clear hD b1 hb1 Z HAL ND
 go_wp2_with fail
 refine lawFirst.mono ?_
 rintro e w2 ⟨V2,rfl,hv2,b2⟩
 have hb2:=HB1.out.trans (b2.mono HB1.out.size)
 have OP:=qh (openFirst 2000000 (by decide) (HDI.out.below b2) hb2.size (fun b e=>by have:=(HNS.out b e).1;omega) (HE.out.below hb2) V2 hv2.rv (fun e=>by have:=(hv2.blk_lt V2.block rfl).1;have:=(HNS.out _ e).2;omega))
 have Z2:=qh (Z1.out.kept b2)
 have HB2:=qh hb2
 clear hv2 b2 hb2 HB1 Z1 HDI
 go_wp2_with fail
 refine OP.out.mono ?_
 rintro e w3 ⟨z,A',ac',B',bc',C',cc',E',ec',es2,nb,S3,rfl,he2,oe,o1,o2,o3,hnb,hdi,hs3,hs3n,m3,hy⟩
 obtain⟨F3,es3,Vh,cvh,Oh,coh,he3,hst,hsh,hpF,hpp⟩:=hy rfl
 have hes3:es3=[]:=List.map_eq_nil_iff.1 he3
 have hes2:es2=[]:=List.map_eq_nil_iff.1 he2
 subst hes3 hes2
 have hb3:Below w.heap.size w w3:=Mods.old HB2.out m3 HB2.out.size (fun k _ e=>by have:=(HNS.out k e).1;omega)
 have hB3:=hb3.size
 have hb4:Below w3.heap.size w3 (w3.alloc (.cells state0 38)):=(Below.refl _ _).alloc (Nat.le_refl _) _
 have T4:=qh (Blk.new w3 state0 38)
 have hB4:=below_setRow (g:=w3.heap.size) hb4 (Nat.le_refl _) (stateL 0 0 0 0 [1,2] [] [] A' ac' B' bc' C' cc' E' ([]:List ERow).length ec')
 obtain⟨w4,hw4⟩:∃w4,w4=(w3.alloc (.cells state0 38)).setRow w3.heap.size (stateL 0 0 0 0 [1,2] [] [] A' ac' B' bc' C' cc' E' ([]:List ERow).length ec'):=⟨_,rfl⟩
 rw[<-hw4] at hB4
 have HW4:=qh hw4.symm
 have Z4:=qh ((Z2.out.mods m3 (fun e=>by have:=(HNS.out _ e).1;omega)).kept hB4)
 have hbb4:=hb3.trans (hB4.mono hB3)
 have HB4:=qh hbb4
 have OE:=qh (refOwnEntries E c es w4 (HL.out.below hbb4) hn HD.out)
 have ST4:=qh (And.intro (hst.below hB3 hB4) (And.intro (hsh.below hB4) (And.intro hpF hpp)))
 clear OP hb4 hB4 hw4 hb3 hbb4 oe o1 o2 o3 hdi m3 hy hst hsh hpF hpp HB2 Z2 HL he2 he3
 unfold stateL state0 at *
 go_wp2_with (first
  | (refine wpList_store_row rfl 38 (.tmp 12) (.tmp 35) rfl w3.heap.size (stateL 0 0 0 0 [1,2] [] [] A' ac' B' bc' C' cc' E' ([]:List ERow).length ec') rfl rfl _ _ T4.out state_size rfl (by simp[Value.oneCell']) ?_;rw[HW4.out])
  | (go_at_call 10;refine OE.out.mono ?_))
 rintro e w5 ⟨Ea,ca,ea,rfl,hea,hoa,hb5⟩
 have hl5:ea.length=es.length:=by have:=congrArg List.length hea;simpa using this
 have hbb5:=HB4.out.trans (hb5.mono HB4.out.size)
 have HB5:=qh hbb5
 have Z5:=qh (Z4.out.kept hb5)
 have hB5:w.heap.size<=w3.heap.size:=hB3
 have hs45:=hb5.size
 have hs34:w3.heap.size<=w4.heap.size:=by
  rw[<-HW4.out]
  have:=below_setRow (g:=w3.heap.size) ((Below.refl w3.heap.size w3).alloc (Nat.le_refl _) (.cells state0 38)) (Nat.le_refl _) (stateL 0 0 0 0 [1,2] [] [] A' ac' B' bc' C' cc' E' ([]:List ERow).length ec')
  exact this.size
 have hz4:=Z4.out.lt
 have HB45:=qh hb5
 have HOA:=qh hoa
 have H0:Hid (ea.map Prod.fst=idxK (es.map Prod.fst) 0):=qh (by rw[idxK_zero,hea])
 have hnn:ea.length<=2513169434843:=by omega
 have HLE:=qh hl5
 clear OE hb5 hbb5 hea hoa hl5 hn Z4 HB4 T4 HW4 HD
 go_wp2_with fail
 go_loopw [15] (fun s15 wr=>∃(k:Nat) (ek:List ERow),k<=ea.length/\s15=.int .i64 (k:Int)/\Hid (ek.length=ea.length/\ek.map Prod.fst=idxK (es.map Prod.fst) k)/\Hid (EO wr w4.heap.size Ea ca ek)/\Hid (Mods (fun b=>Ea.map (·.block)=some b) w5 wr)) (fun s15 _=>ea.length - (intOf s15).toNat)
 case atStart=>exact⟨0,ea,Nat.zero_le _,rfl,qh ⟨rfl,H0.out⟩,HOA,qh (Mods.refl _ _)⟩
 case round =>
  obtain⟨k,ek,hk,rfl,HK,HO,HM⟩:=hrel
  by_cases hlt:k<ea.length
  ·have hki:(k:Int)<(ea.length:Int):=by omega
   have hke:k<ek.length:=by rw[HK.out.1];exact hlt
   obtain⟨b,rfl,hb0,hb1⟩:=HO.out.row.head' (by rw[List.length_map];omega)
   obtain⟨c0,f0,h1,m1⟩:=HO.out.setIdx hke (k+1)
   have hwk:IntKind.i64.wrap ((k:Int)+1)=((k+1:Nat):Int):=by rw[IntWalk.i64_in _ (by omega)];omega
   have hwu:IntKind.u64.wrap ((k+1:Nat):Int)=((k+1:Nat):Int):=wrap_small (by omega) (by omega)
   have HK1:Hid ((ek.set k ({ ek[k].1 with idx:=k+1 },ek[k].2)).length=ea.length/\(ek.set k ({ ek[k].1 with idx:=k+1 },ek[k].2)).map Prod.fst=idxK (es.map Prod.fst) (k+1)):=qh ⟨by rw[List.length_set,HK.out.1],by
    have h2:k<(es.map Prod.fst).length:=by have:=congrArg List.length HK.out.2;rw[List.length_map,idxK_len] at this;omega
    have h3:(ek.map Prod.fst)[k]?=(idxK (es.map Prod.fst) k)[k]?:=by rw[HK.out.2]
    rw[idxK_get,List.getElem?_map,List.getElem?_eq_getElem hke,List.getElem?_eq_getElem h2] at h3
    simp only[Option.map_some,Option.some.injEq,Nat.lt_irrefl,if_false] at h3
    rw[map_set_fst hke,idxK_step _ _ h2,<-HK.out.2]
    congr 1
    rw[<-h3,List.getElem_map]⟩
   have HO1:=qh h1
   have HM1:Hid (Mods (fun x=>(some (⟨b,0,none⟩:Addr)).map (·.block)=some x) w5 (wr.setCell ⟨b,k*5,none⟩ (.int .u64 ((k+1:Nat):Int)))):=qh (HM.out.then (m1.mono (fun x _ e=>by rw[e];rfl)))
   clear h1 m1 HK HO HM
   go_wp2_with fail
   go_roundw
   case rel=>exact⟨k+1,_,by omega,by go_num,HK1,HO1,HM1⟩
   case measure=>simp[intOf];omega
  ·obtain rfl:k=ea.length:=by omega
   have hs5r:=HM.out.size
   obtain⟨hekl,hek⟩:=HK.out
   have hbr:Below w.heap.size w wr:=Mods.old HB5.out HM.out HB5.out.size (fun x _ e=>by have:=(HOA.out.row.blk_lt x e).1;omega)
   have hSE:=HE.out.se
   have HBR:=qh hbr
   have ZR:=qh (Z5.out.mods HM.out (fun e=>by have:=(HOA.out.row.blk_lt _ e).1;omega))
   have hb4r:Below w4.heap.size w4 wr:=Mods.old HB45.out HM.out HB45.out.size (fun x _ e=>(HOA.out.row.blk_lt x e).1)
   have hstr:=ST4.out.1.below (by omega) hb4r
   have hshr:=ST4.out.2.1.below hb4r
   have ANS:Hid (∀v,Below wr.heap.size wr v->Calls Tryz.prog 11 #[] v fun e w'=>e=.returned (.bool true)/\Below v.heap.size v w'):=qh (fun v hv=>lawAnswersS v (((hSE.below (hbr.trans (hv.mono hbr.size)))).up (Nat.le_trans hbr.size hv.size)))
   have HO2:=HO
   have HEK:=qh hekl
   clear hekl
   by_cases h50:ea.length<=50
   ·have h50i:¬(50:Int)<(ea.length:Int):=by omega
    have h50b:decide ((50:Int)<(ea.length:Int))=false:=by simpa using h50i
    have HB4S:Hid ((∀b,S3 b\/F3 b->w.heap.size<=b/\b<w4.heap.size)/\(w.heap.size<=z.q/\z.q<w4.heap.size)/\(w.heap.size<=z.ph/\z.ph<w4.heap.size)/\∀b,z.E.map (·.block)=some b->w.heap.size<=b/\b<w4.heap.size):=qh (by
     obtain⟨h1,h2,_⟩:=ST4.out
     obtain⟨_,_,_,_,_,_,hx⟩:=h1.lr
     exact⟨fun b e=>e.elim (fun e=>⟨hx.lb.sge b e,hx.lb.di.bnd b e⟩) (fun e=>hx.lb.bnd b e),⟨h1.qB,h1.blk.lt⟩,⟨h2.ge,h2.blk.lt⟩,fun b e=>h1.re.row.blk_lt b e⟩)
    have HSTR:=qh (And.intro hstr (And.intro hshr (And.intro ST4.out.2.2 (And.intro hek hb4r))))
    clear HK HM hek hbr hb4r hstr hshr ST4
    go_wp2_with (go_at_call 11;refine(ANS.out _ (Below.refl _ _)).mono ?_)
    first | rintro e w6 rfl b6 | rintro e w6 ⟨rfl,b6⟩
    have SO:=lawSound Ea ca ek 1 (by decide) w6 (HO2.out.el.below b6) (by rw[HEK.out];omega)
    rw[show((1:Nat):Int)=1 from rfl,HEK.out] at SO
    have SOH:=qh SO
    have HB6:=qh b6
    clear b6 SO
    go_wp2_with (go_at_call 12;refine SOH.out.mono ?_)
    rintro e w7 ⟨r,rfl,hr,b7⟩
    have HB7:=qh (belowTrans HB6.out b7)
    have HR:=qh hr
    clear b7 HB6 SOH hr
    cases r with
    | false =>
     go_wp2_with (go_at_call 11;refine(ANS.out _ HB7.out).mono ?_)
     first | rintro e w8 rfl b8 | rintro e w8 ⟨rfl,b8⟩
     have HB8:=qh (HBR.out.trans ((belowTrans HB7.out b8).mono HBR.out.size))
     clear b8
     go_wp2_with fail
     go_ret
     exact⟨rfl,HB8.out⟩
    | true =>
     obtain⟨hb,hhb⟩:∃hb,hb=hardB v:=⟨_,rfl⟩
     have HO:=qh (refHardOK t v w7 hb hhb.symm)
     have ZH:=qh (ZR.out.kept HB7.out)
     have HHB:=qh hhb
     clear hhb
     go_wp2_with (first
      | (refine wpList_bareS (by rfl) ?_;refine wpList_load_row rfl 25 (.tmp 5) rfl w.heap.size rfl 25 #[.int .u64 (t:Int),.int .i64 v] (0,0) _ ZH.out Tryz.underlying25 rfl hard_size ?_)
      | (go_at_call 13;refine HO.out.mono ?_))
     first | rintro e w8 rfl b8 | rintro e w8 ⟨rfl,b8⟩
     have HB8:=qh (belowTrans HB7.out b8)
     clear b8 HO HB7
     cases hb with
     | false =>
      go_wp2_with (go_at_call 11;refine(ANS.out _ HB8.out).mono ?_)
      first | rintro e w9 rfl b9 | rintro e w9 ⟨rfl,b9⟩
      have HB9:=qh (HBR.out.trans ((belowTrans HB8.out b9).mono HBR.out.size))
      clear b9
      go_wp2_with fail
      go_ret
      exact⟨rfl,HB9.out⟩
     | true =>
      have hls:SoundL 1 (ek.map Prod.fst):=HR.out trivial
      have hl50:ek.length<=50:=by rw[HEK.out];exact h50
      have hbw8:=HBR.out.trans (HB8.out.mono HBR.out.size)
      have hw8:=hbw8.size
      have hst8:=HSTR.out.1.below HBR.out.size HB8.out
      have hsh8:=HSTR.out.2.1.below HB8.out
      have ho8:=HO2.out.below HB8.out
      have hlx:=hardBytes_len t v
      have hsv:=sh_dskH (hardBytes t v) (by omega) 2000000 (by decide)
      have sv:=storeSaveHardT hst8 hsh8 HSTR.out.2.2.1.1 HSTR.out.2.2.1.2 rfl hw8 (HE.out.se.below hbw8) t v (by omega) HHB.out.symm rfl (by decide) (by show(1:Nat)<=1000;decide) (by show(1:Nat)<=1000;decide) (by show(0:Nat)<=1000;decide) (by rw[hsv])
      rw[hsv] at sv
      simp only at sv
      have SV:=qh sv
      have HV5:Hid (hardB v=true):=qh HHB.out.symm
      have Z8:=qh (ZR.out.kept HB8.out)
      have HO8:=qh ho8
      have HLS:=qh (And.intro hls (And.intro hl50 HSTR.out.2.2.2.1))
      have HBW8:=qh hbw8
      have hw48:w4.heap.size<=w8.heap.size:=Nat.le_trans HSTR.out.2.2.2.2.size HB8.out.size
      clear hls hl50 hbw8 hst8 hsh8 ho8 hlx hsv sv HSTR HR HHB ANS HBR HB8 HO2 ZR ZH
      go_wp2_with (first
       | (refine wpList_load_row rfl 25 (.tmp 5) rfl w.heap.size rfl 25 #[.int .u64 (t:Int),.int .i64 v] (0,0) _ Z8.out Tryz.underlying25 rfl hard_size ?_)
       | (go_at_call 14;refine SV.out.mono ?_))
      rintro e w9 ⟨rfl,S9,hst9,hs9,m9⟩
      have ho9:=HO8.out.mods m9 (fun b h1 _ e=>by
       have h:=HB4S.out
       rcases e with e | e | e
       ·have:=(h.1 b (.inl e)).2;omega
       ·have:=h.2.2.1.2;omega
       ·have:=h.2.1.2;omega)
      have hw9:=m9.size
      have hbw9:Below w.heap.size w w9:=Mods.old HBW8.out m9 HBW8.out.size (fun b _ e=>by
       have h:=HB4S.out
       rcases e with e | e | e
       ·exact(h.1 b (.inl e)).1
       ·rw[e];exact h.2.2.1.1
       ·rw[e];exact h.2.1.1)
      have oe:=refOwnEntries Ea ca ek w9 ho9.el (by have:=HLS.out.2.1;omega) (fun y hy=>by
       have:=(enB_parts (soundL_all HLS.out.1 y.1 (List.mem_map_of_mem hy))).2.2.2.2.2.2.1
       omega)
      rw[HEK.out] at oe
      have OE9:=qh oe
      have HST9:=qh (And.intro hst9 (And.intro hs9 hbw9))
      clear SV m9 ho9 oe hst9 hs9 hbw9 Z8 HO8 HBW8
      go_wp2_with (go_at_call 10;refine OE9.out.mono ?_)
      rintro e w10 ⟨Eb,cb,eb,rfl,heb,hob,b10⟩
      have hw10:=b10.size
      have hw91:w.heap.size<=w9.heap.size:=by omega
      have hst10:=HST9.out.1.below hw91 b10
      have hbw10:=HST9.out.2.2.trans (b10.mono hw91)
      have hebl:eb.length<=50:=by have:=congrArg List.length heb;rw[List.length_map,List.length_map] at this;have:=HLS.out.2.1;omega
      obtain⟨ls,hlsd⟩:∃ls,ls=ek.map Prod.fst:=⟨_,rfl⟩
      have hlsd':=HLS.out.1
      rw[<-hlsd] at heb hlsd'
      have hall:=soundL_all hlsd'
      have hrb:=rec_bound hall
      have hlsl:ls.length<=50:=by rw[hlsd,List.length_map];exact HLS.out.2.1
      have hrn:=recsB_bound (ls.map En.bytes) 1 hrb
      rw[List.length_map] at hrn
      have hfl:(frameB (hardBytes t v)).length<=26:=by
       have:=hardBytes_len t v
       rw[frameB_len];omega
      have hsl:=sl_dskH 2000000 (frameB (hardBytes t v)) (ls.map En.bytes) (fun y hy=>by have:=hrb y hy;omega) (by omega) (by decide)
      have sl:=storeSaveLogT hst10 rfl rfl rfl fine1 (by show(2:Nat)<=1000;decide) (by omega) (HE.out.se.below hbw10) Eb cb w9.heap.size eb hob (by omega) (fun b hb=>by
       obtain⟨_,_,_,_,_,_,hx⟩:=HST9.out.1.lr
       exact⟨fun e=>by have:=hx.lb.di.bnd b e;omega,fun e=>by have:=(hx.lb.bnd b e).2;omega⟩) (HST9.out.1.blk.lt) (fun b hb=>(HST9.out.1.re.row.blk_lt b hb).2) true (by rw[heb];exact⟨fun _=>hlsd',fun _=>rfl⟩)
      rw[if_pos rfl,heb] at sl
      simp only at sl
      rw[hsl] at sl
      have SL:=qh sl
      have HLD:=qh (And.intro hlsd (And.intro hall hlsl))
      have HBW10:=qh hbw10
      clear OE9 heb hob b10 hst10 hbw10 hlsd hlsd' hall hrb hrn hfl hsl sl hlsl
      go_wp2_with (go_at_call 15;refine SL.out.mono ?_)
      rintro e w11 ⟨rfl,S11,F11,E11,ec11,es11,hst11,hes11,hs11,hf11,m11⟩
      have hs11b:w.heap.size<=w11.heap.size:=by have:=m11.size;omega
      simp only[if_true] at hes11
      have e11l:es11.length<=50:=by have:=congrArg List.length hes11;rw[List.length_map] at this;have:=HLD.out.2.2;omega
      have hst11:ST w.heap.size S11 F11 w11 g { z with E:=E11,ec:=ec11 } ⟨t,v,0,0,[1,2],[],[],es11,openS nmShot Sc.zero,lgB (ls.map En.bytes),false⟩ (dskH 2000000 (frameB (hardBytes t v)) (recsB 1 (ls.map En.bytes))):=hst11
      have st:=storeStateT hst11 hs11b (by show(2:Nat)<=1000000;decide) (by show(0:Nat)<=1000000;decide) (by show(0:Nat)<=1000000;decide) (by show es11.length<=_;omega) (fun y hy=>by
       have:y.1∈ls:=by rw[<-hes11];exact List.mem_map_of_mem hy
       have:=(enB_parts (HLD.out.2.1 y.1 this)).2.2.2.2.2.2.1
       omega)
      simp only[hes11] at st
      have SST:=qh st
      have hdi11:DI S11 w11 g (dskH 2000000 (frameB (hardBytes t v)) (recsB 1 (ls.map En.bytes))):=hst11.ss.di
      have hsg11:=hst11.ss.sge
      have hbw11:Below w.heap.size w w11:=Mods.old HBW10.out m11 HBW10.out.size (fun b _ e=>by
       obtain⟨_,_,_,_,_,_,hx⟩:=(HST9.out.1.below hw91 (Below.refl _ _)).lr
       rcases e with e | e | e | e
       ·exact HST9.out.1.ss.sge b e
       ·exact(hx.lb.bnd b e).1
       ·rw[e];exact HST9.out.1.qB
       ·exact(HST9.out.1.re.row.blk_lt b e).1)
      have HB11:=qh (And.intro hbw11 (And.intro hdi11 hsg11))
      clear SL hst11 hs11 hf11 m11 st hdi11 hsg11 hbw11 HST9 HBW10
      go_wp2_with (go_at_call 16;refine SST.out.mono ?_)
      rintro e w12 ⟨Aw,acw,Bw,bcw,Cw,ccw,Ew,ecw,esw,rfl,hew,oew,ow1,ow2,ow3,b12⟩
      obtain⟨kmw,bmw⟩:=KS.made (lo':=w11.heap.size) (ht:=t) (hv:=v) (i:=0) (t:=0) oew hew ow1 ow2 ow3 (Nat.le_refl _) b12.size state0 rfl
      have TTw:=qh (Blk.new w12 state0 38)
      obtain⟨w13,hw13⟩:∃w13,w13=(w12.alloc (.cells state0 38)).setRow w12.heap.size (stateL t v 0 0 [1,2] [] [] Aw acw Bw bcw Cw ccw Ew esw.length ecw):=⟨_,rfl⟩
      rw[<-hw13] at kmw bmw
      have HW13:=qh hw13.symm
      have hw12:=b12.size
      have hw123:=bmw.size
      have hwlt0:w12.heap.size<w13.heap.size:=kmw.blk.lt
      have b13:=belowTrans b12 bmw
      have HB:=qh (HB11.out.1.trans (b13.mono hs11b))
      have HDI:=qh (And.intro (HB11.out.2.1.below b13) (And.intro HB11.out.2.2 (HB11.out.2.1.below b13).bnd))
      have Kw:=qh kmw
      obtain⟨low,hlow⟩:∃low,low=w11.heap.size:=⟨_,rfl⟩
      obtain⟨hiw,hhiw⟩:∃hiw,hiw=w12.heap.size+1:=⟨_,rfl⟩
      rw[<-hlow,<-hhiw] at Kw
      have HXw:Hid (∀b,S11 b->b<low\/hiw<=b):=qh (fun b hb=>.inl (by rw[hlow];exact HB11.out.2.1.bnd b hb))
      have hhww:hiw<=w13.heap.size:=by omega
      obtain⟨nw,hnw⟩:∃nw,nw=w12.heap.size:=⟨_,rfl⟩
      rw[<-hnw] at Kw
      have HNw:=qh hnw.symm
      clear SST hew oew ow1 ow2 ow3 b12 b13 kmw bmw hw13 HB11 hlow hhiw hnw hes11
      unfold stateL state0 at *
      go_upto_region 13 with(refine wpList_store_row rfl 38 (.tmp 16) (.tmp 90) rfl w12.heap.size (stateL t v 0 0 [1,2] [] [] Aw acw Bw bcw Cw ccw Ew esw.length ecw) rfl rfl _ _ TTw.out state_size rfl (by simp[Value.oneCell']) ?_;rw[HW13.out,HNw.out])
      try simp only[Act.put]
      clear TTw HW13 HNw
      go_wp2_with (go_at_call 9;refine lawFirst.mono ?_)
      rintro e wf1 ⟨Vf1,rfl,hvf1,bf1⟩
      have hbf1:=HB.out.trans (bf1.mono HB.out.size)
      have hwf1:=bf1.size
      have op1:=openH (B:=w.heap.size) 2000000 t v ht HV5.out ls HLD.out.2.1 (by have:=HLD.out.2.2;omega) (HDI.out.1.below bf1) hbf1.size HDI.out.2.1 (HE.out.below hbf1) Vf1 hvf1.rv (fun e=>by have:=(hvf1.blk_lt Vf1.block rfl).1;have:=HDI.out.2.2 _ e;omega)
      have OP1:=qh op1
      have HBF1:=qh hbf1
      have KFw:=qh (Kw.out.below bf1)
      clear hvf1 bf1 hbf1 op1 HB Kw
      go_wp2_with (go_at_call 8;refine OP1.out.mono ?_)
      rintro e wo1 ⟨zo1,Ao1,aco1,Bo1,bco1,Co1,cco1,Eo1,eco1,eso1,nbo1,So1,rfl,heo1,oeo1,oo1,oo2,oo3,hnbo1,hdio1,hso1,hsno1,mo1,_⟩
      have hwo1:=mo1.size
      have hnw1:nbo1<=wo1.heap.size:=ov_base oo1 (by simp[ncells])
      obtain⟨km1,bm1⟩:=KS.made (lo':=nbo1) (ht:=t) (hv:=v) (i:=0) (t:=0) oeo1 heo1 oo1 oo2 oo3 (Nat.le_refl _) hnw1 state0 rfl
      have TT1:=qh (Blk.new wo1 state0 38)
      have hbo1:Below w.heap.size w wo1:=Mods.old HBF1.out mo1 HBF1.out.size (fun b _ e=>HDI.out.2.1 b e)
      obtain⟨wn1,hwn1⟩:∃x,x=(wo1.alloc (.cells state0 38)).setRow wo1.heap.size (stateL t v 0 0 [1,2] [] [] Ao1 aco1 Bo1 bco1 Co1 cco1 Eo1 eso1.length eco1):=⟨_,rfl⟩
      rw[<-hwn1] at km1 bm1
      have HWN1:=qh hwn1.symm
      have hwm1:=bm1.size
      have hwlt1:wo1.heap.size<wn1.heap.size:=km1.blk.lt
      have HB:=qh (hbo1.trans (bm1.mono hbo1.size))
      have Kw:=qh ((KFw.out.mods mo1 (fun b h1 h2 e=>by have:=HXw.out b e;omega)).below bm1)
      have HYw:Hid (∀b,So1 b->b<low\/hiw<=b):=qh (fun b hb=>(hso1 b hb).elim (HXw.out b) (fun e=>.inr (by omega)))
      clear HXw
      have HXw:=HYw
      clear HYw KFw
      have hgs1:∀b,So1 b->w.heap.size<=b:=fun b hb=>(hso1 b hb).elim (HDI.out.2.1 b) (fun e=>Nat.le_trans HBF1.out.size e)
      have hdn1:=hdio1.below bm1
      have hbn1:=hdn1.bnd
      clear HDI
      have HDI:=qh (And.intro hdn1 (And.intro hgs1 hbn1))
      have Ka:=qh km1
      obtain⟨loa,hloa⟩:∃loa,loa=nbo1:=⟨_,rfl⟩
      obtain⟨hia,hhia⟩:∃hia,hia=wo1.heap.size+1:=⟨_,rfl⟩
      rw[<-hloa,<-hhia] at Ka
      have HXa:Hid (∀b,So1 b->b<loa\/hia<=b):=qh (fun b hb=>.inl (by rw[hloa];exact hsno1 b hb))
      obtain⟨na,hna⟩:∃na,na=wo1.heap.size:=⟨_,rfl⟩
      rw[<-hna] at Ka
      have HNa:=qh hna.symm
      have hhwa:hia<=wn1.heap.size:=by omega
      clear OP1 heo1 oeo1 oo1 oo2 oo3 hdio1 hso1 hsno1 mo1 km1 bm1 hwn1 hbo1 HBF1 hdn1 hgs1 hbn1 hloa hhia hna
      go_upto_region 14 with(refine wpList_store_row rfl 38 (.tmp 18) (.tmp 96) rfl wo1.heap.size (stateL t v 0 0 [1,2] [] [] Ao1 aco1 Bo1 bco1 Co1 cco1 Eo1 eso1.length eco1) rfl rfl _ _ TT1.out state_size rfl (by simp[Value.oneCell']) ?_;rw[HWN1.out,HNa.out])
      try simp only[Act.put]
      clear TT1 HWN1 HNa
      have FA:=diskFallC mask torn HDI.out.1 (by show(2:Nat)<=_;decide) HMT.out.1 HMT.out.2
      rw[fall_dskH] at FA
      have FAH:=qh FA
      clear FA
      go_wp2_with (go_at_call 17;refine FAH.out.mono ?_)
      rintro e wg ⟨rfl,hdg,mg⟩
      have hwg:=mg.size
      have hbg:=Mods.old HB.out mg HB.out.size (fun b _ e=>HDI.out.2.1 b e)
      have Lw:=qh (Kw.out.mods mg (fun b h1 h2 e=>by have:=HXw.out b e;omega))
      clear Kw
      have Kw:=Lw
      have HYw:Hid (∀b,Sx So1 wn1 wg b->b<low\/hiw<=b):=qh (fun b hb=>hb.elim (HXw.out b) (fun e=>.inr (by have:=e.1;omega)))
      clear HXw
      have HXw:=HYw
      clear HYw Lw
      have La:=qh (Ka.out.mods mg (fun b h1 h2 e=>by have:=HXa.out b e;omega))
      clear Ka
      have Ka:=La
      have HYa:Hid (∀b,Sx So1 wn1 wg b->b<loa\/hia<=b):=qh (fun b hb=>hb.elim (HXa.out b) (fun e=>.inr (by have:=e.1;omega)))
      clear HXa
      have HXa:=HYa
      clear HYa La
      have hgg:∀b,Sx So1 wn1 wg b->w.heap.size<=b:=fun b hb=>hb.elim (HDI.out.2.1 b) (fun e=>Nat.le_trans HB.out.size e.1)
      clear HDI HB
      have HB:=qh hbg
      have HDI:=qh (And.intro hdg (And.intro hgg hdg.bnd))
      clear FAH hdg mg hbg hgg
      generalize Sx So1 wn1 wg=Sg at *
      go_wp2_with (go_at_call 9;refine lawFirst.mono ?_)
      rintro e wf2 ⟨Vf2,rfl,hvf2,bf2⟩
      have hbf2:=HB.out.trans (bf2.mono HB.out.size)
      have hwf2:=bf2.size
      have op2:=openH (B:=w.heap.size) 2000000 t v ht HV5.out ls HLD.out.2.1 (by have:=HLD.out.2.2;omega) (HDI.out.1.below bf2) hbf2.size HDI.out.2.1 (HE.out.below hbf2) Vf2 hvf2.rv (fun e=>by have:=(hvf2.blk_lt Vf2.block rfl).1;have:=HDI.out.2.2 _ e;omega)
      have OP2:=qh op2
      have HBF2:=qh hbf2
      have KFw:=qh (Kw.out.below bf2)
      have KFa:=qh (Ka.out.below bf2)
      clear hvf2 bf2 hbf2 op2 HB Kw Ka
      go_wp2_with (go_at_call 8;refine OP2.out.mono ?_)
      rintro e wo2 ⟨zo2,Ao2,aco2,Bo2,bco2,Co2,cco2,Eo2,eco2,eso2,nbo2,So2,rfl,heo2,oeo2,oo1,oo2,oo3,hnbo2,hdio2,hso2,hsno2,mo2,_⟩
      have hwo2:=mo2.size
      have hnw2:nbo2<=wo2.heap.size:=ov_base oo1 (by simp[ncells])
      obtain⟨km2,bm2⟩:=KS.made (lo':=nbo2) (ht:=t) (hv:=v) (i:=0) (t:=0) oeo2 heo2 oo1 oo2 oo3 (Nat.le_refl _) hnw2 state0 rfl
      have TT2:=qh (Blk.new wo2 state0 38)
      have hbo2:Below w.heap.size w wo2:=Mods.old HBF2.out mo2 HBF2.out.size (fun b _ e=>HDI.out.2.1 b e)
      obtain⟨wn2,hwn2⟩:∃x,x=(wo2.alloc (.cells state0 38)).setRow wo2.heap.size (stateL t v 0 0 [1,2] [] [] Ao2 aco2 Bo2 bco2 Co2 cco2 Eo2 eso2.length eco2):=⟨_,rfl⟩
      rw[<-hwn2] at km2 bm2
      have HWN2:=qh hwn2.symm
      have hwm2:=bm2.size
      have hwlt2:wo2.heap.size<wn2.heap.size:=km2.blk.lt
      have HB:=qh (hbo2.trans (bm2.mono hbo2.size))
      have Kw:=qh ((KFw.out.mods mo2 (fun b h1 h2 e=>by have:=HXw.out b e;omega)).below bm2)
      have HYw:Hid (∀b,So2 b->b<low\/hiw<=b):=qh (fun b hb=>(hso2 b hb).elim (HXw.out b) (fun e=>.inr (by omega)))
      clear HXw
      have HXw:=HYw
      clear HYw KFw
      have Ka:=qh ((KFa.out.mods mo2 (fun b h1 h2 e=>by have:=HXa.out b e;omega)).below bm2)
      have HYa:Hid (∀b,So2 b->b<loa\/hia<=b):=qh (fun b hb=>(hso2 b hb).elim (HXa.out b) (fun e=>.inr (by omega)))
      clear HXa
      have HXa:=HYa
      clear HYa KFa
      have hgs2:∀b,So2 b->w.heap.size<=b:=fun b hb=>(hso2 b hb).elim (HDI.out.2.1 b) (fun e=>Nat.le_trans HBF2.out.size e)
      have hdn2:=hdio2.below bm2
      have hbn2:=hdn2.bnd
      clear HDI
      have HDI:=qh (And.intro hdn2 (And.intro hgs2 hbn2))
      have Kb:=qh km2
      obtain⟨lob,hlob⟩:∃lob,lob=nbo2:=⟨_,rfl⟩
      obtain⟨hib,hhib⟩:∃hib,hib=wo2.heap.size+1:=⟨_,rfl⟩
      rw[<-hlob,<-hhib] at Kb
      have HXb:Hid (∀b,So2 b->b<lob\/hib<=b):=qh (fun b hb=>.inl (by rw[hlob];exact hsno2 b hb))
      obtain⟨nb,hnb⟩:∃nb,nb=wo2.heap.size:=⟨_,rfl⟩
      rw[<-hnb] at Kb
      have HNb:=qh hnb.symm
      have hhwb:hib<=wn2.heap.size:=by omega
      clear OP2 heo2 oeo2 oo1 oo2 oo3 hdio2 hso2 hsno2 mo2 km2 bm2 hwn2 hbo2 HBF2 hdn2 hgs2 hbn2 hlob hhib hnb
      go_upto_region 17 with(refine wpList_store_row rfl 38 (.tmp 21) (.tmp 112) rfl wo2.heap.size (stateL t v 0 0 [1,2] [] [] Ao2 aco2 Bo2 bco2 Co2 cco2 Eo2 eso2.length eco2) rfl rfl _ _ TT2.out state_size rfl (by simp[Value.oneCell']) ?_;rw[HWN2.out,HNb.out])
      try simp only[Act.put]
      clear TT2 HWN2 HNb
      go_wp2_with (go_at_call 9;refine lawFirst.mono ?_)
      rintro e wf3 ⟨Vf3,rfl,hvf3,bf3⟩
      have hbf3:=HB.out.trans (bf3.mono HB.out.size)
      have hwf3:=bf3.size
      have op3:=openH (B:=w.heap.size) 2000000 t v ht HV5.out ls HLD.out.2.1 (by have:=HLD.out.2.2;omega) (HDI.out.1.below bf3) hbf3.size HDI.out.2.1 (HE.out.below hbf3) Vf3 hvf3.rv (fun e=>by have:=(hvf3.blk_lt Vf3.block rfl).1;have:=HDI.out.2.2 _ e;omega)
      have OP3:=qh op3
      have HBF3:=qh hbf3
      have KFw:=qh (Kw.out.below bf3)
      have KFa:=qh (Ka.out.below bf3)
      have KFb:=qh (Kb.out.below bf3)
      clear hvf3 bf3 hbf3 op3 HB Kw Ka Kb
      go_wp2_with (go_at_call 8;refine OP3.out.mono ?_)
      rintro e wo3 ⟨zo3,Ao3,aco3,Bo3,bco3,Co3,cco3,Eo3,eco3,eso3,nbo3,So3,rfl,heo3,oeo3,oo1,oo2,oo3,hnbo3,hdio3,hso3,hsno3,mo3,_⟩
      have hwo3:=mo3.size
      have hnw3:nbo3<=wo3.heap.size:=ov_base oo1 (by simp[ncells])
      obtain⟨km3,bm3⟩:=KS.made (lo':=nbo3) (ht:=t) (hv:=v) (i:=0) (t:=0) oeo3 heo3 oo1 oo2 oo3 (Nat.le_refl _) hnw3 state0 rfl
      have TT3:=qh (Blk.new wo3 state0 38)
      have hbo3:Below w.heap.size w wo3:=Mods.old HBF3.out mo3 HBF3.out.size (fun b _ e=>HDI.out.2.1 b e)
      obtain⟨wn3,hwn3⟩:∃x,x=(wo3.alloc (.cells state0 38)).setRow wo3.heap.size (stateL t v 0 0 [1,2] [] [] Ao3 aco3 Bo3 bco3 Co3 cco3 Eo3 eso3.length eco3):=⟨_,rfl⟩
      rw[<-hwn3] at km3 bm3
      have HWN3:=qh hwn3.symm
      have hwm3:=bm3.size
      have hwlt3:wo3.heap.size<wn3.heap.size:=km3.blk.lt
      have HB:=qh (hbo3.trans (bm3.mono hbo3.size))
      have Kw:=qh ((KFw.out.mods mo3 (fun b h1 h2 e=>by have:=HXw.out b e;omega)).below bm3)
      have HYw:Hid (∀b,So3 b->b<low\/hiw<=b):=qh (fun b hb=>(hso3 b hb).elim (HXw.out b) (fun e=>.inr (by omega)))
      clear HXw
      have HXw:=HYw
      clear HYw KFw
      have Ka:=qh ((KFa.out.mods mo3 (fun b h1 h2 e=>by have:=HXa.out b e;omega)).below bm3)
      have HYa:Hid (∀b,So3 b->b<loa\/hia<=b):=qh (fun b hb=>(hso3 b hb).elim (HXa.out b) (fun e=>.inr (by omega)))
      clear HXa
      have HXa:=HYa
      clear HYa KFa
      have Kb:=qh ((KFb.out.mods mo3 (fun b h1 h2 e=>by have:=HXb.out b e;omega)).below bm3)
      have HYb:Hid (∀b,So3 b->b<lob\/hib<=b):=qh (fun b hb=>(hso3 b hb).elim (HXb.out b) (fun e=>.inr (by omega)))
      clear HXb
      have HXb:=HYb
      clear HYb KFb
      have hgs3:∀b,So3 b->w.heap.size<=b:=fun b hb=>(hso3 b hb).elim (HDI.out.2.1 b) (fun e=>Nat.le_trans HBF3.out.size e)
      have hdn3:=hdio3.below bm3
      have hbn3:=hdn3.bnd
      clear HDI
      have HDI:=qh (And.intro hdn3 (And.intro hgs3 hbn3))
      have Kc:=qh km3
      obtain⟨loc,hloc⟩:∃loc,loc=nbo3:=⟨_,rfl⟩
      obtain⟨hic,hhic⟩:∃hic,hic=wo3.heap.size+1:=⟨_,rfl⟩
      rw[<-hloc,<-hhic] at Kc
      have HXc:Hid (∀b,So3 b->b<loc\/hic<=b):=qh (fun b hb=>.inl (by rw[hloc];exact hsno3 b hb))
      obtain⟨nc,hnc⟩:∃nc,nc=wo3.heap.size:=⟨_,rfl⟩
      rw[<-hnc] at Kc
      have HNc:=qh hnc.symm
      have hhwc:hic<=wn3.heap.size:=by omega
      clear OP3 heo3 oeo3 oo1 oo2 oo3 hdio3 hso3 hsno3 mo3 km3 bm3 hwn3 hbo3 HBF3 hdn3 hgs3 hbn3 hloc hhic hnc
      go_upto_region 18 with(refine wpList_store_row rfl 38 (.tmp 24) (.tmp 119) rfl wo3.heap.size (stateL t v 0 0 [1,2] [] [] Ao3 aco3 Bo3 bco3 Co3 cco3 Eo3 eso3.length eco3) rfl rfl _ _ TT3.out state_size rfl (by simp[Value.oneCell']) ?_;rw[HWN3.out,HNc.out])
      try simp only[Act.put]
      clear TT3 HWN3 HNc
      have hlen:∀(l:List ERow),l.map Prod.fst=ls->l.length<=1000000:=fun l h=>by
       have:=congrArg List.length h
       rw[List.length_map] at this
       have:=HLD.out.2.2
       omega
      have SM1:=qh (lawSame t v 0 0 [1,2] [] [] Ao1 Bo1 Co1 Aw Bw Cw aco1 bco1 cco1 acw bcw ccw Eo1 Ew eco1 ecw eso1 esw wn3 Ka.out.rv.rv Ka.out.rl.rv Ka.out.rd.rb Kw.out.rv.rv Kw.out.rl.rv Kw.out.rd.rb Ka.out.re.el Kw.out.re.el (by rw[Ka.out.fst,Kw.out.fst]) (hlen _ Ka.out.fst) (by decide) (by decide))
      have Ba:=qh Ka.out.blk
      have Ca:=qh Kw.out.blk
      unfold stateL at SM1
      go_wp2_with (first
       | (refine wpList_bareS (by rfl) ?_;refine wpList_load_row rfl 38 (.tmp 18) rfl na rfl 38 (stateL t v 0 0 [1,2] [] [] Ao1 aco1 Bo1 bco1 Co1 cco1 Eo1 eso1.length eco1) (0,0) _ Ba.out Tryz.underlying38 rfl state_size ?_)
       | (refine wpList_bareS (by rfl) ?_;refine wpList_load_row rfl 38 (.tmp 16) rfl nw rfl 38 (stateL t v 0 0 [1,2] [] [] Aw acw Bw bcw Cw ccw Ew esw.length ecw) (0,0) _ Ca.out Tryz.underlying38 rfl state_size ?_)
       | (go_at_call 18;refine SM1.out.mono ?_))
      first | rintro e w21 rfl b21 | rintro e w21 ⟨rfl,b21⟩
      have HBa:=qh (HB.out.trans (b21.mono HB.out.size))
      have Mw:=qh (Kw.out.below b21)
      clear Kw
      have Kw:=Mw
      clear Mw
      have Ma:=qh (Ka.out.below b21)
      clear Ka
      have Ka:=Ma
      clear Ma
      have Mb:=qh (Kb.out.below b21)
      clear Kb
      have Kb:=Mb
      clear Mb
      have Mc:=qh (Kc.out.below b21)
      clear Kc
      have Kc:=Mc
      clear Mc
      clear SM1 Ba Ca b21 HB
      have HB:=HBa
      clear HBa
      have SM2:=qh (lawSame t v 0 0 [1,2] [] [] Ao2 Bo2 Co2 Aw Bw Cw aco2 bco2 cco2 acw bcw ccw Eo2 Ew eco2 ecw eso2 esw w21 Kb.out.rv.rv Kb.out.rl.rv Kb.out.rd.rb Kw.out.rv.rv Kw.out.rl.rv Kw.out.rd.rb Kb.out.re.el Kw.out.re.el (by rw[Kb.out.fst,Kw.out.fst]) (hlen _ Kb.out.fst) (by decide) (by decide))
      have Bb:=qh Kb.out.blk
      have Cb:=qh Kw.out.blk
      unfold stateL at SM2
      go_wp2_with (first
       | (refine wpList_bareS (by rfl) ?_;refine wpList_load_row rfl 38 (.tmp 21) rfl nb rfl 38 (stateL t v 0 0 [1,2] [] [] Ao2 aco2 Bo2 bco2 Co2 cco2 Eo2 eso2.length eco2) (0,0) _ Bb.out Tryz.underlying38 rfl state_size ?_)
       | (refine wpList_bareS (by rfl) ?_;refine wpList_load_row rfl 38 (.tmp 16) rfl nw rfl 38 (stateL t v 0 0 [1,2] [] [] Aw acw Bw bcw Cw ccw Ew esw.length ecw) (0,0) _ Cb.out Tryz.underlying38 rfl state_size ?_)
       | (go_at_call 18;refine SM2.out.mono ?_))
      first | rintro e w22 rfl b22 | rintro e w22 ⟨rfl,b22⟩
      have HBb:=qh (HB.out.trans (b22.mono HB.out.size))
      have Mw:=qh (Kw.out.below b22)
      clear Kw
      have Kw:=Mw
      clear Mw
      have Ma:=qh (Ka.out.below b22)
      clear Ka
      have Ka:=Ma
      clear Ma
      have Mb:=qh (Kb.out.below b22)
      clear Kb
      have Kb:=Mb
      clear Mb
      have Mc:=qh (Kc.out.below b22)
      clear Kc
      have Kc:=Mc
      clear Mc
      clear SM2 Bb Cb b22 HB
      have HB:=HBb
      clear HBb
      have SM3:=qh (lawSame t v 0 0 [1,2] [] [] Ao3 Bo3 Co3 Aw Bw Cw aco3 bco3 cco3 acw bcw ccw Eo3 Ew eco3 ecw eso3 esw w22 Kc.out.rv.rv Kc.out.rl.rv Kc.out.rd.rb Kw.out.rv.rv Kw.out.rl.rv Kw.out.rd.rb Kc.out.re.el Kw.out.re.el (by rw[Kc.out.fst,Kw.out.fst]) (hlen _ Kc.out.fst) (by decide) (by decide))
      have Bc:=qh Kc.out.blk
      have Cc:=qh Kw.out.blk
      unfold stateL at SM3
      go_wp2_with (first
       | (refine wpList_bareS (by rfl) ?_;refine wpList_load_row rfl 38 (.tmp 24) rfl nc rfl 38 (stateL t v 0 0 [1,2] [] [] Ao3 aco3 Bo3 bco3 Co3 cco3 Eo3 eso3.length eco3) (0,0) _ Bc.out Tryz.underlying38 rfl state_size ?_)
       | (refine wpList_bareS (by rfl) ?_;refine wpList_load_row rfl 38 (.tmp 16) rfl nw rfl 38 (stateL t v 0 0 [1,2] [] [] Aw acw Bw bcw Cw ccw Ew esw.length ecw) (0,0) _ Cc.out Tryz.underlying38 rfl state_size ?_)
       | (go_at_call 18;refine SM3.out.mono ?_))
      first | rintro e w23 rfl b23 | rintro e w23 ⟨rfl,b23⟩
      have HBc:=qh (HB.out.trans (b23.mono HB.out.size))
      have Mw:=qh (Kw.out.below b23)
      clear Kw
      have Kw:=Mw
      clear Mw
      have Ma:=qh (Ka.out.below b23)
      clear Ka
      have Ka:=Ma
      clear Ma
      have Mb:=qh (Kb.out.below b23)
      clear Kb
      have Kb:=Mb
      clear Mb
      have Mc:=qh (Kc.out.below b23)
      clear Kc
      have Kc:=Mc
      clear Mc
      clear SM3 Bc Cc b23 HB
      have HB:=HBc
      clear HBc
      go_wp2_with fail
      go_ret
      exact⟨rfl,HB.out⟩
   ·have h50i:(50:Int)<(ea.length:Int):=by omega
    clear HO HM hek hbr HK hb4r hstr hshr
    go_wp2_with (go_at_call 11;refine(ANS.out _ (Below.refl _ _)).mono ?_)
    first | rintro e w6 rfl b6 | rintro e w6 ⟨rfl,b6⟩
    have AN2:=qh (ANS.out w6 b6)
    have HB6:=qh (HBR.out.trans (b6.mono HBR.out.size))
    clear ANS b6 HBR
    go_wp2_with (go_at_call 11;refine AN2.out.mono ?_)
    first | rintro e w7 rfl b7 | rintro e w7 ⟨rfl,b7⟩
    have HB7:=qh (HB6.out.trans (b7.mono HB6.out.size))
    clear AN2 b7 HB6
    go_wp2_with fail
    go_ret
    exact⟨rfl,HB7.out⟩
end
end Go.Proofs.YtobdmlejabjmiaaGreatDoor
namespace Go.Proofs.YtobdmlejabjmiaaGreatDoor
open Go.ChangeShapes Go.WideShapes Go.ChangeAt Go.RowKit Go.Deep
section
variable {H:Type} {enc:TypeId × Value->H} {W:World}
end
end Go.Proofs.YtobdmlejabjmiaaGreatDoor
