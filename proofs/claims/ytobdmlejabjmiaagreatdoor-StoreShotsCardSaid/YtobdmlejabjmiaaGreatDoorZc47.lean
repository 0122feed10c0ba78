/- Made small by a program. -/
import Derived.Test.YtobdmlejabjmiaaGreatDoorZc46
set_option maxRecDepth 20000
set_option maxHeartbeats 8000000
namespace Go.Proofs.YtobdmlejabjmiaaGreatDoor
open Go.RowKit
section
variable {w w':World}
theorem zbP(i t:Nat)(k d:Int)(x:List UInt8)(D D':Option Addr)(dc dc':Nat)(w:World)(h:RB w D x)(h':RB w D' x) :
  Calls Tryz.prog 53 #[.agg (enC i t k d x D dc),.agg (enC i t k d x D' dc')] w fun e w'=>e=.returned (.bool true)/\Below w.heap.size w w':=by
 have hal:Below w.heap.size w ((w.alloc (.cells (enC i t k d x D dc) 44)).alloc (.cells (enC i t k d x D' dc') 44)):=((Below.refl _ _).alloc (Nat.le_refl _) _).alloc (by simp) _;have HAL:=qh hal;have k1:(convert 34 9 (.slice D x.length dc)).run Tryz.prog ((w.alloc (.cells (enC i t k d x D dc) 44)).alloc (.cells (enC i t k d x D' dc') 44))=.ok (.string ⟨x.toArray⟩) _:=convB dc (h.below hal);have k2:(convert 34 9 (.slice D' x.length dc')).run Tryz.prog ((w.alloc (.cells (enC i t k d x D dc) 44)).alloc (.cells (enC i t k d x D' dc') 44))=.ok (.string ⟨x.toArray⟩) _:=convB dc' (h'.below hal);clear h h' hal;unfold enC at *;go_enter Tryz.func53,Tryz.ntmps53;go_wp2_with fail;go_ret;exact⟨rfl,HAL.out⟩
theorem zaa(E F:Option Addr)(c c':Nat)(es fs:List ERow)(w:World)(h:EL w E es)(h':EL w F fs)(he:es.map Prod.fst=fs.map Prod.fst)(hn:es.length<=1000000) :
  Calls Tryz.prog 23 #[.slice E es.length c,.slice F fs.length c'] w fun e w'=>e=.returned (.bool true)/\Below w.heap.size w w':=by
 have hl:fs.length=es.length:=by simpa using (congrArg List.length he).symm
 rw[hl];have HL:=qh h;have HL':=qh h';have HE:=qh (And.intro he hl);clear h h' he hl;go_enter Tryz.func23,Tryz.ntmps23;go_wp2_with fail;go_loopw [5] (fun s5 wr=>∃(k:Nat),k<=es.length/\s5=.int .i64 (k:Int)/\Hid (Below w.heap.size w wr))
  (fun s5 _=>es.length - (intOf s5).toNat)
 case atStart=>exact⟨0,Nat.zero_le _,rfl,qh (Below.refl _ _)⟩
 case round =>
  obtain⟨k,hk,rfl,HB⟩:=hrel;by_cases hlt:k<es.length
  ·have hlt':k<fs.length:=(by rw[HE.out.2];exact hlt);have hEL:=HL.out.below HB.out;have hFL:=HL'.out.below HB.out;obtain⟨b,off,rfl,hb,hc⟩:=hEL.at_ hlt;obtain⟨b2,off2,rfl,hb2,hc2⟩:=hFL.at_ hlt';have hx:=(hEL.rb es[k] (List.getElem_mem hlt)).1;have hy:=(hFL.rb fs[k] (List.getElem_mem hlt')).1;have hxy:es[k].1=fs[k].1:=by
    have h1:(es.map Prod.fst)[k]?=some es[k].1:=(by rw[List.getElem?_map,List.getElem?_eq_getElem hlt];rfl);have h2:(fs.map Prod.fst)[k]?=some fs[k].1:=(by rw[List.getElem?_map,List.getElem?_eq_getElem hlt'];rfl);rw[HE.out.1,h2] at h1;injection h1 with h1
    exact h1.symm
   generalize es[k]=x at hc hx hxy;generalize fs[k]=y at hc2 hy hxy;obtain⟨⟨i,t,kd,dl,dt⟩,D,dc⟩:=x;obtain⟨y1,D2,dc2⟩:=y;simp only at hxy;subst hxy;simp only[er] at hc hx hc2 hy;have HX:=qh (And.intro hx (And.intro hy (And.intro hc hc2)));have hbs:=HB.out.size;clear hEL hFL hc hx hc2 hy;go_wp2_with fail;refine zf (by kernel_rfl) [(0,none),(1,none),(2,none),(3,none),(4,none),(5,none),(6,none),(7,none),(8,some [3,7]),(9,none)] (by kernel_rfl) (by kernel_rfl) (by decide) ?_;intro wq hwq;have hq:Below wr.heap.size wr wq:=(by rw[hwq];exact(Below.refl _ _).drew);obtain⟨hx,hy,hc,hc2⟩:=HX.out;have SE:=qh (zbP i t kd dl dt D D2 dc dc2 wq (hx.below hq) (hy.below hq));have a0:=(hq.cell (p:=⟨b,off+k*5,none⟩) hb).trans (hc 0 (.int .u64 (i:Int)) rfl);have a1:=(hq.cell (p:=⟨b,off+k*5+1,none⟩) hb).trans (hc 1 (.int .u64 (t:Int)) rfl);have a2:=(hq.cell (p:=⟨b,off+k*5+2,none⟩) hb).trans (hc 2 (.int .i64 kd) rfl);have a3:=(hq.cell (p:=⟨b,off+k*5+3,none⟩) hb).trans (hc 3 (.int .i64 dl) rfl);have a4:=(hq.cell (p:=⟨b,off+k*5+4,none⟩) hb).trans (hc 4 (.slice D dt.length dc) rfl);have e0:=(hq.cell (p:=⟨b2,off2+k*5,none⟩) hb2).trans (hc2 0 (.int .u64 (i:Int)) rfl);have e1:=(hq.cell (p:=⟨b2,off2+k*5+1,none⟩) hb2).trans (hc2 1 (.int .u64 (t:Int)) rfl);have e2:=(hq.cell (p:=⟨b2,off2+k*5+2,none⟩) hb2).trans (hc2 2 (.int .i64 kd) rfl);have e3:=(hq.cell (p:=⟨b2,off2+k*5+3,none⟩) hb2).trans (hc2 3 (.int .i64 dl) rfl);have e4:=(hq.cell (p:=⟨b2,off2+k*5+4,none⟩) hb2).trans (hc2 4 (.slice D2 dt.length dc2) rfl);have HQ:=qh hq;clear hwq hq hx hy hc hc2;iterate 3 (refine zd ?_)
   refine ze [(⟨b,off+k*5,none⟩,.int .u64 (i:Int)),(⟨b,off+k*5+1,none⟩,.int .u64 (t:Int)),(⟨b,off+k*5+2,none⟩,.int .i64 kd),(⟨b,off+k*5+3,none⟩,.int .i64 dl),(⟨b,off+k*5+4,none⟩,.slice D dt.length dc)] ?_;iterate 3 (refine zd ?_)
   refine ze [(⟨b2,off2+k*5,none⟩,.int .u64 (i:Int)),(⟨b2,off2+k*5+1,none⟩,.int .u64 (t:Int)),(⟨b2,off2+k*5+2,none⟩,.int .i64 kd),(⟨b2,off2+k*5+3,none⟩,.int .i64 dl),(⟨b2,off2+k*5+4,none⟩,.slice D2 dt.length dc2)] ?_;refine zh rfl (by rfl) (fun K hK=>?_)
   go_simp
   refine SE.out.mono ?_;rintro e w3 ⟨rfl,b3⟩;have HB3:=qh (HB.out.trans ((HQ.out.trans (b3.mono HQ.out.size)).mono hbs));clear b3 HQ SE;refine zg hK ?_;clear hK K;iterate 1 (refine zd ?_)
   refine zk ?_;go_wp2_with fail;go_roundw
   case rel=>exact⟨k+1,by omega,by go_num,HB3⟩
   case measure=>simp[intOf];omega
  ·go_wp2_with fail;go_ret;exact⟨by refine zM ?_;simp,HB.out⟩
end
structure KS(lo hi:Nat)(w:World)(n:Nat)(ht:Nat)(hv:Int)(i t:Nat)(v l:List Int)(d:List UInt8)(es:List En)(A:Option Addr)(ac:Nat)(Bb:Option Addr)(bc:Nat)(C:Option Addr)(cc:Nat)(E:Option Addr)(ec:Nat)(es':List ERow):Prop where
 blk:Blk w n 38 (stateL ht hv i t v l d A ac Bb bc C cc E es'.length ec)
 fst:es'.map Prod.fst=es
 re:EO w lo E ec es'
 rv:OV w lo 3 A ac (ncells .i64 v)
 rl:OV w lo 3 Bb bc (ncells .i64 l)
 rd:OB w lo C cc d
 nl:lo<=n
 hn:n<hi
 hi:∀b,(A.map (·.block)=some b\/Bb.map (·.block)=some b\/C.map (·.block)=some b\/E.map (·.block)=some b\/∃y∈es',y.2.1.map (·.block)=some b)->b<hi
section
variable {w w':World} {lo hi n ht i t ac bc cc ec:Nat} {hv:Int} {v l:List Int} {d:List UInt8} {es:List En} {A Bb C E:Option Addr} {es':List ERow}
theorem KS.mods{T:Nat->Prop}(h:KS lo hi w n ht hv i t v l d es A ac Bb bc C cc E ec es')(m:Mods T w w')(hT:∀b,lo<=b->b<hi->¬T b):KS lo hi w' n ht hv i t v l d es A ac Bb bc C cc E ec es' :=
 ⟨h.blk.mods m (hT n h.nl h.hn),h.fst,⟨h.re.row.mods m (fun b hb=>hT b (h.re.row.blk_lt b hb).1 (h.hi b (.inr (.inr (.inr (.inl hb)))))),fun y hy=>(h.re.ob y hy).mods m (fun b hb=>hT b ((h.re.ob y hy).blk_in b hb).1 (h.hi b (.inr (.inr (.inr (.inr ⟨y,hy,hb⟩))))))⟩,
  h.rv.mods m (fun b hb=>hT b (h.rv.blk_lt b hb).1 (h.hi b (.inl hb))),h.rl.mods m (fun b hb=>hT b (h.rl.blk_lt b hb).1 (h.hi b (.inr (.inl hb)))),h.rd.mods m (fun b hb=>hT b (h.rd.blk_in b hb).1 (h.hi b (.inr (.inr (.inl hb))))),h.nl,h.hn,h.hi⟩
theorem KS.below(h:KS lo hi w n ht hv i t v l d es A ac Bb bc C cc E ec es')(hb:Below w.heap.size w w'):KS lo hi w' n ht hv i t v l d es A ac Bb bc C cc E ec es':=h.mods (T:=fun _=>False) (Mods.of_below hb) (fun _ _ _ e=>e)
theorem KS.made{lo':Nat}(hre:EO w lo E ec es')(hfst:es'.map Prod.fst=es)(hrv:OV w lo 3 A ac (ncells .i64 v))(hrl:OV w lo 3 Bb bc (ncells .i64 l))(hrd:OB w lo C cc d)(hlo:lo'<=lo)(hlw:lo'<=w.heap.size)(z:Array Value)(_hz:z.size=8) :
  KS lo' (w.heap.size+1) ((w.alloc (.cells z 38)).setRow w.heap.size (stateL ht hv i t v l d A ac Bb bc C cc E es'.length ec)) w.heap.size ht hv i t v l d es A ac Bb bc C cc E ec es'/\Below w.heap.size w ((w.alloc (.cells z 38)).setRow w.heap.size (stateL ht hv i t v l d A ac Bb bc C cc E es'.length ec)):=by
 have hb:=below_setRow (g:=w.heap.size) ((Below.refl _ w).alloc (Nat.le_refl _) (.cells z 38)) (Nat.le_refl _) (stateL ht hv i t v l d A ac Bb bc C cc E es'.length ec);refine⟨⟨(Blk.new w z 38).setRow _,hfst,(hre.below hb).base_le hlo,OV.base_le (hrv.below hb) hlo,OV.base_le (hrl.below hb) hlo,(hrd.below hb).base_le hlo,hlw,Nat.lt_succ_self _,fun b h=>?_⟩,hb⟩
 rcases h with h | h | h | h | ⟨y,hy,h⟩
 ·have:=(hrv.blk_lt b h).2;omega
 ·have:=(hrl.blk_lt b h).2;omega
 ·have:=(hrd.blk_in b h).2;omega
 ·have:=(hre.row.blk_lt b h).2;omega
 ·have:=((hre.ob y hy).blk_in b h).2;omega
end
theorem ov_base{w:World}{nb c:Nat}{T:TypeId}{A:Option Addr}{xs:List Value}(h:OV w nb T A c xs)(hl:0<xs.length):nb<=w.heap.size:=by
 rcases h.form with⟨_,_,hx⟩ | ⟨g,_,h1,h2,_⟩
 ·rw[hx] at hl;exact absurd hl (by simp)
 ·omega
theorem fine1:lg1.fine:=by
 have e:∀s∈lg1.segs,s=⟨walName 0 1,1,[0]⟩:=fun s hs=>by simpa [lg1] using hs
 refine⟨fun s hs=>?_,by decide,by decide,by decide,by decide,fun r hr=>by cases hr⟩;rw[e s hs];exact⟨by decide,by decide,by show(walName 0 1).length<=1000;rw[zR];decide,by decide⟩
section
variable {w w':World}
end
end Go.Proofs.YtobdmlejabjmiaaGreatDoor
