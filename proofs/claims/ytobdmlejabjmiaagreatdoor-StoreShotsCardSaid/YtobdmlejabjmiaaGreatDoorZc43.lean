/- Made small by a program. -/
import Derived.Test.YtobdmlejabjmiaaGreatDoorZc42
set_option maxRecDepth 20000
set_option maxHeartbeats 8000000
namespace Go.Proofs.YtobdmlejabjmiaaGreatDoor
open Go.RowKit
def En.ok(x:En):Prop:=enB x.idx x.term x.kind x.delta x.dat=true
def SoundAt(f:Nat)(es:List En)(k:Nat):Prop:=∃x,es[k]?=some x/\x.ok/\x.idx=f+k/\∀y,0<k->es[k - 1]?=some y->y.term<=x.term
def SoundL(f:Nat)(es:List En):Prop:=∀k,k<es.length->SoundAt f es k
section
variable {w w':World}
theorem lawSound(E:Option Addr)(c:Nat)(es:List ERow)(f:Nat)(hf:f<=1000000)(w:World)(h:EL w E es)(hn:es.length<=1000000) :
  Calls Tryz.prog 12 #[.int .u64 (f:Int),.slice E es.length c] w (Tells (SoundL f (es.map Prod.fst)) w):=by
 have HL:=qh h;clear h;go_enter Tryz.func12,Tryz.ntmps12;go_wp2_with fail;go_loopw [5] (fun s5 wr=>∃(k:Nat),k<=es.length/\s5=.int .i64 (k:Int)/\Hid (∀j,j<k->SoundAt f (es.map Prod.fst) j)/\Hid (Below w.heap.size w wr))
  (fun s5 _=>es.length - (intOf s5).toNat)
 case atStart=>exact⟨0,Nat.zero_le _,rfl,qh (fun j hj=>absurd hj (Nat.not_lt_zero _)),qh (Below.refl _ _)⟩
 case round =>
  obtain⟨k,hk,rfl,HK,HB⟩:=hrel;by_cases hlt:k<es.length
  ·have hEL:=HL.out.below HB.out;obtain⟨b,off,rfl,hb,hc⟩:=hEL.at_ hlt;have hx:=hEL.rb es[k] (List.getElem_mem hlt);have hxe:(es.map Prod.fst)[k]?=some es[k].1:=(by rw[List.getElem?_map,List.getElem?_eq_getElem hlt];rfl);generalize es[k]=x at hc hx hxe;obtain⟨⟨i,t,kd,dl,dt⟩,D,dc⟩:=x;simp only[er] at hc hx hxe;have HX:=qh (And.intro hx (And.intro hc hxe));have hbs:=HB.out.size;have HELh:=qh hEL;obtain⟨r,hr⟩:∃r,enB i t kd dl dt=r:=⟨_,rfl⟩;have HR:=qh hr;clear hx hc hxe hEL hr;have hwk:IntKind.u64.wrap (k:Int)=(k:Int):=zU (by omega) (by omega);have hwf:IntKind.u64.wrap ((f:Int)+(k:Int))=(f:Int)+(k:Int):=zU (by omega) (by omega);cases r with
   | false =>
    go_wp2_with fail;refine zf (by kernel_rfl) [(0,none),(1,none),(2,none),(3,none),(4,some [3]),(5,none),(6,none),(7,none),(8,none),(9,none),(10,none),(11,none),(12,none),(13,none),(14,none),(15,none),(16,none),(17,none),(18,none),(19,none),(20,none),(21,none),(22,none),(23,none),(24,none),(25,none),(26,none),(27,none),(28,none),(29,none),(30,none),(31,none),(32,none),(33,none),(34,none),(35,none)] (by kernel_rfl) (by kernel_rfl) (by decide) ?_;intro wq hwq;have hq:Below wr.heap.size wr wq:=(by rw[hwq];exact(Below.refl _ _).drew);obtain⟨hx,hc,hxe⟩:=HX.out;have EK:=qh (xk i t kd dl dt D dc wq (hx.1.below hq) hx.2 false HR.out);have a0:=(hq.cell (p:=⟨b,off+k*5,none⟩) hb).trans (hc 0 (.int .u64 (i:Int)) rfl);have a1:=(hq.cell (p:=⟨b,off+k*5+1,none⟩) hb).trans (hc 1 (.int .u64 (t:Int)) rfl);have a2:=(hq.cell (p:=⟨b,off+k*5+2,none⟩) hb).trans (hc 2 (.int .i64 kd) rfl);have a3:=(hq.cell (p:=⟨b,off+k*5+3,none⟩) hb).trans (hc 3 (.int .i64 dl) rfl);have a4:=(hq.cell (p:=⟨b,off+k*5+4,none⟩) hb).trans (hc 4 (.slice D dt.length dc) rfl);have HQ:=qh hq;clear hwq hq hx hc hxe;iterate 3 (refine zd ?_)
    refine ze [(⟨b,off+k*5,none⟩,.int .u64 (i:Int)),(⟨b,off+k*5+1,none⟩,.int .u64 (t:Int)),(⟨b,off+k*5+2,none⟩,.int .i64 kd),(⟨b,off+k*5+3,none⟩,.int .i64 dl),(⟨b,off+k*5+4,none⟩,.slice D dt.length dc)] ?_;refine zh rfl (by rfl) (fun K hK=>?_)
    go_simp
    refine EK.out.mono ?_;rintro e w3 ⟨rfl,b3⟩;have hb3:b<wq.heap.size:=Nat.lt_of_lt_of_le hb HQ.out.size;have d0:=(b3.cell (p:=⟨b,off+k*5,none⟩) hb3).trans a0;have d1:=(b3.cell (p:=⟨b,off+k*5+1,none⟩) hb3).trans a1;have HB3:=qh (HB.out.trans ((HQ.out.trans (b3.mono HQ.out.size)).mono hbs));clear b3 HQ EK a0 a1 a2 a3 a4;refine zg hK ?_;clear hK K;iterate 2 (refine zd ?_)
    refine zj ?_;refine zj ?_;refine zj ?_;refine zj ?_;refine zj ?_;refine zj ?_;refine zj ?_;refine zj ?_;refine zj ?_;refine zj ?_;iterate 2 (refine zd ?_)
    refine zj ?_;refine zj ?_;refine zj ?_;refine zj ?_;refine zj ?_;refine zj ?_;refine zj ?_;refine zj ?_;refine zj ?_;refine zj ?_;refine zj ?_;refine zj ?_;refine zj ?_;refine zj ?_;refine zj ?_;refine zj ?_;iterate 1 (refine zd ?_)
    refine zk ?_;go_wp2_with fail;go_ret;exact⟨_,rfl,(fun e=>by first | cases e | simp at e),HB3.out⟩
   | true =>
    by_cases hi:i=f+k
    ·have hib:((i:Int) != (f:Int)+(k:Int))=false:=by simp[hi]
     rcases Nat.eq_zero_or_pos k with hk0 | hk0
     ·have g0:decide ((0:Int)<(k:Int))=false:=(by simp[hk0]);have g0':decide (0<k)=false:=(by simp[hk0]);have HT:Hid (∀j,j<k+1->SoundAt f (es.map Prod.fst) j):=qh (fun j hj=>by
       obtain rfl:j=k:=(by omega);exact⟨_,HX.out.2.2,HR.out,hi,fun y h0=>by omega⟩)
      clear hk0 hi;go_wp2_with fail;refine zf (by kernel_rfl) [(0,none),(1,none),(2,none),(3,none),(4,some [3]),(5,none),(6,none),(7,none),(8,none),(9,none),(10,none),(11,none),(12,none),(13,none),(14,none),(15,none),(16,none),(17,none),(18,none),(19,none),(20,none),(21,none),(22,none),(23,none),(24,none),(25,none),(26,none),(27,none),(28,none),(29,none),(30,none),(31,none),(32,none),(33,none),(34,none),(35,none)] (by kernel_rfl) (by kernel_rfl) (by decide) ?_;intro wq hwq;have hq:Below wr.heap.size wr wq:=(by rw[hwq];exact(Below.refl _ _).drew);obtain⟨hx,hc,hxe⟩:=HX.out;have EK:=qh (xk i t kd dl dt D dc wq (hx.1.below hq) hx.2 true HR.out);have a0:=(hq.cell (p:=⟨b,off+k*5,none⟩) hb).trans (hc 0 (.int .u64 (i:Int)) rfl);have a1:=(hq.cell (p:=⟨b,off+k*5+1,none⟩) hb).trans (hc 1 (.int .u64 (t:Int)) rfl);have a2:=(hq.cell (p:=⟨b,off+k*5+2,none⟩) hb).trans (hc 2 (.int .i64 kd) rfl);have a3:=(hq.cell (p:=⟨b,off+k*5+3,none⟩) hb).trans (hc 3 (.int .i64 dl) rfl);have a4:=(hq.cell (p:=⟨b,off+k*5+4,none⟩) hb).trans (hc 4 (.slice D dt.length dc) rfl);have HQ:=qh hq;clear hwq hq hx hc hxe;iterate 3 (refine zd ?_)
      refine ze [(⟨b,off+k*5,none⟩,.int .u64 (i:Int)),(⟨b,off+k*5+1,none⟩,.int .u64 (t:Int)),(⟨b,off+k*5+2,none⟩,.int .i64 kd),(⟨b,off+k*5+3,none⟩,.int .i64 dl),(⟨b,off+k*5+4,none⟩,.slice D dt.length dc)] ?_;refine zh rfl (by rfl) (fun K hK=>?_)
      go_simp
      refine EK.out.mono ?_;rintro e w3 ⟨rfl,b3⟩;have hb3:b<wq.heap.size:=Nat.lt_of_lt_of_le hb HQ.out.size;have d0:=(b3.cell (p:=⟨b,off+k*5,none⟩) hb3).trans a0;have d1:=(b3.cell (p:=⟨b,off+k*5+1,none⟩) hb3).trans a1;have HB3:=qh (HB.out.trans ((HQ.out.trans (b3.mono HQ.out.size)).mono hbs));clear b3 HQ EK a0 a1 a2 a3 a4;refine zg hK ?_;clear hK K;iterate 6 (refine zd ?_)
      refine ze [(⟨b,off+k*5,none⟩,.int .u64 (i:Int))] ?_;iterate 10 (refine zd ?_)
      refine zj ?_;refine zj ?_;refine zj ?_;refine zj ?_;refine zj ?_;refine zj ?_;refine zj ?_;refine zj ?_;refine zj ?_;refine zj ?_;refine zj ?_;refine zj ?_;iterate 2 (refine zd ?_)
      refine zk ?_;go_wp2_with fail;go_roundw
      case rel=>exact⟨k+1,by omega,by go_num,HT,HB3⟩
      case measure=>simp[intOf];omega
     ·have g0:decide ((0:Int)<(k:Int))=true:=(by simp;omega);have g0':decide (0<k)=true:=(by simpa using hk0);obtain⟨b',off',e',hb',hcy⟩:=HELh.out.at_ (k:=k - 1) (by omega);injection e' with e'
      injection e' with e1 e2
      subst e1 e2;have hye:(es.map Prod.fst)[k - 1]?=some (es[k - 1]'(by omega)).1:=(by rw[List.getElem?_map,List.getElem?_eq_getElem (by omega)];rfl);generalize es[k - 1]'(by omega)=y at hcy hye;obtain⟨⟨yi,yt,yk,yd,yx⟩,yD,yc⟩:=y;simp only[er] at hcy hye;have hwk1:IntKind.i64.wrap ((k:Int) - 1)=((k - 1:Nat):Int):=(by rw[IntWalk.i64_in _ (by omega)];omega);have hkq:(((k - 1:Nat)):Int)<(es.length:Int):=(by omega);have hkq':k - 1<es.length:=(by omega);have HY:=qh (And.intro hcy hye);clear hcy hye;have HI:=qh hi;clear hi;by_cases hty:t<yt
      ·have g3:decide ((t:Int)<(yt:Int))=true:=(by simpa using hty);have g3':decide (t<yt)=true:=(by simpa using hty);go_wp2_with fail;refine zf (by kernel_rfl) [(0,none),(1,none),(2,none),(3,none),(4,some [3]),(5,none),(6,none),(7,none),(8,none),(9,none),(10,none),(11,none),(12,none),(13,none),(14,none),(15,none),(16,none),(17,none),(18,none),(19,none),(20,none),(21,none),(22,none),(23,none),(24,none),(25,none),(26,none),(27,none),(28,none),(29,none),(30,none),(31,none),(32,none),(33,none),(34,none),(35,none)] (by kernel_rfl) (by kernel_rfl) (by decide) ?_;intro wq hwq;have hq:Below wr.heap.size wr wq:=(by rw[hwq];exact(Below.refl _ _).drew);obtain⟨hx,hc,hxe⟩:=HX.out;have EK:=qh (xk i t kd dl dt D dc wq (hx.1.below hq) hx.2 true HR.out);have a0:=(hq.cell (p:=⟨b,off+k*5,none⟩) hb).trans (hc 0 (.int .u64 (i:Int)) rfl);have a1:=(hq.cell (p:=⟨b,off+k*5+1,none⟩) hb).trans (hc 1 (.int .u64 (t:Int)) rfl);have a2:=(hq.cell (p:=⟨b,off+k*5+2,none⟩) hb).trans (hc 2 (.int .i64 kd) rfl);have a3:=(hq.cell (p:=⟨b,off+k*5+3,none⟩) hb).trans (hc 3 (.int .i64 dl) rfl);have a4:=(hq.cell (p:=⟨b,off+k*5+4,none⟩) hb).trans (hc 4 (.slice D dt.length dc) rfl);have HQ:=qh hq;have y1:=(hq.cell (p:=⟨b,off+(k - 1)*5+1,none⟩) hb).trans (HY.out.1 1 (.int .u64 (yt:Int)) rfl);clear hwq hq hx hc hxe;iterate 3 (refine zd ?_)
       refine ze [(⟨b,off+k*5,none⟩,.int .u64 (i:Int)),(⟨b,off+k*5+1,none⟩,.int .u64 (t:Int)),(⟨b,off+k*5+2,none⟩,.int .i64 kd),(⟨b,off+k*5+3,none⟩,.int .i64 dl),(⟨b,off+k*5+4,none⟩,.slice D dt.length dc)] ?_;refine zh rfl (by rfl) (fun K hK=>?_)
       go_simp
       refine EK.out.mono ?_;rintro e w3 ⟨rfl,b3⟩;have hb3:b<wq.heap.size:=Nat.lt_of_lt_of_le hb HQ.out.size;have d0:=(b3.cell (p:=⟨b,off+k*5,none⟩) hb3).trans a0;have d1:=(b3.cell (p:=⟨b,off+k*5+1,none⟩) hb3).trans a1;have z1:=(b3.cell (p:=⟨b,off+(k - 1)*5+1,none⟩) hb3).trans y1;clear y1;have HB3:=qh (HB.out.trans ((HQ.out.trans (b3.mono HQ.out.size)).mono hbs));clear b3 HQ EK a0 a1 a2 a3 a4;refine zg hK ?_;clear hK K;iterate 6 (refine zd ?_)
       refine ze [(⟨b,off+k*5,none⟩,.int .u64 (i:Int))] ?_;iterate 14 (refine zd ?_)
       refine ze [(⟨b,off+k*5+1,none⟩,.int .u64 (t:Int))] ?_;iterate 5 (refine zd ?_)
       refine ze [(⟨b,off+(k - 1)*5+1,none⟩,.int .u64 (yt:Int))] ?_;iterate 3 (refine zd ?_)
       refine zk ?_;go_wp2_with fail;go_ret;exact⟨_,rfl,(fun e=>by first | cases e | simp at e),HB3.out⟩
      ·have g3:decide ((t:Int)<(yt:Int))=false:=(by simpa using hty);have g3':decide (t<yt)=false:=(by simpa using hty);have HT:Hid (∀j,j<k+1->SoundAt f (es.map Prod.fst) j):=qh (fun j hj=>by
        rcases Nat.lt_or_ge j k with h | h
        ·exact HK.out j h
        ·obtain rfl:j=k:=(by omega);refine⟨_,HX.out.2.2,HR.out,HI.out,fun y h0 hy=>?_⟩;rw[HY.out.2] at hy;cases hy
         exact Nat.le_of_not_lt hty)
       go_wp2_with fail;refine zf (by kernel_rfl) [(0,none),(1,none),(2,none),(3,none),(4,some [3]),(5,none),(6,none),(7,none),(8,none),(9,none),(10,none),(11,none),(12,none),(13,none),(14,none),(15,none),(16,none),(17,none),(18,none),(19,none),(20,none),(21,none),(22,none),(23,none),(24,none),(25,none),(26,none),(27,none),(28,none),(29,none),(30,none),(31,none),(32,none),(33,none),(34,none),(35,none)] (by kernel_rfl) (by kernel_rfl) (by decide) ?_;intro wq hwq;have hq:Below wr.heap.size wr wq:=(by rw[hwq];exact(Below.refl _ _).drew);obtain⟨hx,hc,hxe⟩:=HX.out;have EK:=qh (xk i t kd dl dt D dc wq (hx.1.below hq) hx.2 true HR.out);have a0:=(hq.cell (p:=⟨b,off+k*5,none⟩) hb).trans (hc 0 (.int .u64 (i:Int)) rfl);have a1:=(hq.cell (p:=⟨b,off+k*5+1,none⟩) hb).trans (hc 1 (.int .u64 (t:Int)) rfl);have a2:=(hq.cell (p:=⟨b,off+k*5+2,none⟩) hb).trans (hc 2 (.int .i64 kd) rfl);have a3:=(hq.cell (p:=⟨b,off+k*5+3,none⟩) hb).trans (hc 3 (.int .i64 dl) rfl);have a4:=(hq.cell (p:=⟨b,off+k*5+4,none⟩) hb).trans (hc 4 (.slice D dt.length dc) rfl);have HQ:=qh hq;have y1:=(hq.cell (p:=⟨b,off+(k - 1)*5+1,none⟩) hb).trans (HY.out.1 1 (.int .u64 (yt:Int)) rfl);clear hwq hq hx hc hxe;iterate 3 (refine zd ?_)
       refine ze [(⟨b,off+k*5,none⟩,.int .u64 (i:Int)),(⟨b,off+k*5+1,none⟩,.int .u64 (t:Int)),(⟨b,off+k*5+2,none⟩,.int .i64 kd),(⟨b,off+k*5+3,none⟩,.int .i64 dl),(⟨b,off+k*5+4,none⟩,.slice D dt.length dc)] ?_;refine zh rfl (by rfl) (fun K hK=>?_)
       go_simp
       refine EK.out.mono ?_;rintro e w3 ⟨rfl,b3⟩;have hb3:b<wq.heap.size:=Nat.lt_of_lt_of_le hb HQ.out.size;have d0:=(b3.cell (p:=⟨b,off+k*5,none⟩) hb3).trans a0;have d1:=(b3.cell (p:=⟨b,off+k*5+1,none⟩) hb3).trans a1;have z1:=(b3.cell (p:=⟨b,off+(k - 1)*5+1,none⟩) hb3).trans y1;clear y1;have HB3:=qh (HB.out.trans ((HQ.out.trans (b3.mono HQ.out.size)).mono hbs));clear b3 HQ EK a0 a1 a2 a3 a4;refine zg hK ?_;clear hK K;iterate 6 (refine zd ?_)
       refine ze [(⟨b,off+k*5,none⟩,.int .u64 (i:Int))] ?_;iterate 14 (refine zd ?_)
       refine ze [(⟨b,off+k*5+1,none⟩,.int .u64 (t:Int))] ?_;iterate 5 (refine zd ?_)
       refine ze [(⟨b,off+(k - 1)*5+1,none⟩,.int .u64 (yt:Int))] ?_;iterate 3 (refine zd ?_)
       refine zk ?_;go_wp2_with fail;go_roundw
       case rel=>exact⟨k+1,by omega,by go_num,HT,HB3⟩
       case measure=>simp[intOf];omega
    ·have hib:((i:Int) != (f:Int)+(k:Int))=true:=(by simp;omega);go_wp2_with fail;refine zf (by kernel_rfl) [(0,none),(1,none),(2,none),(3,none),(4,some [3]),(5,none),(6,none),(7,none),(8,none),(9,none),(10,none),(11,none),(12,none),(13,none),(14,none),(15,none),(16,none),(17,none),(18,none),(19,none),(20,none),(21,none),(22,none),(23,none),(24,none),(25,none),(26,none),(27,none),(28,none),(29,none),(30,none),(31,none),(32,none),(33,none),(34,none),(35,none)] (by kernel_rfl) (by kernel_rfl) (by decide) ?_;intro wq hwq;have hq:Below wr.heap.size wr wq:=(by rw[hwq];exact(Below.refl _ _).drew);obtain⟨hx,hc,hxe⟩:=HX.out;have EK:=qh (xk i t kd dl dt D dc wq (hx.1.below hq) hx.2 true HR.out);have a0:=(hq.cell (p:=⟨b,off+k*5,none⟩) hb).trans (hc 0 (.int .u64 (i:Int)) rfl);have a1:=(hq.cell (p:=⟨b,off+k*5+1,none⟩) hb).trans (hc 1 (.int .u64 (t:Int)) rfl);have a2:=(hq.cell (p:=⟨b,off+k*5+2,none⟩) hb).trans (hc 2 (.int .i64 kd) rfl);have a3:=(hq.cell (p:=⟨b,off+k*5+3,none⟩) hb).trans (hc 3 (.int .i64 dl) rfl);have a4:=(hq.cell (p:=⟨b,off+k*5+4,none⟩) hb).trans (hc 4 (.slice D dt.length dc) rfl);have HQ:=qh hq;clear hwq hq hx hc hxe;iterate 3 (refine zd ?_)
     refine ze [(⟨b,off+k*5,none⟩,.int .u64 (i:Int)),(⟨b,off+k*5+1,none⟩,.int .u64 (t:Int)),(⟨b,off+k*5+2,none⟩,.int .i64 kd),(⟨b,off+k*5+3,none⟩,.int .i64 dl),(⟨b,off+k*5+4,none⟩,.slice D dt.length dc)] ?_;refine zh rfl (by rfl) (fun K hK=>?_)
     go_simp
     refine EK.out.mono ?_;rintro e w3 ⟨rfl,b3⟩;have hb3:b<wq.heap.size:=Nat.lt_of_lt_of_le hb HQ.out.size;have d0:=(b3.cell (p:=⟨b,off+k*5,none⟩) hb3).trans a0;have d1:=(b3.cell (p:=⟨b,off+k*5+1,none⟩) hb3).trans a1;have HB3:=qh (HB.out.trans ((HQ.out.trans (b3.mono HQ.out.size)).mono hbs));clear b3 HQ EK a0 a1 a2 a3 a4;refine zg hK ?_;clear hK K;iterate 6 (refine zd ?_)
     refine ze [(⟨b,off+k*5,none⟩,.int .u64 (i:Int))] ?_;iterate 7 (refine zd ?_)
     refine zj ?_;refine zj ?_;refine zj ?_;refine zj ?_;refine zj ?_;refine zj ?_;refine zj ?_;refine zj ?_;refine zj ?_;refine zj ?_;refine zj ?_;refine zj ?_;refine zj ?_;refine zj ?_;refine zj ?_;refine zj ?_;iterate 1 (refine zd ?_)
     refine zk ?_;go_wp2_with fail;go_ret;exact⟨_,rfl,(fun e=>by first | cases e | simp at e),HB3.out⟩
  ·have HF:Hid (SoundL f (es.map Prod.fst)):=qh (fun j hj=>HK.out j (by rw[List.length_map] at hj;omega));go_wp2_with fail;go_ret;exact⟨_,rfl,fun _=>HF.out,HB.out⟩
end
end Go.Proofs.YtobdmlejabjmiaaGreatDoor
