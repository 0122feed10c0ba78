/- Made small by a program. -/
import Derived.Test.YtobdmlejabjmiaaGreatDoorZc43
set_option maxRecDepth 20000
set_option maxHeartbeats 8000000
namespace Go.Proofs.YtobdmlejabjmiaaGreatDoor
open Go.RowKit
def RecsE(f:Nat)(es:List En)(w:World)(e:Ending)(w':World):Prop :=
 Below w.heap.size w w'/\((SoundL f es/\∃A c Y,e=.returned (.tuple #[.slice A Y.length c,.bool true])/\Y.map Prod.fst=es.map En.bytes/\RowsB w' w.heap.size A c Y)\/(¬SoundL f es/\e=.returned (.tuple #[.slice none 0 0,.bool false])))
section
variable {w w':World}
theorem zbW(E:Option Addr)(c:Nat)(es:List ERow)(f:Nat)(hf:f<=1000000)(w:World)(h:EL w E es)(hn:es.length<=1000) :
  Calls Tryz.prog 39 #[.int .u64 (f:Int),.slice E es.length c] w (RecsE f (es.map Prod.fst) w):=by
 obtain⟨i0,hi0,hz0,hz1,hz2⟩:=info_parts tb_info2;have HL:=qh h;clear h;go_enter Tryz.func39,Tryz.ntmps39;go_wp2_with fail;go_loopw [6,13] (fun s6 s13 wr=>∃(k:Nat) (A:Option Addr) (ac:Nat) (Y:List (List UInt8 × Option Addr × Nat)),k<=es.length/\s13=.int .i64 (k:Int)/\s6=.slice A Y.length ac/\Hid (Y.map Prod.fst=(es.take k).map fun x=>x.1.bytes)/\Hid (RowsB wr w.heap.size A ac Y)/\Hid (Below w.heap.size w wr)/\Hid (∀j,j<k->SoundAt f (es.map Prod.fst) j))
  (fun _ s13 _=>es.length - (intOf s13).toNat)
 case atStart=>exact⟨0,none,0,[],Nat.zero_le _,rfl,rfl,qh rfl,qh ⟨OV.nil _ _ _,by simp⟩,qh (Below.refl _ _),qh (fun j hj=>absurd hj (Nat.not_lt_zero _))⟩
 case round =>
  obtain⟨k,A,ac,Y,hk,rfl,rfl,HY,HR,HB,HK⟩:=hrel;by_cases hlt:k<es.length
  ·have hki:(k:Int)<(es.length:Int):=(by omega);have hki0:(0:Int)<=(k:Int):=(by omega);have hEL:=HL.out.below HB.out;obtain⟨b,off,rfl,hb,hc⟩:=hEL.at_ hlt;have hx:=hEL.rb es[k] (List.getElem_mem hlt);have hxe:(es.map Prod.fst)[k]?=some es[k].1:=(by rw[List.getElem?_map,List.getElem?_eq_getElem hlt];rfl);have htk:(es.take (k+1)).map (fun x=>x.1.bytes)=(es.take k).map (fun x=>x.1.bytes)++[es[k].1.bytes]:=(by rw[List.take_succ_eq_append_getElem hlt,List.map_append];rfl);generalize es[k]=x at hc hx hxe htk;obtain⟨⟨i,t,kd,dl,dt⟩,D,dc⟩:=x;simp only[er] at hc hx hxe;have RG:=qh hc;have HXE:=qh hxe;have HTK:Hid ((es.take (k+1)).map (fun x=>x.1.bytes)=Y.map Prod.fst++[enBytes i t kd dl dt]):=qh (by rw[htk,HY.out];rfl);have hYl:Y.length<=1000:=by
    have:=congrArg List.length HY.out;rw[List.length_map,List.length_map,List.length_take] at this;omega
   have hal:Below wr.heap.size wr (wr.alloc (.cells entryZ TEn)):=(Below.refl _ _).alloc (Nat.le_refl _) _;have Z:=qh (Blk.new wr entryZ TEn);have hbs:=HB.out.size;have Y0:=Z.out.setRow (enC i t kd dl dt D dc);have hb1:=below_setRow (g:=wr.heap.size) hal (Nat.le_refl _) (enC i t kd dl dt D dc);obtain⟨n8,hn8⟩:∃n8,n8=wr.heap.size:=⟨_,rfl⟩;obtain⟨w1,hw1⟩:∃w1,w1=(wr.alloc (.cells entryZ TEn)).setRow wr.heap.size (enC i t kd dl dt D dc):=⟨_,rfl⟩;rw[<-hw1,<-hn8] at Y0;rw[<-hw1] at hb1;have HW1:=qh hw1.symm;have HN8:=qh hn8.symm;have Y1:=qh Y0;have HB1:=qh hb1;obtain⟨r,hr⟩:∃r,enB i t kd dl dt=r:=⟨_,rfl⟩;have ME:=qh (msgEntry i t kd dl dt D dc w1 (hx.1.below hb1) hx.2 r hr);have HRr:=qh hr;have hb1':b<w1.heap.size:=Nat.lt_of_lt_of_le hb hb1.size;have HELh:=qh hEL;clear hc hx hxe htk hal hw1 hn8 Y0 hb1 hr hEL HY;have hwk:IntKind.u64.wrap (k:Int)=(k:Int):=zU (by omega) (by omega);have hwf:IntKind.u64.wrap ((f:Int)+(k:Int))=(f:Int)+(k:Int):=zU (by omega) (by omega);unfold entryZ enC at *;go_wp2_with (first
    | (refine wpList_load_mid rfl TEn (.tmp 16) rfl b (off+k*5) rfl [.int .u64 (i:Int),.int .u64 (t:Int),.int .i64 kd,.int .i64 dl,.slice D dt.length dc] _ RG.out Tryz.underlying44 rfl zaR ?_)
    | (refine wpList_store_row rfl TEn (.tmp 8) (.tmp 17) rfl wr.heap.size #[.int .u64 (i:Int),.int .u64 (t:Int),.int .i64 kd,.int .i64 dl,.slice D dt.length dc] rfl rfl _ _ Z.out zB rfl (by simp[Value.oneCell']) ?_;rw[HW1.out,HN8.out])
    | (refine wpList_load_row rfl TEn (.tmp 8) rfl n8 rfl TEn #[.int .u64 (i:Int),.int .u64 (t:Int),.int .i64 kd,.int .i64 dl,.slice D dt.length dc] (0,0) _ Y1.out Tryz.underlying44 rfl zB ?_)
    | (go_at_call 91;refine ME.out.mono ?_))
   rintro e w2 ⟨A2,n2,c2,k2,rfl,b2,p1,p2⟩;have Y2:=Y1.out.kept b2;have z0:=Y2.cell 0 (v:=.int .u64 (i:Int)) rfl;have z1:=Y2.cell 1 (v:=.int .u64 (t:Int)) rfl;have HB2:=qh (HB.out.trans ((HB1.out.trans (b2.mono HB1.out.size)).mono hbs));have HBr2:=qh (HB1.out.trans (b2.mono HB1.out.size));have HP:=qh (And.intro p1 p2);clear ME b2 p1 p2 Y2 Z RG HW1 HN8;cases r with
   | false =>
    obtain rfl:=HP.out.1 rfl;have HF:Hid (¬SoundL f (es.map Prod.fst)):=qh (fun hs=>by
     obtain⟨x,hx,hok,_⟩:=hs k (by rw[List.length_map];exact hlt);rw[HXE.out] at hx;cases hx
     have:=HRr.out;unfold En.ok at hok;rw[this] at hok;cases hok)
    go_wp2_with fail
    go_quiet (fail)
    go_wp2_with fail
    go_ret2
    exact⟨zl HB2.out _,.inr ⟨HF.out,rfl⟩⟩
   | true =>
    obtain⟨rfl,rfl,ho2⟩:=HP.out.2 rfl;have HO2:=qh ho2;clear ho2;by_cases hi:i=f+k
    ·have hib:((i:Int) != (f:Int)+(k:Int))=false:=(by simp[hi]);by_cases hS:SoundAt f (es.map Prod.fst) k
     ·have HT:Hid (∀j,j<k+1->SoundAt f (es.map Prod.fst) j):=qh (fun j hj=>by
       rcases Nat.lt_or_ge j k with h | h
       ·exact HK.out j h
       ·obtain rfl:j=k:=(by omega);exact hS)
      have HS:=qh hS;clear hS hi;go_upto_region 6 with fail;go_cut [48] (fun s48 wx=>s48=.bool false/\Hid (Below w2.heap.size w2 wx))
      case first =>
       rcases Nat.eq_zero_or_pos k with hk0 | hk0
       ·have g0:decide ((0:Int)<(k:Int))=false:=(by simp[hk0]);have g0':decide (0<k)=false:=(by simp[hk0]);clear hk0
        go_quiet (fail)
        go_wp2_with fail
        go_meet
        exact⟨rfl,qh (zl (Below.refl _ _) _)⟩
       ·have g0:decide ((0:Int)<(k:Int))=true:=(by simp;omega);have g0':decide (0<k)=true:=(by simpa using hk0);obtain⟨b',off',e',hb',hcy⟩:=HELh.out.at_ (k:=k - 1) (by omega);injection e' with e'
        injection e' with e1 e2
        subst e1 e2;have hye:(es.map Prod.fst)[k - 1]?=some (es[k - 1]'(by omega)).1:=(by rw[List.getElem?_map,List.getElem?_eq_getElem (by omega)];rfl);generalize es[k - 1]'(by omega)=y at hcy hye;obtain⟨⟨yi,yt,yk,yd,yx⟩,yD,yc⟩:=y;simp only[er] at hcy hye;have hty:¬t<yt:=by
         obtain⟨x,hx,_,_,hm⟩:=HS.out;rw[HXE.out] at hx;cases hx
         have:=hm _ hk0 hye;simp only at this;omega
        have hwk1:IntKind.i64.wrap ((k:Int) - 1)=((k - 1:Nat):Int):=(by rw[IntWalk.i64_in _ (by omega)];omega);have hkq:(((k - 1:Nat)):Int)<(es.length:Int):=(by omega);have hkq':k - 1<es.length:=(by omega);have y1:=(HBr2.out.cell (p:=⟨b,off+(k - 1)*5+1,none⟩) hb).trans (hcy 1 (.int .u64 (yt:Int)) rfl);have g3:decide ((t:Int)<(yt:Int))=false:=(by simpa using hty);have g3':decide (t<yt)=false:=(by simpa using hty);clear hcy hye hty
        go_quiet (fail)
        go_wp2_with fail
        go_meet
        exact⟨rfl,qh (zl (Below.refl _ _) _)⟩
      case rest =>
       obtain⟨rfl,HB3⟩:=hcut;obtain⟨w3,hw3⟩:∃w3,w3=wc:=⟨_,rfl⟩;subst hw3;have HB4:=qh (HB2.out.trans (HB3.out.mono HB2.out.size));have hws:w.heap.size<=w3.heap.size:=HB4.out.size;have ha:Below w3.heap.size w3 (w3.alloc (.cells #[.slice A2 (enBytes i t kd dl dt).length c2] TB)):=(Below.refl _ _).alloc (Nat.le_refl _) _;have hbr:=HBr2.out.trans (HB3.out.mono HBr2.out.size);have HRA:=qh ((HR.out.below hbr).below ha);have HO3:=qh (((HO2.out.below HB3.out).below ha).base_le (Nat.le_trans hbs HB1.out.size));have HBA:=qh (HB4.out.trans (ha.mono hws));have hws2:w.heap.size<=(w3.alloc (.cells #[.slice A2 (enBytes i t kd dl dt).length c2] TB)).heap.size:=HBA.out.size;obtain⟨xs,hxs⟩:∃xs,xs=Y.map recV:=⟨_,rfl⟩;have hxl:Y.length=xs.length:=(by rw[hxs,List.length_map]);have hxk:xs.length<=1000:=(by omega);have HRV:Hid (OV (w3.alloc (.cells #[.slice A2 (enBytes i t kd dl dt).length c2] TB)) w.heap.size TB A ac xs):=qh (by rw[hxs];exact HRA.out.rv);have HXS:=qh hxs;rw[hxl];have HXL:=qh hxl;clear ha hbr HB3 HB2 HBr2 HR HB HO2 z0 z1 hxs hxl;go_wp2_with (at_builtin;go_loud (refine jP _ rfl _ _ 87 TB rfl Tryz.underlying87 hi0 hz0 hz1 hz2 rfl w.heap.size A (some ⟨w3.heap.size,0,none⟩) ac 1 xs [.slice A2 (enBytes i t kd dl dt).length c2] rfl rfl HRV.out (RV.one _ _ _) (by simp[Value.oneCell']) (by simp;omega) (by simp;omega) hws2 ?_);intro ys A9 c9 w9 hys hy1 hy2 ho9 hg9 _;have HYS:=qh hys.out;have HO9:=qh ho9;rw[yh] at hg9;have HG9:=qh hg9;have hyl:ys.length=xs.length+1:=(by simpa using Nat.le_antisymm hy1 hy2);clear hys ho9 hg9 hy1 hy2);go_roundw
       case rel =>
        have e:ys=Y.map recV++[recV (enBytes i t kd dl dt,A2,c2)]:=(by rw[<-HXS.out];exact HYS.out);have ho:=HO9.out;rw[e] at ho;have hr9:=HRA.out.add (y:=(enBytes i t kd dl dt,A2,c2)) HO3.out HG9.out ho;refine⟨k+1,A9,c9,Y++[(enBytes i t kd dl dt,A2,c2)],by omega,by go_num,?_,qh (by rw[HTK.out,List.map_append];rfl),qh hr9,qh (HBA.out.grown HG9.out hws2 (fun b hb=>(HRA.out.rv.blk_lt b hb).1)),HT⟩;have:=HXL.out;first | rfl | (congr 1;simp;omega) | (rw[List.length_append];simp_all)
       case measure=>simp[intOf];omega
     ·rcases Nat.eq_zero_or_pos k with hk0 | hk0
      ·exact absurd ⟨_,HXE.out,HRr.out,hi,fun y h0=>by omega⟩ hS
      ·have g0:decide ((0:Int)<(k:Int))=true:=(by simp;omega);have g0':decide (0<k)=true:=(by simpa using hk0);obtain⟨b',off',e',hb',hcy⟩:=HELh.out.at_ (k:=k - 1) (by omega);injection e' with e'
       injection e' with e1 e2
       subst e1 e2;have hye:(es.map Prod.fst)[k - 1]?=some (es[k - 1]'(by omega)).1:=(by rw[List.getElem?_map,List.getElem?_eq_getElem (by omega)];rfl);generalize es[k - 1]'(by omega)=y at hcy hye;obtain⟨⟨yi,yt,yk,yd,yx⟩,yD,yc⟩:=y;simp only[er] at hcy hye;have hty:t<yt:=by
        refine Nat.lt_of_not_le fun h=>hS ⟨_,HXE.out,HRr.out,hi,fun y h0 hy=>?_⟩
        rw[hye] at hy;cases hy
        exact h
       have HF:Hid (¬SoundL f (es.map Prod.fst)):=qh (fun hs=>hS (hs k (by rw[List.length_map];exact hlt)));have hwk1:IntKind.i64.wrap ((k:Int) - 1)=((k - 1:Nat):Int):=(by rw[IntWalk.i64_in _ (by omega)];omega);have hkq:(((k - 1:Nat)):Int)<(es.length:Int):=(by omega);have hkq':k - 1<es.length:=(by omega);have y1:=(HBr2.out.cell (p:=⟨b,off+(k - 1)*5+1,none⟩) hb).trans (hcy 1 (.int .u64 (yt:Int)) rfl);have g3:decide ((t:Int)<(yt:Int))=true:=(by simpa using hty);have g3':decide (t<yt)=true:=(by simpa using hty);clear hcy hye hi hty hS;go_wp2_with fail
       go_quiet (fail)
       go_wp2_with fail
       go_ret2
       exact⟨zl HB2.out _,.inr ⟨HF.out,rfl⟩⟩
    ·have hib:((i:Int) != (f:Int)+(k:Int))=true:=(by simpa using fun e:(i:Int)=(f:Int)+(k:Int)=>hi (by omega));have HF:Hid (¬SoundL f (es.map Prod.fst)):=qh (fun hs=>by
      obtain⟨x,hx,_,h3,_⟩:=hs k (by rw[List.length_map];exact hlt);rw[HXE.out] at hx;cases hx
      exact hi h3)
     clear hi;go_wp2_with fail
     go_quiet (fail)
     go_wp2_with fail
     go_ret2
     exact⟨zl HB2.out _,.inr ⟨HF.out,rfl⟩⟩
  ·obtain rfl:k=es.length:=(by omega);have HF:Hid (SoundL f (es.map Prod.fst)/\Y.map Prod.fst=(es.map Prod.fst).map En.bytes):=qh ⟨fun j hj=>HK.out j (by rw[List.length_map] at hj;exact hj),by rw[HY.out,List.take_length,List.map_map];rfl⟩;clear HK HY;go_wp2_with fail
   go_ret2
   exact⟨HB.out,.inl ⟨HF.out.1,A,ac,Y,rfl,HF.out.2,HR.out⟩⟩
end
theorem zcd(a b c d e f g h:Value)(w:World):(Instr.field 38 (.agg #[a,b,c,d,e,f,g,h]) 2).run Tryz.prog w=.ok h w:=by kernel_rfl
def saveLogD(lg:Lg)(D:DSt)(recs:List (List UInt8)):Int × Lg × DSt :=
 if (appendW lg D recs).1≠0 then appendW lg D recs else syncW (appendW lg D recs).2.1 (appendW lg D recs).2.2
theorem zb2(l:Lg)(D:DSt)(L:List (List UInt8)):(appendW l D L).2.2.cnt<=D.cnt+1:=by
 unfold appendW
 repeat' split
 all_goals first | exact Nat.le_succ _ | exact zV _ _ _
theorem jN{f:Nat}{es:List En}(h:SoundL f es):∀x∈es,x.sound:=by
 intro x hx;obtain⟨k,hk,rfl⟩:=List.mem_iff_getElem.1 hx;obtain⟨y,hy,hok,_⟩:=h k hk;rw[List.getElem?_eq_getElem hk] at hy;injection hy with hy
 rw[hy];exact hok
theorem SV.same{x:SV}(h1:x.dn=false)(h2:x.es=[]):({ x with lg:=x.lg,dn:=false,es:=[] }:SV)=x:=by
 cases x
 simp only at h1 h2;subst h1 h2
 rfl
def SLogE(B:Nat)(S F:Nat->Prop)(w:World)(g:Nat)(z:SP)(x:SV)(es:List En)(r:Int × Lg × DSt)(e:Ending)(w':World):Prop :=
 e=.returned (.int .i64 r.1)/\∃(S' F':Nat->Prop) (E':Option Addr) (ec':Nat) (es':List ERow),ST B S' F' w' g { z with E:=E',ec:=ec' } { x with lg:=r.2.1,dn:=decide (r.1=11),es:=es' } r.2.2/\es'.map Prod.fst=(if r.1=0 then es else [])/\(∀b,S' b->S b\/w.heap.size<=b)/\(∀b,F' b->F b\/w.heap.size<=b)/\Mods (fun b=>S b\/F b\/b=z.q\/z.E.map (·.block)=some b) w w'
section
variable {B g:Nat} {S S' F F' T:Nat->Prop} {w w' w7:World} {z:SP} {x:SV} {D D':DSt}
theorem ST.listed{E':Option Addr}{ec':Nat}{es':List ERow}(h:ST B S F w g z x D)(hB:B<=w.heap.size)(hg:w.grownBy w7 (z.E.map (·.block)))(hr:OR w7 B TEn 5 E' ec' (es'.map er))(hob:∀y∈es',OB w7 B y.2.1 y.2.2 y.1.dat)(hnew:∀y∈es',∀b,y.2.1.map (·.block)=some b->¬S b/\¬F b/\b≠z.q)(hat:E'.map (·.block)=z.E.map (·.block)\/E'.map (·.block)=some w.heap.size) :
  ST B S F (w7.setCell ⟨z.q,8,none⟩ (.slice E' es'.length ec')) g { z with E:=E',ec:=ec' } { x with es:=es' } D:=by
 obtain⟨Z,Y,SA,sc,RA,rc,hx⟩:=h.lr;have mg:Mods (fun b=>b=z.q\/z.E.map (·.block)=some b) w w7:=Mods.of_grown hg (fun k e=>.inr e);have ms:Mods (·=z.q) w7 (w7.setCell ⟨z.q,8,none⟩ (.slice E' es'.length ec')):=(Mods.refl (·=z.q) w7).setCell ⟨z.q,8,none⟩ (.inl rfl) _;have m:Mods (fun b=>b=z.q\/z.E.map (·.block)=some b) w (w7.setCell ⟨z.q,8,none⟩ (.slice E' es'.length ec')):=mg.then (ms.mono (fun b _ e=>.inl e));have hE:=h.re.row;have hSn:∀b,S b->¬(b=z.q\/z.E.map (·.block)=some b):=fun b hs e=>e.elim (fun e=>h.qS (by rw[<-e];exact hs)) (fun e=>(h.own b (.inr (.inr (.inr (.inl e))))).1 hs)
 have hFn:∀b,F b->¬(b=z.q\/z.E.map (·.block)=some b):=fun b hs e=>e.elim (fun e=>h.qF (by rw[<-e];exact hs)) (fun e=>(h.own b (.inr (.inr (.inr (.inl e))))).2 hs)
 have hdi:=hx.lb.di.mods m (fun b _ hs=>hSn b hs);have hq7:Blk w7 z.q 72 _:=h.blk.grown hg (hE.ne_var h.blk (by decide));have hl:∀b,E'.map (·.block)=some b->¬S b/\¬F b:=fun b hb=>by
  rcases hat with e | e
  ·exact h.own b (.inr (.inr (.inr (.inl (by rw[<-e];exact hb)))))
  ·rw[e] at hb;injection hb with hb
   subst hb;exact⟨fun e=>by have:=hx.lb.di.bnd _ e;omega,fun e=>by have:=(hx.lb.bnd _ e).2;omega⟩
 have hv:∀b,z.V.map (·.block)=some b->¬(b=z.q\/z.E.map (·.block)=some b):=fun b hb e=>e.elim (fun e=>h.rv.ne_blk h.blk (by decide) (by rw[hb,e])) (fun e=>by
  obtain⟨cs,hc⟩:=hE.blk b e;exact h.rv.ne_blk (T:=TEn) (cs:=cs) hc (by decide) hb)
 have hlr:∀b,z.L.map (·.block)=some b->¬(b=z.q\/z.E.map (·.block)=some b):=fun b hb e=>e.elim (fun e=>h.rl.ne_blk h.blk (by decide) (by rw[hb,e])) (fun e=>by
  obtain⟨cs,hc⟩:=hE.blk b e;exact h.rl.ne_blk (T:=TEn) (cs:=cs) hc (by decide) hb)
 have hd:∀b,z.A.map (·.block)=some b->¬(b=z.q\/z.E.map (·.block)=some b):=fun b hb e=>e.elim (fun e=>OB.ne_blk h.rd h.blk (by decide) (by rw[hb,e])) (fun e=>by
  obtain⟨cs,hc⟩:=hE.blk b e;exact OB.ne_blk (T:=TEn) (cs:=cs) h.rd hc (by decide) hb)
 exact
 {blk:=hq7.setCell 8 (.slice E' es'.length ec')
  ss:=h.ss.carry hB hdi (fun b hb=>.inl hb) m (fun e=>e.elim (fun e=>h.ss.blk.ne h.blk (by decide) e) (fun e=>hE.ne_var h.ss.blk (by decide) e))
   (fun b hb e=>e.elim (fun e=>OB.ne_blk h.ss.val h.blk (by decide) (by rw[hb,e])) (fun e=>by
    obtain⟨cs,hc⟩:=hE.blk b e;exact OB.ne_blk (T:=TEn) (cs:=cs) h.ss.val hc (by decide) hb))
   (fun b hb e=>e.elim (fun e=>h.ss.old.ne_blk h.blk (by decide) (by rw[hb,e])) (fun e=>by
    obtain⟨cs,hc⟩:=hE.blk b e;exact h.ss.old.ne_blk (T:=TEn) (cs:=cs) hc (by decide) hb))
  lr:=⟨Z,Y,SA,sc,RA,rc,hx.mods m (fun b hb=>hFn b hb) hdi (fun b hb=>.inl hb) hB⟩
  rv:=h.rv.mods m hv
  rl:=h.rl.mods m hlr
  rd:=h.rd.mods m hd
  re:=⟨hr.mods ms (fun b hb e=>hr.ne_var hq7 (by decide) (by rw[hb,e])),fun y hy=>(hob y hy).mods ms (fun b hb e=>(hnew y hy b hb).2.2 e)⟩
  qS:=h.qS
  qF:=h.qF
  sF:=h.sF
  vF:=h.vF
  own:=fun b hb=>by
   rcases hb with hb | hb | hb | hb | ⟨y,hy,hb⟩
   ·exact h.own b (.inl hb)
   ·exact h.own b (.inr (.inl hb))
   ·exact h.own b (.inr (.inr (.inl hb)))
   ·exact hl b hb
   ·exact⟨(hnew y hy b hb).1,(hnew y hy b hb).2.1⟩
  qB:=h.qB }
theorem ST.logged{lg':Lg}(h:ST B S F w g z x D)(hB:B<=w.heap.size)(hl:LR B S' F' w' z.pl g lg' D')(hn:∀b,S' b->S b\/w.heap.size<=b)(hf:∀b,F' b->F b\/w.heap.size<=b)(m:Mods (fun b=>S b\/F b) w w'):ST B S' F' w' g z { x with lg:=lg' } D':=by
 obtain⟨Z,Y,SA,sc,RA,rc,hx⟩:=hl;exact h.carry (T:=fun b=>S b\/F b) hB hx.lb.di hn hf m (fun e=>e.elim h.qS h.qF) (fun e=>e.elim h.ss.ps h.sF) (fun b hb e=>e.elim (hb.elim (h.ss.vs b) (h.ss.os b)) (h.vF b hb)) (fun b hb e=>e.elim (h.own b hb).1 (h.own b hb).2) ⟨_,_,_,_,_,_,hx⟩
theorem ST.didit(h:ST B S F w g z x D)(hB:B<=w.heap.size)(dn:Bool):ST B S F (w.setCell ⟨z.q,12,none⟩ (.bool dn)) g z { x with dn:=dn } D/\Mods (·=z.q) w (w.setCell ⟨z.q,12,none⟩ (.bool dn)):=by
 have m:Mods (·=z.q) w (w.setCell ⟨z.q,12,none⟩ (.bool dn)):=(Mods.refl (·=z.q) w).setCell ⟨z.q,12,none⟩ (.inl rfl) _;exact⟨h.turn hB m (h.blk.setCell 12 (.bool dn)),m⟩
theorem zbg(hst:ST B S F w g z x D)(h0:x.i=0)(he:x.es=[])(hdn:x.dn=false)(hfine:x.lg.fine)(hcnt:D.cnt<=1000)(hB:B<=w.heap.size)(hE:SEnv B w)(E:Option Addr)(c nb:Nat)(es:List ERow)(hEO:EO w nb E c es)(hn:es.length<=1000)(hno:∀b,nb<=b->¬S b/\¬F b)(hqn:z.q<nb)(hEn:∀b,z.E.map (·.block)=some b->b<nb)(s:Bool)(hs:s=true ↔ SoundL 1 (es.map Prod.fst)) :
  Calls Tryz.prog 15 #[.pointer (some ⟨z.q,0,none⟩),.int .u64 1,.slice E es.length c] w (SLogE B S F w g z x (es.map Prod.fst) (if s=true then saveLogD x.lg D ((es.map Prod.fst).map En.bytes) else(2,x.lg,D))):=by
 obtain⟨r,hr⟩:∃r,r=(if s=true then saveLogD x.lg D ((es.map Prod.fst).map En.bytes) else(2,x.lg,D)):=⟨_,rfl⟩;rw[<-hr];obtain⟨q,hq⟩:∃q,q=z.q:=⟨_,rfl⟩;obtain⟨pl,hpl⟩:∃pl,pl=z.pl:=⟨_,rfl⟩;have HRR:=qh hr;have hst0:=hst;have Q0:=hst0.blk;rw[hdn,<-hq,<-hpl,h0,he] at Q0;have AL:=qh (qR false Q0 rfl);have RC:=qh (zbW E c es 1 (by decide) w hEO.el hn);have HST:=qh hst;have HX:=qh (And.intro h0 (And.intro he (And.intro hdn (And.intro hfine hcnt))));have HEO:=qh (And.intro hEO hno);have HEN:=qh hEn;have HE:=qh hE;have HQ:=qh (And.intro hq hpl);have HS:=qh hs;rw[<-hq] at hqn;rw[<-hq];have hwq:=hst.blk.lt;rw[<-hq] at hwq;have e3:=Q0.cell 3 (v:=.int .u64 0) rfl;have e8:=Q0.cell 8 (v:=.slice z.E 0 z.ec) rfl;clear hr hst hst0 Q0 h0 he hdn hfine hcnt hEO hno hE hq hpl hs hEn;go_enter Tryz.func15,Tryz.ntmps15;go_wp2_with (go_at_call 35;refine AL.out.mono ?_;first | rintro e w1 rfl rfl | rintro e w1 ⟨rfl,rfl⟩);refine RC.out.mono ?_;rintro e w1 ⟨b1,⟨hs,A,ac,Y,rfl,hY,hR⟩ | ⟨hs,rfl⟩⟩
 ·have hr:r=saveLogD x.lg D ((es.map Prod.fst).map En.bytes):=by rw[HRR.out,if_pos (HS.out.2 hs)]
  have hst1:=HST.out.below hB b1;have hsz1:=b1.size;have hYl:Y.length=es.length:=by have:=congrArg List.length hY;simpa using this
  have hall:=jN hs;obtain⟨Zl,Yl,SA,sc,RA,rc,hx⟩:=hst1.lr;have ap:=zfy hx (Nat.le_trans hB hsz1) (HE.out.below (b1.mono hB)) A ac (Y.map fun y=>(y.2.1,y.2.2,y.1)) (hR.rl (T:=fun b=>S b\/F b) (fun b hb=>by
   obtain⟨_,_,_,_,_,_,hx0⟩:=HST.out.lr;exact hb.elim (hx0.lb.di.bnd b) (fun e=>(hx0.lb.bnd b e).2)) (fun y hy=>by
   have:y.1∈(es.map Prod.fst).map En.bytes:=(by rw[<-hY];exact List.mem_map_of_mem hy);obtain⟨u,hu,e⟩:=List.mem_map.1 this;have:=xt (hall u hu);rw[<-e];unfold En.bytes;omega)) (by rw[List.length_map];omega) HX.out.2.2.2.1 (by have:=HX.out.2.2.2.2;omega)
  have hmm:(Y.map fun y=>(y.2.1,y.2.2,y.1)).map (·.2.2)=(es.map Prod.fst).map En.bytes:=by rw[List.map_map,<-hY];rfl
  rw[List.length_map,hmm] at ap;obtain⟨q1,hq1⟩:∃q1,q1=appendW x.lg D ((es.map Prod.fst).map En.bytes):=⟨_,rfl⟩;have hc1:q1.2.2.cnt<=1001:=by rw[hq1];exact Nat.le_trans (zb2 _ _ _) (by have:=HX.out.2.2.2.2;omega)
  rw[<-hq1] at ap;unfold saveLogD at hr;rw[<-hq1] at hr;have AP:=qh ap;have HR1:=qh hr;have HALL:=qh hall;have HST1:=qh hst1;have HB1:=qh b1;have Q1:=hst1.blk;rw[<-HQ.out.1] at Q1;have c3:=(b1.cell (p:=⟨q,3,none⟩) hwq).trans e3;have c8:=(b1.cell (p:=⟨q,8,none⟩) hwq).trans e8;have c11:=Q1.cell 11 (v:=.pointer (some ⟨z.pl,0,none⟩)) rfl;rw[<-HQ.out.2] at c11;rw[<-HQ.out.2] at AP;have hE1:=hR;clear b1 hs hY hR hr hst1 hall hx ap hmm hq1 Q1 e3 e8 AL RC hE1 HRR HS HE hYl;go_wp2_with (go_at_call 43;refine AP.out.mono ?_);rintro e w2 ⟨rfl,S2,F2,hlr2,hs2,hf2,m2⟩;rw[HQ.out.2] at hlr2;have hst2:=HST1.out.logged (Nat.le_trans hB hsz1) hlr2 hs2 hf2 m2;have hsz2:=m2.size;have Q2:=hst2.blk;rw[<-HQ.out.1] at Q2;simp only[HX.out.2.2.1] at Q2;have DD:=qh (xL q1.1 Q2 rfl);have HK2:=qh (And.intro (fun b hb=>(hs2 b hb).imp id (fun e=>Nat.le_trans hsz1 e)) (And.intro (fun b hb=>(hf2 b hb).imp id (fun e=>Nat.le_trans hsz1 e)) ((Mods.of_below (S:=fun b=>S b\/F b) HB1.out).then m2)));have HST2:=qh hst2;clear hlr2 hs2 hf2 m2 hst2 Q2 AP c3 c8 c11 HST1;go_wp2_with fail;refine DD.out.mono ?_;rintro e w3 ⟨rfl,hw3⟩;obtain⟨hst3,m3⟩:=HST2.out.didit (by omega) (decide (q1.1=11));rw[<-HQ.out.1,<-hw3] at hst3 m3;have hsz3:=m3.size;have HM3:Hid (Mods (fun b=>S b\/F b\/b=z.q\/z.E.map (·.block)=some b) w w3):=qh ((HK2.out.2.2.mono (T:=fun b=>S b\/F b\/b=z.q\/z.E.map (·.block)=some b) (fun b _ e=>e.elim .inl (fun e=>.inr (.inl e)))).trans m3 (fun b e=>.inl (.inr (.inr (.inl (by rw[e,HQ.out.1]))))));have HST3:=qh hst3;clear hw3 m3 hst3 HST2 DD;by_cases hq0:q1.1=0
  ·have hqb:(q1.1 == 0)=true:=(by simpa using hq0);have hr2:r=syncW q1.2.1 q1.2.2:=(by rw[HR1.out,if_neg (by rw[hq0];simp)]);obtain⟨Zl,Yl,SA,sc,RA,rc,hx⟩:=HST3.out.lr;have sy:=zbm hx (by omega) (by omega);obtain⟨q2,hq2⟩:∃q2,q2=syncW q1.2.1 q1.2.2:=⟨_,rfl⟩;simp only at sy;rw[<-hq2] at sy hr2;rw[<-HQ.out.2] at sy;have hfp:=hx.fp;have SY:=qh sy;have HR2:=qh hr2;have HFP:=qh hfp;have Q3:=HST3.out.blk;rw[<-HQ.out.1] at Q3;have c11:=Q3.cell 11 (v:=.pointer (some ⟨z.pl,0,none⟩)) rfl;rw[<-HQ.out.2] at c11;clear hx sy hr2 hq2 HR1 hfp Q3;go_wp2_with (go_at_call 44;refine SY.out.mono ?_);rintro e w4 ⟨rfl,S4,hx4,hs4,m4⟩;rw[HQ.out.2] at hx4 m4;have m4':Mods (fun b=>S2 b\/F2 b) w3 w4:=m4.mono (fun b _ e=>e.elim .inl (fun e=>.inr (by rw[e];exact HFP.out)));have hst4:=HST3.out.logged (by omega) ⟨_,_,_,_,_,_,hx4⟩ hs4 (fun b hb=>.inl hb) m4';have hsz4:=m4.size;have Q4:=hst4.blk;rw[<-HQ.out.1] at Q4;simp only[hq0] at Q4;have D4:=qh (xL q2.1 Q4 rfl);have hK4:∀b,S4 b->S b\/w.heap.size<=b:=fun b hb=>(hs4 b hb).elim (HK2.out.1 b) (fun e=>.inr (by omega))
   have HK4:=qh (And.intro hK4 (HM3.out.trans m4' (fun b e=>e.elim (fun e=>(HK2.out.1 b e).imp .inl id) (fun e=>(HK2.out.2.1 b e).imp (fun e=>.inr (.inl e)) id))));have HST4:=qh hst4;clear hx4 hs4 m4 m4' hst4 Q4 SY c11 HST3 HM3 hK4 hqb hq0;go_wp2_with fail;refine D4.out.mono ?_;rintro e w5 ⟨rfl,hw5⟩;obtain⟨hst5,m5⟩:=HST4.out.didit (by omega) (decide (q2.1=11));rw[<-HQ.out.1,<-hw5] at hst5 m5;have hsz5:=m5.size;have HM5:Hid (Mods (fun b=>S b\/F b\/b=z.q\/z.E.map (·.block)=some b) w w5):=qh (HK4.out.2.trans m5 (fun b e=>.inl (.inr (.inr (.inl (by rw[e,HQ.out.1]))))));have HST5:=qh hst5;clear hw5 m5 hst5 HST4 D4;by_cases hq3:q2.1=0
   ·have hqb:(q2.1 == 0)=true:=(by simpa using hq3);have hel:∀b,nb<=b->b<w.heap.size->¬(S b\/F b\/b=z.q\/z.E.map (·.block)=some b):=fun b h1 h2 e=>by
     rcases e with e | e | e | e
     ·exact(HEO.out.2 b h1).1 e
     ·exact(HEO.out.2 b h1).2 e
     ·rw[<-HQ.out.1] at e;omega
     ·have:=HEN.out b e;omega
    have heo5:=HEO.out.1.mods HM5.out hel;have Q5:=HST5.out.blk;rw[<-HQ.out.1] at Q5;have CLX:Hid (∀v,Below w5.heap.size w5 v->Calls Tryz.prog 33 #[.agg (stateL 0 0 0 0 [] [] [] none 0 none 0 none 0 E es.length c)] v fun e w'=>∃A ac B bc C cc E' ec' es',e=.returned (.agg (stateL 0 0 0 0 [] [] [] A ac B bc C cc E' es'.length ec'))/\es'.map Prod.fst=es.map Prod.fst/\EO w' v.heap.size E' ec' es'/\OV w' v.heap.size 3 A ac (ncells .i64 [])/\OV w' v.heap.size 3 B bc (ncells .i64 [])/\OB w' v.heap.size C cc []/\Below v.heap.size v w'):=qh (fun v hv=>qQ 0 0 0 0 [] [] [] none 0 none 0 none 0 E c es v ((heo5.below hv).el) (by omega) (fun y hy=>by
     have:=(yA (HALL.out y.1 (List.mem_map_of_mem hy))).2.2.2.2.2.2.1;omega) (RV.nil) (RV.nil) (RB.nil) (by decide) (by decide) (by decide))
    clear hel heo5;obtain⟨i0',hi0,hz0,hz1,hz2⟩:=info_parts qk;have hfd:=fun a b c d e f g h w=>zcd a b c d e f g h w
    have hHB:B<=w5.heap.size:=(by omega);clear Q5;go_upto_region 27 with fail;refine zf (by kernel_rfl) [(0,none),(1,none),(2,none),(3,none),(4,none),(5,none),(6,none),(7,none),(8,some [7]),(9,none),(10,some [5,9]),(11,none),(12,none),(13,none),(14,some [0,1,2,3,4,5,6,7,9,13])] (by kernel_rfl) (by kernel_rfl) (by decide) ?_;intro wq hwq;have hbq:Below w5.heap.size w5 wq:=(by rw[hwq];exact(Below.refl _ _).drew);have HSTq:=qh (HST5.out.below hHB hbq);have Qq:=HSTq.out.blk;rw[<-HQ.out.1] at Qq;simp only[HX.out.2.1] at Qq;have c8:=Qq.cell 8 (v:=.slice z.E 0 z.ec) rfl;have CL:=qh (CLX.out wq hbq);have HMq:=qh (HM5.out.below hbq);have HBN:Hid ((∀b,S4 b\/F2 b->b<wq.heap.size)/\z.q<wq.heap.size):=qh (by
     obtain⟨_,_,_,_,_,_,hx⟩:=HSTq.out.lr;exact⟨fun b e=>e.elim (hx.lb.di.bnd b) (fun e=>(hx.lb.bnd b e).2),HSTq.out.blk.lt⟩)
    have hsq:=hbq.size;clear hwq hbq Qq CLX HM5 HST5;iterate 5 (refine zd ?_)
    refine ze [(⟨q,8,none⟩,.slice z.E 0 z.ec)] ?_;iterate 2 (refine zd ?_)
    refine zh rfl (by rfl) (fun K hK=>?_)
    go_simp
    refine CL.out.mono ?_;rintro e w6 ⟨A6,a6,B6,b6,C6,c6,E6,ec6,es6,rfl,he6,oe6,_,_,_,b6'⟩;have HST6:=qh (HSTq.out.below (by omega) b6');have Qq:=HST6.out.blk;rw[<-HQ.out.1] at Qq;simp only[HX.out.2.1] at Qq;have HM6:=qh (HMq.out.below b6');have HO6:=qh (And.intro he6 oe6);have hs6:=b6'.size;have hel6:es6.length<=1000:=(by have:=congrArg List.length he6;rw[List.length_map,List.length_map] at this;omega);clear c8 CL HSTq HMq he6 oe6 b6';have c8:=Qq.cell 8 (v:=.slice z.E 0 z.ec) rfl;clear Qq;refine zg hK ?_;clear hK K;iterate 1 (refine zd ?_)
    refine zh rfl (by rfl) (fun K hK=>?_);have hr6:=HST6.out.re.row;simp only[HX.out.2.1] at hr6;refine zN w6 (.tmp 115) (.tmp 119) 22 TEn (by rfl) Tryz.underlying22 hi0 hz0 hz1 hz2 rfl (by decide) B z.E E6 z.ec ec6 [] (es6.map er) (by rfl) (by rw[List.length_map];rfl) hr6 HO6.out.2.row.rs (zez es6) (zeA es6) (by simp;omega) (by simp;omega) (by omega) ?_;intro ys E7 ec7 w7 hys hy1 hy2 hrow hg7 hE7;have hys':ys=es6.map er:=(by rw[hys.out,List.nil_append]);have hyl:ys.length=es6.length:=(by rw[hys',List.length_map]);rw[hys'] at hrow;have hne:∀y∈es6,∀b,y.2.1.map (·.block)=some b->wq.heap.size<=b:=fun y hy b hb=>((HO6.out.2.ob y hy).blk_in b hb).1
    have hst6:=HST6.out;obtain⟨_,_,_,_,_,_,hx6⟩:=hst6.lr;have hLS:=hst6.listed (w7:=w7) (es':=es6) (E':=E7) (ec':=ec7) (by omega) hg7 hrow (fun y hy=>((HO6.out.2.ob y hy).base_le (by omega)).grown_row hg7 (fun b hb=>(HO6.out.2.ob y hy).ne_row hr6 (by decide) b hb)) (fun y hy b hb=>by
     have h1:=hne y hy b hb;have h2:=HBN.out;exact⟨fun e=>by have:=h2.1 b (.inl e);omega,fun e=>by have:=h2.1 b (.inr e);omega,fun e=>by have:=h2.2;omega⟩) hE7
    have HLS:=qh hLS;have q7:=hst6.blk.grown hg7 (hst6.re.row.ne_var hst6.blk (by decide));rw[<-HQ.out.1] at q7;simp only[HX.out.2.1] at q7;have HM7:=qh (HM6.out.then (Mods.of_grown (S:=fun b=>S b\/F b\/b=z.q\/z.E.map (·.block)=some b) hg7 (fun b e=>.inr (.inr (.inr e)))));have HYL:=qh hyl;clear c8 hr6 hys hy1 hy2 hrow hg7 hE7 hys' hyl hne hst6 hx6 hLS HST6 HM6;have c8:=q7.cell 8 (v:=.slice z.E 0 z.ec) rfl;have f8:=q7.free 8;clear q7;refine zg hK ?_;clear hK K;iterate 3 (refine zd ?_)
    refine zh rfl (by rfl) (fun K hK=>?_)
    go_simp
    skip
    refine zg hK ?_;clear hK K;refine zk ?_;have HF:Hid (SLogE B S F w g z x (es.map Prod.fst) r (.returned (.int .i64 0)) (w7.setCell ⟨q,8,none⟩ (.slice E7 ys.length ec7))):=qh (by
     rw[HR2.out,HYL.out];refine⟨by rw[hq3],S4,F2,E7,ec7,es6,?_,by rw[if_pos hq3];exact HO6.out.1,HK4.out.1,HK2.out.2.1,?_⟩
     ·rw[HQ.out.1];exact HLS.out
     ·exact HM7.out.setCell ⟨q,8,none⟩ (.inl (.inr (.inr (.inl HQ.out.1)))) _)
    clear HLS HM7 HO6 HK4 HK2 HR2 hq3;go_wp2_with fail;go_ret;exact HF.out
   ·have hqb:(q2.1 == 0)=false:=(by simpa using hq3);have HF:Hid (SLogE B S F w g z x (es.map Prod.fst) r (.returned (.int .i64 q2.1)) w5):=qh (by
     rw[HR2.out];refine⟨rfl,S4,F2,z.E,z.ec,[],?_,by rw[if_neg hq3];rfl,HK4.out.1,HK2.out.2.1,HM5.out⟩;have e:({ x with lg:=q2.2.1,dn:=decide (q2.1=11),es:=[] }:SV)={ x with lg:=q2.2.1,dn:=decide (q2.1=11) }:=(by rw[<-HX.out.2.1]);rw[e];exact HST5.out)
    clear HST5 HM5 HR2 hq3;go_wp2_with fail;go_ret;exact HF.out
  ·have hqb:(q1.1 == 0)=false:=(by simpa using hq0);have HF:Hid (SLogE B S F w g z x (es.map Prod.fst) r (.returned (.int .i64 q1.1)) w3):=qh (by
    rw[HR1.out,if_pos hq0];refine⟨rfl,S2,F2,z.E,z.ec,[],?_,by rw[if_neg hq0];rfl,HK2.out.1,HK2.out.2.1,HM3.out⟩;have e:({ x with lg:=q1.2.1,dn:=decide (q1.1=11),es:=[] }:SV)={ x with lg:=q1.2.1,dn:=decide (q1.1=11) }:=(by rw[<-HX.out.2.1]);rw[e];exact HST3.out)
   clear HST3 HM3 HR1 hq0;go_wp2_with fail;go_ret;exact HF.out
 ·have hr:r=(2,x.lg,D):=by rw[HRR.out,if_neg (fun e=>hs (HS.out.1 e))]
  have HF:Hid (SLogE B S F w g z x (es.map Prod.fst) r (.returned (.int .i64 2)) w1):=qh (by
   rw[hr];refine⟨rfl,S,F,z.E,z.ec,[],?_,rfl,fun b hb=>.inl hb,fun b hb=>.inl hb,Mods.of_below b1⟩;show ST B S F w1 g z { x with lg:=x.lg,dn:=false,es:=[] } D;rw[SV.same HX.out.2.2.1 HX.out.2.1];exact HST.out.below hB b1)
  have c3:=(b1.cell (p:=⟨q,3,none⟩) hwq).trans e3;have c8:=(b1.cell (p:=⟨q,8,none⟩) hwq).trans e8;clear hr hs b1 HST HRR HS AL RC e3 e8;go_wp2_with fail;go_ret;exact HF.out
end
end Go.Proofs.YtobdmlejabjmiaaGreatDoor
