/- Made small by a program. -/
import Derived.Test.YtobdmlejabjmiaaGreatDoorZd40
set_option maxRecDepth 20000
set_option maxHeartbeats 8000000
namespace Go.Proofs.YtobdmlejabjmiaaGreatDoor
open Go.RowKit
theorem field_list2(a b c d e f g h:Value)(w:World):(Instr.field 38 (.agg #[a,b,c,d,e,f,g,h]) 2).run Tryz.prog w=.ok h w:=by kernel_rfl
def saveLogD(lg:Lg)(D:DSt)(recs:List (List UInt8)):Int × Lg × DSt :=
 if (appendW lg D recs).1≠0 then appendW lg D recs else syncW (appendW lg D recs).2.1 (appendW lg D recs).2.2
theorem appendW_cnt(l:Lg)(D:DSt)(L:List (List UInt8)):(appendW l D L).2.2.cnt<=D.cnt+1:=by
 unfold appendW
 repeat' split
 all_goals first | exact Nat.le_succ _ | exact wchange_cnt _ _ _
theorem soundL_all{f:Nat}{es:List En}(h:SoundL f es):∀x∈es,x.sound:=by
 intro x hx
 obtain⟨k,hk,rfl⟩:=List.mem_iff_getElem.1 hx
 obtain⟨y,hy,hok,_⟩:=h k hk
 rw[List.getElem?_eq_getElem hk] at hy
 injection hy with hy
 rw[hy]
 exact hok
theorem SV.same{x:SV}(h1:x.dn=false)(h2:x.es=[]):({ x with lg:=x.lg,dn:=false,es:=[] }:SV)=x:=by
 cases x
 simp only at h1 h2
 subst h1 h2
 rfl
def SLogE(B:Nat)(S F:Nat->Prop)(w:World)(g:Nat)(z:SP)(x:SV)(es:List En)(r:Int × Lg × DSt)(e:Ending)(w':World):Prop :=
 e=.returned (.int .i64 r.1)/\∃(S' F':Nat->Prop) (E':Option Addr) (ec':Nat) (es':List ERow),ST B S' F' w' g { z with E:=E',ec:=ec' } { x with lg:=r.2.1,dn:=decide (r.1=11),es:=es' } r.2.2/\es'.map Prod.fst=(if r.1=0 then es else [])/\(∀b,S' b->S b\/w.heap.size<=b)/\(∀b,F' b->F b\/w.heap.size<=b)/\Mods (fun b=>S b\/F b\/b=z.q\/z.E.map (·.block)=some b) w w'
section
variable {B g:Nat} {S S' F F' T:Nat->Prop} {w w' w7:World} {z:SP} {x:SV} {D D':DSt}
theorem ST.listed{E':Option Addr}{ec':Nat}{es':List ERow}(h:ST B S F w g z x D)(hB:B<=w.heap.size)(hg:w.grownBy w7 (z.E.map (·.block)))(hr:OR w7 B TEn 5 E' ec' (es'.map er))(hob:∀y∈es',OB w7 B y.2.1 y.2.2 y.1.dat)(hnew:∀y∈es',∀b,y.2.1.map (·.block)=some b->¬S b/\¬F b/\b≠z.q)(hat:E'.map (·.block)=z.E.map (·.block)\/E'.map (·.block)=some w.heap.size) :
  ST B S F (w7.setCell ⟨z.q,8,none⟩ (.slice E' es'.length ec')) g { z with E:=E',ec:=ec' } { x with es:=es' } D:=by
 obtain⟨Z,Y,SA,sc,RA,rc,hx⟩:=h.lr
 have mg:Mods (fun b=>b=z.q\/z.E.map (·.block)=some b) w w7:=Mods.of_grown hg (fun k e=>.inr e)
 have ms:Mods (·=z.q) w7 (w7.setCell ⟨z.q,8,none⟩ (.slice E' es'.length ec')):=(Mods.refl (·=z.q) w7).setCell ⟨z.q,8,none⟩ (.inl rfl) _
 have m:Mods (fun b=>b=z.q\/z.E.map (·.block)=some b) w (w7.setCell ⟨z.q,8,none⟩ (.slice E' es'.length ec')):=mg.then (ms.mono (fun b _ e=>.inl e))
 have hE:=h.re.row
 have hSn:∀b,S b->¬(b=z.q\/z.E.map (·.block)=some b):=fun b hs e=>e.elim (fun e=>h.qS (by rw[<-e];exact hs)) (fun e=>(h.own b (.inr (.inr (.inr (.inl e))))).1 hs)
 have hFn:∀b,F b->¬(b=z.q\/z.E.map (·.block)=some b):=fun b hs e=>e.elim (fun e=>h.qF (by rw[<-e];exact hs)) (fun e=>(h.own b (.inr (.inr (.inr (.inl e))))).2 hs)
 have hdi:=hx.lb.di.mods m (fun b _ hs=>hSn b hs)
 have hq7:Blk w7 z.q 72 _:=h.blk.grown hg (hE.ne_var h.blk (by decide))
 have hl:∀b,E'.map (·.block)=some b->¬S b/\¬F b:=fun b hb=>by
  rcases hat with e | e
  ·exact h.own b (.inr (.inr (.inr (.inl (by rw[<-e];exact hb)))))
  ·rw[e] at hb
   injection hb with hb
   subst hb
   exact⟨fun e=>by have:=hx.lb.di.bnd _ e;omega,fun e=>by have:=(hx.lb.bnd _ e).2;omega⟩
 have hv:∀b,z.V.map (·.block)=some b->¬(b=z.q\/z.E.map (·.block)=some b):=fun b hb e=>e.elim (fun e=>h.rv.ne_blk h.blk (by decide) (by rw[hb,e])) (fun e=>by
  obtain⟨cs,hc⟩:=hE.blk b e
  exact h.rv.ne_blk (T:=TEn) (cs:=cs) hc (by decide) hb)
 have hlr:∀b,z.L.map (·.block)=some b->¬(b=z.q\/z.E.map (·.block)=some b):=fun b hb e=>e.elim (fun e=>h.rl.ne_blk h.blk (by decide) (by rw[hb,e])) (fun e=>by
  obtain⟨cs,hc⟩:=hE.blk b e
  exact h.rl.ne_blk (T:=TEn) (cs:=cs) hc (by decide) hb)
 have hd:∀b,z.A.map (·.block)=some b->¬(b=z.q\/z.E.map (·.block)=some b):=fun b hb e=>e.elim (fun e=>OB.ne_blk h.rd h.blk (by decide) (by rw[hb,e])) (fun e=>by
  obtain⟨cs,hc⟩:=hE.blk b e
  exact OB.ne_blk (T:=TEn) (cs:=cs) h.rd hc (by decide) hb)
 exact
 {blk:=hq7.setCell 8 (.slice E' es'.length ec')
  ss:=h.ss.carry hB hdi (fun b hb=>.inl hb) m (fun e=>e.elim (fun e=>h.ss.blk.ne h.blk (by decide) e) (fun e=>hE.ne_var h.ss.blk (by decide) e))
   (fun b hb e=>e.elim (fun e=>OB.ne_blk h.ss.val h.blk (by decide) (by rw[hb,e])) (fun e=>by
    obtain⟨cs,hc⟩:=hE.blk b e
    exact OB.ne_blk (T:=TEn) (cs:=cs) h.ss.val hc (by decide) hb))
   (fun b hb e=>e.elim (fun e=>h.ss.old.ne_blk h.blk (by decide) (by rw[hb,e])) (fun e=>by
    obtain⟨cs,hc⟩:=hE.blk b e
    exact h.ss.old.ne_blk (T:=TEn) (cs:=cs) hc (by decide) hb))
  lr:=⟨Z,Y,SA,sc,RA,rc,hx.mods m (fun b hb=>hFn b hb) hdi (fun b hb=>.inl hb) hB⟩
  rv:=h.rv.mods m hv
  rl:=h.rl.mods m hlr
  rd:=h.rd.mods m hd
  re:=⟨hr.mods ms (fun b hb e=>hr.ne_var hq7 (by decide) (by rw[hb,e])),fun y hy=>(hob y hy).mods ms (fun b hb e=>(hnew y hy b hb).2.2 e)⟩
  qS:=h.qS
  qF:=h.qF
  sF:=h.sF
  vF:=h.vF
  own:=fun b hb=>by
   rcases hb with hb | hb | hb | hb | ⟨y,hy,hb⟩
   ·exact h.own b (.inl hb)
   ·exact h.own b (.inr (.inl hb))
   ·exact h.own b (.inr (.inr (.inl hb)))
   ·exact hl b hb
   ·exact⟨(hnew y hy b hb).1,(hnew y hy b hb).2.1⟩
  qB:=h.qB }
theorem ST.logged{lg':Lg}(h:ST B S F w g z x D)(hB:B<=w.heap.size)(hl:LR B S' F' w' z.pl g lg' D')(hn:∀b,S' b->S b\/w.heap.size<=b)(hf:∀b,F' b->F b\/w.heap.size<=b)(m:Mods (fun b=>S b\/F b) w w'):ST B S' F' w' g z { x with lg:=lg' } D':=by
 obtain⟨Z,Y,SA,sc,RA,rc,hx⟩:=hl
 exact h.carry (T:=fun b=>S b\/F b) hB hx.lb.di hn hf m (fun e=>e.elim h.qS h.qF) (fun e=>e.elim h.ss.ps h.sF) (fun b hb e=>e.elim (hb.elim (h.ss.vs b) (h.ss.os b)) (h.vF b hb)) (fun b hb e=>e.elim (h.own b hb).1 (h.own b hb).2) ⟨_,_,_,_,_,_,hx⟩
theorem ST.didit(h:ST B S F w g z x D)(hB:B<=w.heap.size)(dn:Bool):ST B S F (w.setCell ⟨z.q,12,none⟩ (.bool dn)) g z { x with dn:=dn } D/\Mods (·=z.q) w (w.setCell ⟨z.q,12,none⟩ (.bool dn)):=by
 have m:Mods (·=z.q) w (w.setCell ⟨z.q,12,none⟩ (.bool dn)):=(Mods.refl (·=z.q) w).setCell ⟨z.q,12,none⟩ (.inl rfl) _
 exact⟨h.turn hB m (h.blk.setCell 12 (.bool dn)),m⟩
theorem storeSaveLogT(hst:ST B S F w g z x D)(h0:x.i=0)(he:x.es=[])(hdn:x.dn=false)(hfine:x.lg.fine)(hcnt:D.cnt<=1000)(hB:B<=w.heap.size)(hE:SEnv B w)(E:Option Addr)(c nb:Nat)(es:List ERow)(hEO:EO w nb E c es)(hn:es.length<=1000)(hno:∀b,nb<=b->¬S b/\¬F b)(hqn:z.q<nb)(hEn:∀b,z.E.map (·.block)=some b->b<nb)(s:Bool)(hs:s=true ↔ SoundL 1 (es.map Prod.fst)) :
  Calls Tryz.prog 15 #[.pointer (some ⟨z.q,0,none⟩),.int .u64 1,.slice E es.length c] w (SLogE B S F w g z x (es.map Prod.fst) (if s=true then saveLogD x.lg D ((es.map Prod.fst).map En.bytes) else(2,x.lg,D))):=by
 obtain⟨r,hr⟩:∃r,r=(if s=true then saveLogD x.lg D ((es.map Prod.fst).map En.bytes) else(2,x.lg,D)):=⟨_,rfl⟩
 rw[<-hr]
 obtain⟨q,hq⟩:∃q,q=z.q:=⟨_,rfl⟩
 obtain⟨pl,hpl⟩:∃pl,pl=z.pl:=⟨_,rfl⟩
 have HRR:=qh hr
 have hst0:=hst
 have Q0:=hst0.blk
 rw[hdn,<-hq,<-hpl,h0,he] at Q0
 have AL:=qh (storeAliveE false Q0 rfl)
 have RC:=qh (storeRecords E c es 1 (by decide) w hEO.el hn)
 have HST:=qh hst
 have HX:=qh (And.intro h0 (And.intro he (And.intro hdn (And.intro hfine hcnt))))
 have HEO:=qh (And.intro hEO hno)
 have HEN:=qh hEn
 have HE:=qh hE
 have HQ:=qh (And.intro hq hpl)
 have HS:=qh hs
 rw[<-hq] at hqn
 rw[<-hq]
 have hwq:=hst.blk.lt
 rw[<-hq] at hwq
 have e3:=Q0.cell 3 (v:=.int .u64 0) rfl
 have e8:=Q0.cell 8 (v:=.slice z.E 0 z.ec) rfl
 clear hr hst hst0 Q0 h0 he hdn hfine hcnt hEO hno hE hq hpl hs hEn
 go_enter Tryz.func15,Tryz.ntmps15
 go_wp2_with (go_at_call 35;refine AL.out.mono ?_;first | rintro e w1 rfl rfl | rintro e w1 ⟨rfl,rfl⟩)
 refine RC.out.mono ?_
 rintro e w1 ⟨b1,⟨hs,A,ac,Y,rfl,hY,hR⟩ | ⟨hs,rfl⟩⟩
 ·have hr:r=saveLogD x.lg D ((es.map Prod.fst).map En.bytes):=by rw[HRR.out,if_pos (HS.out.2 hs)]
  have hst1:=HST.out.below hB b1
  have hsz1:=b1.size
  have hYl:Y.length=es.length:=by have:=congrArg List.length hY;simpa using this
  have hall:=soundL_all hs
  obtain⟨Zl,Yl,SA,sc,RA,rc,hx⟩:=hst1.lr
  have ap:=walAppend hx (Nat.le_trans hB hsz1) (HE.out.below (b1.mono hB)) A ac (Y.map fun y=>(y.2.1,y.2.2,y.1)) (hR.rl (T:=fun b=>S b\/F b) (fun b hb=>by
   obtain⟨_,_,_,_,_,_,hx0⟩:=HST.out.lr
   exact hb.elim (hx0.lb.di.bnd b) (fun e=>(hx0.lb.bnd b e).2)) (fun y hy=>by
   have:y.1∈(es.map Prod.fst).map En.bytes:=by rw[<-hY];exact List.mem_map_of_mem hy
   obtain⟨u,hu,e⟩:=List.mem_map.1 this
   have:=enBytes_len (hall u hu)
   rw[<-e]
   unfold En.bytes
   omega)) (by rw[List.length_map];omega) HX.out.2.2.2.1 (by have:=HX.out.2.2.2.2;omega)
  have hmm:(Y.map fun y=>(y.2.1,y.2.2,y.1)).map (·.2.2)=(es.map Prod.fst).map En.bytes:=by rw[List.map_map,<-hY];rfl
  rw[List.length_map,hmm] at ap
  obtain⟨q1,hq1⟩:∃q1,q1=appendW x.lg D ((es.map Prod.fst).map En.bytes):=⟨_,rfl⟩
  have hc1:q1.2.2.cnt<=1001:=by rw[hq1];exact Nat.le_trans (appendW_cnt _ _ _) (by have:=HX.out.2.2.2.2;omega)
  rw[<-hq1] at ap
  unfold saveLogD at hr
  rw[<-hq1] at hr
  have AP:=qh ap
  have HR1:=qh hr
  have HALL:=qh hall
  have HST1:=qh hst1
  have HB1:=qh b1
  have Q1:=hst1.blk
  rw[<-HQ.out.1] at Q1
  have c3:=(b1.cell (p:=⟨q,3,none⟩) hwq).trans e3
  have c8:=(b1.cell (p:=⟨q,8,none⟩) hwq).trans e8
  have c11:=Q1.cell 11 (v:=.pointer (some ⟨z.pl,0,none⟩)) rfl
  rw[<-HQ.out.2] at c11
  rw[<-HQ.out.2] at AP
  have hE1:=hR
  clear b1 hs hY hR hr hst1 hall hx ap hmm hq1 Q1 e3 e8 AL RC hE1 HRR HS HE hYl
  go_wp2_with (go_at_call 43;refine AP.out.mono ?_)
  rintro e w2 ⟨rfl,S2,F2,hlr2,hs2,hf2,m2⟩
  rw[HQ.out.2] at hlr2
  have hst2:=HST1.out.logged (Nat.le_trans hB hsz1) hlr2 hs2 hf2 m2
  have hsz2:=m2.size
  have Q2:=hst2.blk
  rw[<-HQ.out.1] at Q2
  simp only[HX.out.2.2.1] at Q2
  have DD:=qh (storeDidE q1.1 Q2 rfl)
  have HK2:=qh (And.intro (fun b hb=>(hs2 b hb).imp id (fun e=>Nat.le_trans hsz1 e)) (And.intro (fun b hb=>(hf2 b hb).imp id (fun e=>Nat.le_trans hsz1 e)) ((Mods.of_below (S:=fun b=>S b\/F b) HB1.out).then m2)))
  have HST2:=qh hst2
  clear hlr2 hs2 hf2 m2 hst2 Q2 AP c3 c8 c11 HST1
  go_wp2_with fail
  refine DD.out.mono ?_
  rintro e w3 ⟨rfl,hw3⟩
  obtain⟨hst3,m3⟩:=HST2.out.didit (by omega) (decide (q1.1=11))
  rw[<-HQ.out.1,<-hw3] at hst3 m3
  have hsz3:=m3.size
  have HM3:Hid (Mods (fun b=>S b\/F b\/b=z.q\/z.E.map (·.block)=some b) w w3):=qh ((HK2.out.2.2.mono (T:=fun b=>S b\/F b\/b=z.q\/z.E.map (·.block)=some b) (fun b _ e=>e.elim .inl (fun e=>.inr (.inl e)))).trans m3 (fun b e=>.inl (.inr (.inr (.inl (by rw[e,HQ.out.1]))))))
  have HST3:=qh hst3
  clear hw3 m3 hst3 HST2 DD
  by_cases hq0:q1.1=0
  ·have hqb:(q1.1 == 0)=true:=by simpa using hq0
   have hr2:r=syncW q1.2.1 q1.2.2:=by rw[HR1.out,if_neg (by rw[hq0];simp)]
   obtain⟨Zl,Yl,SA,sc,RA,rc,hx⟩:=HST3.out.lr
   have sy:=walSync hx (by omega) (by omega)
   obtain⟨q2,hq2⟩:∃q2,q2=syncW q1.2.1 q1.2.2:=⟨_,rfl⟩
   simp only at sy
   rw[<-hq2] at sy hr2
   rw[<-HQ.out.2] at sy
   have hfp:=hx.fp
   have SY:=qh sy
   have HR2:=qh hr2
   have HFP:=qh hfp
   have Q3:=HST3.out.blk
   rw[<-HQ.out.1] at Q3
   have c11:=Q3.cell 11 (v:=.pointer (some ⟨z.pl,0,none⟩)) rfl
   rw[<-HQ.out.2] at c11
   clear hx sy hr2 hq2 HR1 hfp Q3
   go_wp2_with (go_at_call 44;refine SY.out.mono ?_)
   rintro e w4 ⟨rfl,S4,hx4,hs4,m4⟩
   rw[HQ.out.2] at hx4 m4
   have m4':Mods (fun b=>S2 b\/F2 b) w3 w4:=m4.mono (fun b _ e=>e.elim .inl (fun e=>.inr (by rw[e];exact HFP.out)))
   have hst4:=HST3.out.logged (by omega) ⟨_,_,_,_,_,_,hx4⟩ hs4 (fun b hb=>.inl hb) m4'
   have hsz4:=m4.size
   have Q4:=hst4.blk
   rw[<-HQ.out.1] at Q4
   simp only[hq0] at Q4
   have D4:=qh (storeDidE q2.1 Q4 rfl)
   have hK4:∀b,S4 b->S b\/w.heap.size<=b:=fun b hb=>(hs4 b hb).elim (HK2.out.1 b) (fun e=>.inr (by omega))
   have HK4:=qh (And.intro hK4 (HM3.out.trans m4' (fun b e=>e.elim (fun e=>(HK2.out.1 b e).imp .inl id) (fun e=>(HK2.out.2.1 b e).imp (fun e=>.inr (.inl e)) id))))
   have HST4:=qh hst4
   clear hx4 hs4 m4 m4' hst4 Q4 SY c11 HST3 HM3 hK4 hqb hq0
   go_wp2_with fail
   refine D4.out.mono ?_
   rintro e w5 ⟨rfl,hw5⟩
   obtain⟨hst5,m5⟩:=HST4.out.didit (by omega) (decide (q2.1=11))
   rw[<-HQ.out.1,<-hw5] at hst5 m5
   have hsz5:=m5.size
   have HM5:Hid (Mods (fun b=>S b\/F b\/b=z.q\/z.E.map (·.block)=some b) w w5):=qh (HK4.out.2.trans m5 (fun b e=>.inl (.inr (.inr (.inl (by rw[e,HQ.out.1]))))))
   have HST5:=qh hst5
   clear hw5 m5 hst5 HST4 D4
   by_cases hq3:q2.1=0
   ·have hqb:(q2.1 == 0)=true:=by simpa using hq3
    have hel:∀b,nb<=b->b<w.heap.size->¬(S b\/F b\/b=z.q\/z.E.map (·.block)=some b):=fun b h1 h2 e=>by
     rcases e with e | e | e | e
     ·exact(HEO.out.2 b h1).1 e
     ·exact(HEO.out.2 b h1).2 e
     ·rw[<-HQ.out.1] at e;omega
     ·have:=HEN.out b e;omega
    have heo5:=HEO.out.1.mods HM5.out hel
    have Q5:=HST5.out.blk
    rw[<-HQ.out.1] at Q5
    have CLX:Hid (∀v,Below w5.heap.size w5 v->Calls Tryz.prog 33 #[.agg (stateL 0 0 0 0 [] [] [] none 0 none 0 none 0 E es.length c)] v fun e w'=>∃A ac B bc C cc E' ec' es',e=.returned (.agg (stateL 0 0 0 0 [] [] [] A ac B bc C cc E' es'.length ec'))/\es'.map Prod.fst=es.map Prod.fst/\EO w' v.heap.size E' ec' es'/\OV w' v.heap.size 3 A ac (ncells .i64 [])/\OV w' v.heap.size 3 B bc (ncells .i64 [])/\OB w' v.heap.size C cc []/\Below v.heap.size v w'):=qh (fun v hv=>stateCloneL 0 0 0 0 [] [] [] none 0 none 0 none 0 E c es v ((heo5.below hv).el) (by omega) (fun y hy=>by
     have:=(enB_parts (HALL.out y.1 (List.mem_map_of_mem hy))).2.2.2.2.2.2.1
     omega) (RV.nil) (RV.nil) (RB.nil) (by decide) (by decide) (by decide))
    clear hel heo5
    obtain⟨i0',hi0,hz0,hz1,hz2⟩:=info_parts en_info
    have hfd:=fun a b c d e f g h w=>field_list2 a b c d e f g h w
    have hHB:B<=w5.heap.size:=by omega
    clear Q5
    go_upto_region 27 with fail
    refine wp_region_planE_gen (by kernel_rfl) [(0,none),(1,none),(2,none),(3,none),(4,none),(5,none),(6,none),(7,none),(8,some [7]),(9,none),(10,some [5,9]),(11,none),(12,none),(13,none),(14,some [0,1,2,3,4,5,6,7,9,13])] (by kernel_rfl) (by kernel_rfl) (by decide) ?_
    intro wq hwq
    have hbq:Below w5.heap.size w5 wq:=by rw[hwq];exact(Below.refl _ _).drew
    have HSTq:=qh (HST5.out.below hHB hbq)
    have Qq:=HSTq.out.blk
    rw[<-HQ.out.1] at Qq
    simp only[HX.out.2.1] at Qq
    have c8:=Qq.cell 8 (v:=.slice z.E 0 z.ec) rfl
    have CL:=qh (CLX.out wq hbq)
    have HMq:=qh (HM5.out.below hbq)
    have HBN:Hid ((∀b,S4 b\/F2 b->b<wq.heap.size)/\z.q<wq.heap.size):=qh (by
     obtain⟨_,_,_,_,_,_,hx⟩:=HSTq.out.lr
     exact⟨fun b e=>e.elim (hx.lb.di.bnd b) (fun e=>(hx.lb.bnd b e).2),HSTq.out.blk.lt⟩)
    have hsq:=hbq.size
    clear hwq hbq Qq CLX HM5 HST5
    iterate 5 (refine planE_pureA ?_)
    refine planE_cellsA [(⟨q,8,none⟩,.slice z.E 0 z.ec)] ?_
    iterate 2 (refine planE_pureA ?_)
    refine planE_eff rfl (by rfl) (fun K hK=>?_)
    go_simp
    refine CL.out.mono ?_
    rintro e w6 ⟨A6,a6,B6,b6,C6,c6,E6,ec6,es6,rfl,he6,oe6,_,_,_,b6'⟩
    have HST6:=qh (HSTq.out.below (by omega) b6')
    have Qq:=HST6.out.blk
    rw[<-HQ.out.1] at Qq
    simp only[HX.out.2.1] at Qq
    have HM6:=qh (HMq.out.below b6')
    have HO6:=qh (And.intro he6 oe6)
    have hs6:=b6'.size
    have hel6:es6.length<=1000:=by have:=congrArg List.length he6;rw[List.length_map,List.length_map] at this;omega
    clear c8 CL HSTq HMq he6 oe6 b6'
    have c8:=Qq.cell 8 (v:=.slice z.E 0 z.ec) rfl
    clear Qq
    refine planE_ownA hK ?_
    clear hK K
    iterate 1 (refine planE_pureA ?_)
    refine planE_eff rfl (by rfl) (fun K hK=>?_)
    have hr6:=HST6.out.re.row
    simp only[HX.out.2.1] at hr6
    refine op_appendS w6 (.tmp 115) (.tmp 119) 22 TEn (by rfl) Tryz.underlying22 hi0 hz0 hz1 hz2 rfl (by decide) B z.E E6 z.ec ec6 [] (es6.map er) (by rfl) (by rw[List.length_map];rfl) hr6 HO6.out.2.row.rs (ers_len es6) (ers_one es6) (by simp;omega) (by simp;omega) (by omega) ?_
    intro ys E7 ec7 w7 hys hy1 hy2 hrow hg7 hE7
    have hys':ys=es6.map er:=by rw[hys.out,List.nil_append]
    have hyl:ys.length=es6.length:=by rw[hys',List.length_map]
    rw[hys'] at hrow
    have hne:∀y∈es6,∀b,y.2.1.map (·.block)=some b->wq.heap.size<=b:=fun y hy b hb=>((HO6.out.2.ob y hy).blk_in b hb).1
    have hst6:=HST6.out
    obtain⟨_,_,_,_,_,_,hx6⟩:=hst6.lr
    have hLS:=hst6.listed (w7:=w7) (es':=es6) (E':=E7) (ec':=ec7) (by omega) hg7 hrow (fun y hy=>((HO6.out.2.ob y hy).base_le (by omega)).grown_row hg7 (fun b hb=>(HO6.out.2.ob y hy).ne_row hr6 (by decide) b hb)) (fun y hy b hb=>by
     have h1:=hne y hy b hb
     have h2:=HBN.out
     exact⟨fun e=>by have:=h2.1 b (.inl e);omega,fun e=>by have:=h2.1 b (.inr e);omega,fun e=>by have:=h2.2;omega⟩) hE7
    have HLS:=qh hLS
    have q7:=hst6.blk.grown hg7 (hst6.re.row.ne_var hst6.blk (by decide))
    rw[<-HQ.out.1] at q7
    simp only[HX.out.2.1] at q7
    have HM7:=qh (HM6.out.then (Mods.of_grown (S:=fun b=>S b\/F b\/b=z.q\/z.E.map (·.block)=some b) hg7 (fun b e=>.inr (.inr (.inr e)))))
    have HYL:=qh hyl
    clear c8 hr6 hys hy1 hy2 hrow hg7 hE7 hys' hyl hne hst6 hx6 hLS HST6 HM6
    have c8:=q7.cell 8 (v:=.slice z.E 0 z.ec) rfl
    have f8:=q7.free 8
    clear q7
    refine planE_ownA hK ?_
    clear hK K
    iterate 3 (refine planE_pureA ?_)
    refine planE_eff rfl (by rfl) (fun K hK=>?_)
    go_simp
    skip
    refine planE_ownA hK ?_
    clear hK K
    refine planE_end ?_
    have HF:Hid (SLogE B S F w g z x (es.map Prod.fst) r (.returned (.int .i64 0)) (w7.setCell ⟨q,8,none⟩ (.slice E7 ys.length ec7))):=qh (by
     rw[HR2.out,HYL.out]
     refine⟨by rw[hq3],S4,F2,E7,ec7,es6,?_,by rw[if_pos hq3];exact HO6.out.1,HK4.out.1,HK2.out.2.1,?_⟩
     ·rw[HQ.out.1]
      exact HLS.out
     ·exact HM7.out.setCell ⟨q,8,none⟩ (.inl (.inr (.inr (.inl HQ.out.1)))) _)
    clear HLS HM7 HO6 HK4 HK2 HR2 hq3
    go_wp2_with fail
    go_ret
    exact HF.out
   ·have hqb:(q2.1 == 0)=false:=by simpa using hq3
    have HF:Hid (SLogE B S F w g z x (es.map Prod.fst) r (.returned (.int .i64 q2.1)) w5):=qh (by
     rw[HR2.out]
     refine⟨rfl,S4,F2,z.E,z.ec,[],?_,by rw[if_neg hq3];rfl,HK4.out.1,HK2.out.2.1,HM5.out⟩
     have e:({ x with lg:=q2.2.1,dn:=decide (q2.1=11),es:=[] }:SV)={ x with lg:=q2.2.1,dn:=decide (q2.1=11) }:=by rw[<-HX.out.2.1]
     rw[e]
     exact HST5.out)
    clear HST5 HM5 HR2 hq3
    go_wp2_with fail
    go_ret
    exact HF.out
  ·have hqb:(q1.1 == 0)=false:=by simpa using hq0
   have HF:Hid (SLogE B S F w g z x (es.map Prod.fst) r (.returned (.int .i64 q1.1)) w3):=qh (by
    rw[HR1.out,if_pos hq0]
    refine⟨rfl,S2,F2,z.E,z.ec,[],?_,by rw[if_neg hq0];rfl,HK2.out.1,HK2.out.2.1,HM3.out⟩
    have e:({ x with lg:=q1.2.1,dn:=decide (q1.1=11),es:=[] }:SV)={ x with lg:=q1.2.1,dn:=decide (q1.1=11) }:=by rw[<-HX.out.2.1]
    rw[e]
    exact HST3.out)
   clear HST3 HM3 HR1 hq0
   go_wp2_with fail
   go_ret
   exact HF.out
 ·have hr:r=(2,x.lg,D):=by rw[HRR.out,if_neg (fun e=>hs (HS.out.1 e))]
  have HF:Hid (SLogE B S F w g z x (es.map Prod.fst) r (.returned (.int .i64 2)) w1):=qh (by
   rw[hr]
   refine⟨rfl,S,F,z.E,z.ec,[],?_,rfl,fun b hb=>.inl hb,fun b hb=>.inl hb,Mods.of_below b1⟩
   show ST B S F w1 g z { x with lg:=x.lg,dn:=false,es:=[] } D
   rw[SV.same HX.out.2.2.1 HX.out.2.1]
   exact HST.out.below hB b1)
  have c3:=(b1.cell (p:=⟨q,3,none⟩) hwq).trans e3
  have c8:=(b1.cell (p:=⟨q,8,none⟩) hwq).trans e8
  clear hr hs b1 HST HRR HS AL RC e3 e8
  go_wp2_with fail
  go_ret
  exact HF.out
end
end Go.Proofs.YtobdmlejabjmiaaGreatDoor
