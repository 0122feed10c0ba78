/- Made small by a program. -/
import Derived.Test.YtobdmlejabjmiaaGreatDoorZb39
set_option maxRecDepth 20000
set_option maxHeartbeats 8000000
namespace Go.Proofs.YtobdmlejabjmiaaGreatDoor
open Go.RowKit
section
variable {B g:Nat} {S S' F F' T:Nat->Prop} {w w':World} {z:SP} {x:SV} {D D':DSt}
theorem ST.own_lt(h:ST B S F w g z x D){b:Nat}(hb:z.own x.es b):b<w.heap.size:=by
 rcases hb with hb | hb | hb | hb | ⟨y,hy,hb⟩
 ·exact(h.rv.blk_lt b hb).2
 ·exact(h.rl.blk_lt b hb).2
 ·exact(h.rd.blk_in b hb).2
 ·exact(h.re.row.blk_lt b hb).2
 ·exact((h.re.ob y hy).blk_in b hb).2
theorem ST.own_ne{c:Nat}{T:TypeId}{cs:Array Value}(h:ST B S F w g z x D)(hc:Blk w c T cs)(h1:T≠3)(h2:T≠5)(h3:T≠TEn){b:Nat}(hb:z.own x.es b):b≠c:=by
 intro e
 subst e
 rcases hb with hb | hb | hb | hb | ⟨y,hy,hb⟩
 ·exact h.rv.ne_blk hc h1 hb
 ·exact h.rl.ne_blk hc h1 hb
 ·exact OB.ne_blk h.rd hc h2 hb
 ·exact h.re.row.ne_var hc (fun e=>h3 e.symm) hb
 ·exact OB.ne_blk (h.re.ob y hy) hc h2 hb
theorem ST.carry{lg':Lg}(h:ST B S F w g z x D)(hB:B<=w.heap.size)(hd:DI S' w' g D')(hn:∀b,S' b->S b\/w.heap.size<=b)(hf:∀b,F' b->F b\/w.heap.size<=b)(m:Mods T w w')(hq:¬T z.q)(hps:¬T z.ps)(hvs:∀b,z.Vs.map (·.block)=some b\/z.Os.map (·.block)=some b->¬T b)(hown:∀b,z.own x.es b->¬T b)(hlr:LR B S' F' w' z.pl g lg' D'):ST B S' F' w' g z { x with lg:=lg' } D' where
 blk:=h.blk.mods m hq
 ss:=h.ss.carry hB hd hn m hps (fun b hb=>hvs b (.inl hb)) (fun b hb=>hvs b (.inr hb))
 lr:=hlr
 rv:=h.rv.mods m (fun b hb=>hown b (.inl hb))
 rl:=h.rl.mods m (fun b hb=>hown b (.inr (.inl hb)))
 rd:=h.rd.mods m (fun b hb=>hown b (.inr (.inr (.inl hb))))
 re:=⟨h.re.row.mods m (fun b hb=>hown b (.inr (.inr (.inr (.inl hb))))),fun y hy=>(h.re.ob y hy).mods m (fun b hb=>hown b (.inr (.inr (.inr (.inr ⟨y,hy,hb⟩)))))⟩
 qS:=fun e=>(hn _ e).elim h.qS (fun e=>by have:=h.blk.lt;omega)
 qF:=fun e=>(hf _ e).elim h.qF (fun e=>by have:=h.blk.lt;omega)
 sF:=fun e=>(hf _ e).elim h.sF (fun e=>by have:=h.ss.blk.lt;omega)
 vF:=fun b hb e=>(hf _ e).elim (h.vF b hb) (fun e=>by
  rcases hb with hb | hb
  ·have:=(h.ss.val.blk_in b hb).2;omega
  ·have:=(h.ss.old.blk_lt b hb).2;omega)
 own:=fun b hb=>⟨fun e=>(hn _ e).elim (h.own b hb).1 (fun e=>by have:=h.own_lt hb;omega),fun e=>(hf _ e).elim (h.own b hb).2 (fun e=>by have:=h.own_lt hb;omega)⟩
 qB:=h.qB
theorem ST.below(h:ST B S F w g z x D)(hB:B<=w.heap.size)(hb:Below w.heap.size w w'):ST B S F w' g z x D:=by
 obtain⟨Z,Y,SA,sc,RA,rc,hx⟩:=h.lr
 exact h.carry (T:=fun _=>False) hB (hx.lb.di.below hb) (fun b hb=>.inl hb) (fun b hb=>.inl hb) (Mods.of_below hb) (fun e=>e) (fun e=>e) (fun _ _ e=>e) (fun _ _ e=>e) ⟨Z,Y,SA,sc,RA,rc,hx.below hb⟩
theorem ST.turn{ht:Nat}{hv:Int}{dn:Bool}(h:ST B S F w g z x D)(hB:B<=w.heap.size)(m:Mods (·=z.q) w w')(hb:Blk w' z.q 72 (storeL g z.ph z.ps z.pl ht hv x.i x.t x.v x.l x.d z.V z.vc z.L z.lc z.A z.ac z.E x.es.length z.ec dn)):ST B S F w' g z { x with ht:=ht,hv:=hv,dn:=dn } D:=by
 obtain⟨Z,Y,SA,sc,RA,rc,hx⟩:=h.lr
 have hown:=fun b hb=>h.own_ne h.blk (by decide) (by decide) (by decide) (b:=b) hb
 exact
 {blk:=hb
  ss:=h.ss.keepq m h.blk h.qS
  lr:=⟨Z,Y,SA,sc,RA,rc,hx.mods m (fun b hb e=>h.qF (by rw[<-e];exact hb)) (hx.lb.di.mods m (fun b _ hs e=>h.qS (by rw[<-e];exact hs))) (fun b hb=>.inl hb) hB⟩
  rv:=h.rv.mods m (fun b hb=>hown b (.inl hb))
  rl:=h.rl.mods m (fun b hb=>hown b (.inr (.inl hb)))
  rd:=h.rd.mods m (fun b hb=>hown b (.inr (.inr (.inl hb))))
  re:=⟨h.re.row.mods m (fun b hb=>hown b (.inr (.inr (.inr (.inl hb))))),fun y hy=>(h.re.ob y hy).mods m (fun b hb=>hown b (.inr (.inr (.inr (.inr ⟨y,hy,hb⟩)))))⟩
  qS:=h.qS
  qF:=h.qF
  sF:=h.sF
  vF:=h.vF
  own:=h.own
  qB:=h.qB }
theorem ST.saved{sh':Sl}{V3 O3:Option Addr}{c3 d3:Nat}(h:ST B S F w g z x D)(hB:B<=w.heap.size)(hpc:∃cs,Blk w z.ph TS cs)(r:SR B S' w' z.ph g sh' D' V3 c3 O3 d3)(hn:∀b,S' b->S b\/w.heap.size<=b)(m:Mods (fun b=>S b\/b=z.ph) w w')(hF:¬F z.ph)(hp:z.ph≠z.ps):ST B S' F w' g z x D':=by
 obtain⟨Z,Y,SA,sc,RA,rc,hx⟩:=h.lr
 obtain⟨cs,hpc⟩:=hpc
 refine h.carry (T:=fun b=>S b\/b=z.ph) hB r.di hn (fun b hb=>.inl hb) m (fun e=>e.elim h.qS (h.blk.ne hpc (by decide))) (fun e=>e.elim h.ss.ps (fun e=>hp e.symm)) ?_ (fun b hb e=>e.elim (h.own b hb).1 (h.own_ne hpc (by decide) (by decide) (by decide) hb)) ⟨Z,Y,SA,sc,RA,rc,hx.mods m (fun b hb e=>e.elim (hx.lb.dis b hb) (fun e=>hF (by rw[<-e];exact hb))) r.di hn hB⟩
 rintro b (hb | hb) e
 ·exact e.elim (h.ss.vs b hb) (fun e=>OB.ne_blk h.ss.val hpc (by decide) (by rw[hb,e]))
 ·exact e.elim (h.ss.os b hb) (fun e=>h.ss.old.ne_blk hpc (by decide) (by rw[hb,e]))
theorem storeAliveE{q:Nat}{cs:Array Value}(dn:Bool)(hq:Blk w q 72 cs)(h:cs[12]?=some (.bool dn)):Calls Tryz.prog 35 #[.pointer (some ⟨q,0,none⟩)] w fun e w'=>e=.returned (.int .i64 (if dn=true then 11 else 0))/\w=w':=by
 have c12:=hq.cell 12 h
 clear hq h
 cases dn with
 | true =>
  go_enter Tryz.func35,Tryz.ntmps35
  go_wp2_with fail
  go_ret
  exact⟨rfl,rfl⟩
 | false =>
  go_enter Tryz.func35,Tryz.ntmps35
  go_wp2_with fail
  go_ret
  exact⟨rfl,rfl⟩
theorem storeDidE{q:Nat}{cs:Array Value}(k:Int)(hq:Blk w q 72 cs)(h:cs[12]?=some (.bool false)):Calls Tryz.prog 37 #[.pointer (some ⟨q,0,none⟩),.int .i64 k] w fun e w'=>e=.returned (.int .i64 k)/\w'=w.setCell ⟨q,12,none⟩ (.bool (decide (k=11))):=by
 have c12:=hq.cell 12 h
 have f12:=hq.free 12
 clear hq h
 by_cases hk:k=11
 ·subst hk
  go_enter Tryz.func37,Tryz.ntmps37
  go_wp2_with fail
  go_ret
  exact⟨rfl,rfl⟩
 ·have hkb:(k == 11)=false:=by simpa using hk
  rw[decide_eq_false hk]
  clear hk
  go_enter Tryz.func37,Tryz.ntmps37
  go_wp2_with fail
  go_ret
  exact⟨rfl,rfl⟩
theorem storeSaveHardT{sh:Sl}{Vh Oh:Option Addr}{cvh coh:Nat}(hst:ST B S F w g z x D)(hsh:SR B S w z.ph g sh D Vh cvh Oh coh)(hpF:¬F z.ph)(hpp:z.ph≠z.ps)(hdn:x.dn=false)(hB:B<=w.heap.size)(hE:SEnv B w)(t5:Nat)(v5:Int)(ht:t5<=18446744073709551615)(hv5:hardB v5=true)
  (h1:sh.down=false) (h2:sh.last+1<18446744073709551616) (h3:D.cnt<=1000) (h4:D.files.length<=1000) (h5:sh.old.length<=1000) (hok:(saveS sh D (hardBytes t5 v5)).1=0) :
  Calls Tryz.prog 14 #[.pointer (some ⟨z.q,0,none⟩),.agg #[.int .u64 (t5:Int),.int .i64 v5]] w fun e w'=>e=.returned (.int .i64 0)/\∃S',ST B S' F w' g z { x with ht:=t5,hv:=v5 } (saveS sh D (hardBytes t5 v5)).2.2/\(∀b,S' b->S b\/w.heap.size<=b)/\Mods (fun b=>S b\/b=z.ph\/b=z.q) w w':=by
 have hal:Below w.heap.size w (w.alloc (.cells #[.int .u64 (t5:Int),.int .i64 v5] 25)):=(Below.refl _ _).alloc (Nat.le_refl _) _
 have Z:=qh (Blk.new w #[.int .u64 (t5:Int),.int .i64 v5] 25)
 have hs0:=hst.below hB hal
 obtain⟨q,hq⟩:∃q,q=z.q:=⟨_,rfl⟩
 obtain⟨p,hp⟩:∃p,p=z.ph:=⟨_,rfl⟩
 have Q0:=hs0.blk
 rw[hdn,<-hq,<-hp] at Q0
 have AL:=qh (storeAlive Q0 rfl)
 have MH:=qh (msgHard t5 v5 (w.alloc (.cells #[.int .u64 (t5:Int),.int .i64 v5] 25)) ht true hv5)
 have HST:=qh hs0
 have hsr0:=hsh.below hal
 rw[<-hp] at hsr0 hpF hpp
 have HSR:=qh hsr0
 have HE:=qh (hE.below (hal.mono hB))
 have HAL:=qh hal
 have hwq:=hst.blk.lt
 rw[<-hq] at hwq
 have hwp:=hsh.blk.lt
 rw[<-hp] at hwp
 have HP:=qh (And.intro hpF (And.intro hpp (And.intro hq (And.intro hp hdn))))
 have HSS:=qh (And.intro h1 (And.intro h2 (And.intro h3 (And.intro h4 h5))))
 have HOK:=qh hok
 have HBN:=qh hsh.di.bnd
 rw[<-hq,<-hp]
 clear hal Q0 hst hsh hE hpF hpp hs0 hsr0 h1 h2 h3 h4 h5 hok hq hp hdn
 go_enter Tryz.func14,Tryz.ntmps14
 go_wp2_with (go_at_call 35;refine AL.out.mono ?_)
 rintro e w1 ⟨rfl,rfl⟩
 go_wp2_with fail
 refine MH.out.mono ?_
 rintro e w2 ⟨A,n,c,k,rfl,b2,p1,p2⟩
 obtain⟨rfl,rfl,ho⟩:=p2 rfl
 have hlen:=hardBytes_len t5 v5
 have hsz2:=(belowTrans HAL.out b2).size
 have hsz1:=HAL.out.size
 have S2:=HSR.out.below b2
 have hst2:=HST.out.below (Nat.le_trans hB hsz1) b2
 have Q2:=hst2.blk
 rw[<-HP.out.2.2.1,<-HP.out.2.2.2.1,HP.out.2.2.2.2] at Q2
 have hbl:=ho.blk_in
 have sv:=slotSave S2 (Nat.le_trans hB hsz2) (HE.out.below (b2.mono (Nat.le_trans hB hsz1))) HSS.out.1 (hardBytes t5 v5) A c ho.rb (fun _ b hb=>by
  have h1:=(hbl b hb).1
  exact⟨fun e=>by have:=HBN.out b e;omega,by omega⟩) (by omega) HSS.out.2.1 HSS.out.2.2.1 HSS.out.2.2.2.1 HSS.out.2.2.2.2
 rw[HOK.out] at sv
 have SV:=qh sv
 have Z2:=qh (Z.out.kept b2)
 have c9:=Q2.cell 9 (v:=.pointer (some ⟨p,0,none⟩)) rfl
 have G2:=qh (And.intro hst2 (And.intro (belowTrans HAL.out b2) S2))
 clear MH b2 p1 p2 ho hbl S2 Q2 HST HSR Z AL hst2 sv
 go_wp2_with fail
 refine SV.out.mono ?_
 rintro e w3 ⟨rfl,S3,V3,cv3,O3,co3,r3,k3,m3,_⟩
 obtain⟨hst2,hb2,S2⟩:=G2.out
 rw[HP.out.2.2.2.1] at r3 m3 S2
 have hst3:=hst2.saved (Nat.le_trans hB hsz2) ⟨_,S2.blk⟩ r3 k3 m3 (by rw[<-HP.out.2.2.2.1];exact HP.out.1) (by rw[<-HP.out.2.2.2.1];exact HP.out.2.1)
 have Q3:=hst3.blk
 rw[<-HP.out.2.2.1,HP.out.2.2.2.2] at Q3
 have Z3:=qh (Z2.out.mods m3 (fun e=>e.elim (fun e=>by have:=HBN.out _ e;omega) (fun e=>by rw[<-HP.out.2.2.2.1] at e;omega)))
 have DD:=qh (storeDid Q3 rfl)
 have G3:=qh (And.intro hst3 (And.intro ((Mods.of_below (S:=fun b=>S b\/b=z.ph) hb2).then m3) (fun b e=>(k3 b e).imp id (fun e=>Nat.le_trans hsz2 e))))
 have hw3:=m3.size
 clear SV hst2 hb2 S2 G2 hst3 Q3 r3 k3 m3 Z2 c9
 go_wp2_with fail
 refine DD.out.mono ?_
 rintro e w4 ⟨rfl,hw4⟩
 obtain⟨hst3,M3,K3⟩:=G3.out
 have Q3:=hst3.blk
 rw[HP.out.2.2.2.2] at Q3
 have m4:Mods (·=z.q) w3 w4:=by
  rw[hw4,HP.out.2.2.1]
  exact(Mods.refl (·=z.q) w3).setCell ⟨z.q,12,none⟩ (.inl rfl) _
 have Q4:Blk w4 z.q 72 (storeL g z.ph z.ps z.pl x.ht x.hv x.i x.t x.v x.l x.d z.V z.vc z.L z.lc z.A z.ac z.E x.es.length z.ec false):=by rw[hw4,HP.out.2.2.1];exact Q3.setCell 12 (.bool false)
 have Z4:Blk w4 w.heap.size 25 #[.int .u64 (t5:Int),.int .i64 v5]:=Z3.out.mods m4 (by rw[<-HP.out.2.2.1];omega)
 have z0:=Z4.cell 0 (v:=.int .u64 (t5:Int)) rfl
 have z1:=Z4.cell 1 (v:=.int .i64 v5) rfl
 have m5:Mods (·=z.q) w4 (w4.setCells z.q 1 [.int .u64 (t5:Int),.int .i64 v5]):=((Mods.refl (·=z.q) w4).setCell ⟨z.q,1,none⟩ (.inl rfl) (.int .u64 (t5:Int))).setCell ⟨z.q,1+1,none⟩ (.inl rfl) (.int .i64 v5)
 have Q5:Blk (w4.setCells z.q 1 [.int .u64 (t5:Int),.int .i64 v5]) z.q 72 (storeL g z.ph z.ps z.pl t5 v5 x.i x.t x.v x.l x.d z.V z.vc z.L z.lc z.A z.ac z.E x.es.length z.ec false):=blk_setCells2 Q4 1 (.int .u64 (t5:Int)) (.int .i64 v5)
 have hst5:=hst3.turn (by omega) (m4.then m5) Q5
 have M5:Mods (fun b=>S b\/b=z.ph\/b=z.q) w (w4.setCells z.q 1 [.int .u64 (t5:Int),.int .i64 v5]):=(M3.mono (T:=fun b=>S b\/b=z.ph\/b=z.q) (fun b _ e=>e.elim .inl (fun e=>.inr (.inl e)))).trans (m4.then m5) (fun b e=>.inl (.inr (.inr e)))
 rw[<-HP.out.2.2.1] at Q4
 have TH:=qh (there_blk Q4 1 2 (by simp))
 have G5:=qh (And.intro hst5 (And.intro K3 M5))
 clear DD hw4 Q3 M3 K3 hst3 G3 m4 Q4 Z4 Z3 m5 Q5 hst5 M5
 rw[<-HP.out.2.2.1] at G5
 go_wp2_with (refine wpList_store_mid rfl 25 (.tmp 35) (.tmp 32) rfl q 1 #[.int .u64 (t5:Int),.int .i64 v5] rfl rfl TH.out hard_size (by simp[Value.oneCell']) ?_;simp only[];generalize w4.setCells q 1 [.int .u64 (t5:Int),.int .i64 v5]=w5 at *)
 go_ret
 obtain⟨g1,g2,g3⟩:=G5.out
 have e:({ ht:=t5,hv:=v5,i:=x.i,t:=x.t,v:=x.v,l:=x.l,d:=x.d,es:=x.es,ss:=x.ss,lg:=x.lg,dn:=false }:SV)={ x with ht:=t5,hv:=v5 }:=by rw[HP.out.2.2.2.2]
 refine⟨rfl,S3,?_,g2,?_⟩
 ·rw[<-e];exact g1
 ·rw[HP.out.2.2.1,HP.out.2.2.2.1] at *
  exact g3
theorem storeStateT(hst:ST B S F w g z x D)(hB:B<=w.heap.size)(hn:x.v.length<=1000000)(hm:x.l.length<=1000000)(hdl:x.d.length<=1000000)(hel:x.es.length<=1000000)(hed:∀y∈x.es,y.1.dat.length<=1000000) :
  Calls Tryz.prog 16 #[.pointer (some ⟨z.q,0,none⟩)] w fun e w'=>∃A ac B bc C cc E ec es2,e=.returned (.agg (stateL x.ht x.hv x.i x.t x.v x.l x.d A ac B bc C cc E es2.length ec))/\es2.map Prod.fst=x.es.map Prod.fst/\EO w' w.heap.size E ec es2/\OV w' w.heap.size 3 A ac (ncells .i64 x.v)/\OV w' w.heap.size 3 B bc (ncells .i64 x.l)/\OB w' w.heap.size C cc x.d/\Below w.heap.size w w':=by
 have hal:Below w.heap.size w (w.alloc (.cells state0 38)):=(Below.refl _ _).alloc (Nat.le_refl _) _
 have Z:=qh (Blk.new w state0 38)
 have h0:=hst.below hB hal
 obtain⟨⟨q,ph,ps,pl,V,vc,L,lc,A0,ac0,E0,ec0,Vs,cvs,Os,cos⟩,hz⟩:∃z',z'=z:=⟨_,rfl⟩
 subst hz
 obtain⟨⟨ht,hv,i,t,v,l,d,es,ss,lg,dn⟩,hx⟩:∃x',x'=x:=⟨_,rfl⟩
 subst hx
 simp only at *
 have rg:(w.alloc (.cells state0 38)).rangeAt q 1 (stateL ht hv i t v l d V vc L lc A0 ac0 E0 es.length ec0).toList:=h0.blk.range 1 _ (by
  intro j x hj
  match j,hj with
  | 0,hj=>simpa using hj
  | 1,hj=>simpa using hj
  | 2,hj=>simpa using hj
  | 3,hj=>simpa using hj
  | 4,hj=>simpa using hj
  | 5,hj=>simpa using hj
  | 6,hj=>simpa using hj
  | 7,hj=>simpa using hj
  | j+8,hj=>simp at hj)
 have RG:=qh rg
 have CL:=qh (stateCloneL ht hv i t v l d V vc L lc A0 ac0 E0 ec0 es _ h0.re.el hel hed h0.rv.rv h0.rl.rv h0.rd.rb hn hm hdl)
 have HAL:=qh hal
 clear hal hst h0 rg
 unfold state0 at *
 go_enter Tryz.func16,Tryz.ntmps16
 go_wp2_with (refine wpList_load_mid rfl 38 (.tmp 8) rfl q 1 rfl (stateL ht hv i t v l d V vc L lc A0 ac0 E0 es.length ec0).toList _ RG.out Tryz.underlying38 rfl state_size ?_)
 refine CL.out.mono ?_
 rintro e w1 ⟨A,ac,Bb,bc,C,cc,E,ec,es2,rfl,he,oe,o1,o2,o3,b1⟩
 have hws:(w.alloc (.cells #[.int .u64 0,.int .i64 0,.int .u64 0,.int .u64 0,.slice none 0 0,.slice none 0 0,.slice none 0 0,.slice none 0 0] 38)).heap.size=w.heap.size+1:=by simp
 rw[hws] at o1 o2 o3 oe
 have Y:=qh (Z.out.kept b1)
 have HB:=qh (belowTrans HAL.out b1)
 have HO:=qh (And.intro o1 (And.intro o2 (And.intro o3 (And.intro oe he))))
 clear b1 o1 o2 o3 oe he CL Z HAL RG hws
 go_wp2_with (refine wpList_store_row rfl 38 (.tmp 2) (.tmp 10) rfl w.heap.size (stateL ht hv i t v l d A ac Bb bc C cc E es2.length ec) rfl rfl _ _ Y.out state_size rfl (by simp[Value.oneCell']) ?_)
 have Y2:=Y.out.setRow (stateL ht hv i t v l d A ac Bb bc C cc E es2.length ec)
 refine bodyPost_ret (v:=.agg (stateL ht hv i t v l d A ac Bb bc C cc E es2.length ec)) (results_cell_row rfl _ _ w.heap.size 38 (stateL ht hv i t v l d A ac Bb bc C cc E es2.length ec) (0,0) _ rfl Y2 Tryz.underlying38 rfl state_size) rfl ?_
 obtain⟨o1,o2,o3,oe,he⟩:=HO.out
 have ms:=(Mods.refl (·=w.heap.size) w1).setRow w.heap.size (.inl rfl) (stateL ht hv i t v l d A ac Bb bc C cc E es2.length ec)
 exact⟨A,ac,Bb,bc,C,cc,E,ec,es2,rfl,he,(oe.mods ms (fun b h1 _ e=>by omega)).base_le (by omega),OV.base_le (o1.mods ms (fun k hk e=>by have:=(o1.blk_lt k hk).1;omega)) (by omega),OV.base_le (o2.mods ms (fun k hk e=>by have:=(o2.blk_lt k hk).1;omega)) (by omega),(o3.mods ms (fun k hk e=>by have:=(o3.blk_in k hk).1;omega)).base_le (by omega),below_setRow HB.out (Nat.le_refl _) _⟩
end
section
variable {w w':World}
structure RIn(o:Nat)(w:World)(b:List UInt8)(A:Option Addr)(c:Nat)(s:Int × Bool):Prop where
 blk:Blk w o 219 #[.slice A b.length c,.int .i64 s.1,.bool s.2]
 rb:RB w A b
 ne:0<b.length->∀k,A.map (·.block)=some k->k≠o
 pos:inB b s
 cap:b.length<=c/\c<=9223372036854775807
 len:b.length<=210000000000000
theorem RIn.below{o c:Nat}{b:List UInt8}{A:Option Addr}{s:Int × Bool}(h:RIn o w b A c s)(hb:Below w.heap.size w w'):RIn o w' b A c s:=⟨h.blk.kept hb,h.rb.below hb,h.ne,h.pos,h.cap,h.len⟩
theorem RIn.mods{o c:Nat}{b:List UInt8}{A:Option Addr}{s:Int × Bool}{T:Nat->Prop}(h:RIn o w b A c s)(m:Mods T w w')(h1:¬T o)(h2:0<b.length->∀k,A.map (·.block)=some k->¬T k):RIn o w' b A c s:=⟨h.blk.mods m h1,h.rb.mods m h2,h.ne,h.pos,h.cap,h.len⟩
theorem RIn.set1{o c:Nat}{b:List UInt8}{A:Option Addr}{s:Int × Bool}(h:RIn o w b A c s){n:Int}(hn:inB b (n,s.2)):RIn o (w.setCell ⟨o,1,none⟩ (.int .i64 n)) b A c (n,s.2)/\Mods (·=o) w (w.setCell ⟨o,1,none⟩ (.int .i64 n)):=by
 have m:=Mods.setCell (S:=(·=o)) (Mods.refl (·=o) w) ⟨o,1,none⟩ (.inl rfl) (.int .i64 n)
 exact⟨⟨h.blk.setCell 1 (.int .i64 n),h.rb.mods m (fun h0 k hk e=>h.ne h0 k hk e),h.ne,hn,h.cap,h.len⟩,m⟩
theorem RIn.set2{o c:Nat}{b:List UInt8}{A:Option Addr}{s:Int × Bool}(h:RIn o w b A c s)(x:Bool):RIn o (w.setCell ⟨o,2,none⟩ (.bool x)) b A c (s.1,x)/\Mods (·=o) w (w.setCell ⟨o,2,none⟩ (.bool x)):=by
 have m:=Mods.setCell (S:=(·=o)) (Mods.refl (·=o) w) ⟨o,2,none⟩ (.inl rfl) (.bool x)
 exact⟨⟨h.blk.setCell 2 (.bool x),h.rb.mods m (fun h0 k hk e=>h.ne h0 k hk e),h.ne,h.pos,h.cap,h.len⟩,m⟩
theorem refInNum(o:Nat)(b:List UInt8)(A:Option Addr)(c:Nat)(s:Int × Bool)(w:World)(h:RIn o w b A c s) :
  Calls Tryz.prog 251 #[.pointer (some ⟨o,0,none⟩)] w fun e w'=>e=.returned (.int .u64 (rnum b s).1)/\RIn o w' b A c (rnum b s).2/\Mods (·=o) w w':=by
 obtain⟨p,bad⟩:=s
 have c0:=h.blk.cell 0 (v:=.slice A b.length c) rfl
 have c1:=h.blk.cell 1 (v:=.int .i64 p) rfl
 have c2:=h.blk.cell 2 (v:=.bool bad) rfl
 have f1:=h.blk.free 1
 have f2:=h.blk.free 2
 have H0:=qh h
 cases bad with
 | true =>
  have e:rnum b (p,true)=(0,(p,true)):=rfl
  rw[e]
  clear h e
  go_enter Tryz.func251,Tryz.ntmps251
  go_wp2_with fail
  go_ret
  exact⟨rfl,H0.out,Mods.refl _ _⟩
 | false =>
  have hp:=h.pos
  have hlen:=h.len
  have NM:=qh (fun n=>refNum A c b p (w.drewN n) (h.rb.drewN n) h.len (by have:=hp.1;have:=hp.2;simp only at *;omega))
  obtain⟨q,hq⟩:∃q,q=numAt b p:=⟨_,rfl⟩
  have HQ:Hid (rnum b (p,false)=if q.2.2=0 then(q.1,(q.2.1,false)) else(0,(p,true))):=qh (by unfold rnum;rw[hq];rfl)
  have HOK:Hid (q.2.2=0->inB b (q.2.1,false)):=qh (fun h0=>by
   rw[hq] at h0 ⊢
   have k:=numAt_ok h0
   exact⟨by simp only;omega,by simp only;omega⟩)
  unfold NumE at NM
  rw[<-hq] at NM
  obtain⟨n,nx,er⟩:=q
  clear h hq hp
  by_cases h0:er=0
  ·subst h0
   rw[HQ.out,if_pos rfl]
   have HP:=HOK.out rfl
   clear HQ HOK
   go_enter Tryz.func251,Tryz.ntmps251
   go_wp2_with fail
   go_quiet ((go_at_call 258;exact Calls.quiet_of_same ((NM.out _).mono fun _ _ h=>⟨h.1,h.2.symm⟩)))
   go_wp2_with fail
   go_ret
   obtain⟨x1,x2⟩:=H0.out.set1 HP
   exact⟨rfl,x1.below (bdN (Below.refl _ _) _),x2.drewN _⟩
  ·rw[HQ.out,if_neg h0]
   have hb0:(er == 0)=false:=by simpa using h0
   clear HQ HOK
   go_enter Tryz.func251,Tryz.ntmps251
   go_wp2_with fail
   go_quiet ((go_at_call 258;exact Calls.quiet_of_same ((NM.out _).mono fun _ _ h=>⟨h.1,h.2.symm⟩)))
   go_wp2_with fail
   go_ret
   obtain⟨x1,x2⟩:=H0.out.set2 true
   exact⟨rfl,x1.below (bdN (Below.refl _ _) _),x2.drewN _⟩
theorem refInInt(o:Nat)(b:List UInt8)(A:Option Addr)(c:Nat)(s:Int × Bool)(w:World)(h:RIn o w b A c s)(m:Int)(hm:0<=m)(hm2:m<=1000000) :
  Calls Tryz.prog 230 #[.pointer (some ⟨o,0,none⟩),.int .u64 m] w fun e w'=>e=.returned (.int .i64 (rup b m s).1)/\RIn o w' b A c (rup b m s).2/\Mods (·=o) w w':=by
 have NU:=qh (refInNum o b A c s w h)
 obtain⟨hin,hr0,hr1⟩:=rnum_in h.pos
 obtain⟨q,hq⟩:∃q,q=rnum b s:=⟨_,rfl⟩
 have HQ:Hid (rup b m s=if m<q.1 then(0,(q.2.1,true)) else q):=qh (by unfold rup;rw[hq])
 rw[<-hq] at NU hr0 hr1
 obtain⟨n,s1⟩:=q
 clear h hq hin
 go_enter Tryz.func230,Tryz.ntmps230
 go_wp2_with fail
 refine NU.out.mono ?_
 rintro e w1 ⟨rfl,h1,m1⟩
 have H1:=qh h1
 have M1:=qh m1
 have c2:=h1.blk.cell 2 (v:=.bool s1.2) rfl
 have f2:=h1.blk.free 2
 clear h1 m1 NU
 simp only at hr0 hr1 ⊢
 by_cases hlt:m<n
 ·go_wp2_with fail
  go_ret
  obtain⟨x1,x2⟩:=H1.out.set2 true
  rw[HQ.out,if_pos hlt]
  exact⟨rfl,x1,M1.out.then x2⟩
 ·have hwn:IntKind.i64.wrap n=n:=IntWalk.i64_in _ (by omega)
  go_wp2_with fail
  go_ret
  rw[HQ.out,if_neg (by omega)]
  exact⟨rfl,H1.out,M1.out⟩
theorem rup_bad{b:List UInt8}{m:Int}{p:Int}(_hm:0<=m):rup b m (p,true)=(0,(p,true)):=by
 unfold rup rnum
 rw[if_pos rfl]
 simp[]
theorem rstep_bad{b:List UInt8}{x:List Int × (Int × Bool)}(h:x.2.2=true):(rstep b x).2.2=true:=by
 obtain⟨l,p,q⟩:=x
 simp only at h
 subst h
 unfold rstep
 rw[rup_bad (by decide)]
theorem ritr_bad{b:List UInt8}{x:List Int × (Int × Bool)}{k:Nat}(h:(ritr b k x).2.2=true):∀j,(ritr b (k+j) x).2.2=true
 | 0=>h
 | j+1=>rstep_bad (ritr_bad h j)
theorem refIds(o:Nat)(b:List UInt8)(A:Option Addr)(c:Nat)(s:Int × Bool)(w:World)(h:RIn o w b A c s) :
  Calls Tryz.prog 191 #[.pointer (some ⟨o,0,none⟩)] w fun e w'=>∃X xc l s',e=.returned (.slice X l.length xc)/\l.length<=16/\OV w' w.heap.size 3 X xc (ncells .i64 l)/\RIn o w' b A c s'/\(s'.2=false->rids b s=(l,s'))/\((rids b s).2.2=false->s'.2=false)/\Mods (·=o) w w':=by
 obtain⟨i0,hi0,hz0,hz1,hz2⟩:=info_parts int_info
 have UP:=qh (refInInt o b A c s w h 16 (by decide) (by decide))
 obtain⟨hin,hr0,hr1⟩:=rup_in h.pos (m:=16) (by decide)
 obtain⟨q,hq⟩:∃q,q=rup b 16 s:=⟨_,rfl⟩
 have HQ:Hid (rids b s=ritr b q.1.toNat ([],q.2)):=qh (by unfold rids;rw[hq])
 rw[<-hq] at UP hin hr0 hr1
 obtain⟨n,s1⟩:=q
 obtain⟨k0,rfl⟩:=Int.eq_ofNat_of_zero_le hr0
 have HIN:=qh hin
 have hlo:=h.blk.lt
 have HAB:Hid (0<b.length->∀k,A.map (·.block)=some k->k<w.heap.size):=qh (fun h0=>h.rb.blk_lt h0)
 clear h hq hin
 go_enter Tryz.func191,Tryz.ntmps191
 go_wp2_with fail
 refine UP.out.mono ?_
 rintro e w1 ⟨rfl,h1,m1⟩
 have H1:=qh h1
 have M1:=qh m1
 clear h1 m1 UP
 simp only at hr1 ⊢
 have hk16:k0<=16:=by omega
 go_wp2_with fail
 go_loopw [3,5] (fun s3 s5 wr=>∃(k:Nat) (X:Option Addr) (xc n3:Nat),k<=k0/\s5=.int .i64 (k:Int)/\n3=(ritr b k ([],s1)).1.length/\s3=.slice X n3 xc/\Hid (OV wr w.heap.size 3 X xc (ncells .i64 (ritr b k ([],s1)).1))/\Hid (RIn o wr b A c (ritr b k ([],s1)).2)/\Hid (Mods (·=o) w wr))
  (fun _ s5 _=>k0 - (intOf s5).toNat)
 case atStart=>exact⟨0,none,0,0,Nat.zero_le _,rfl,rfl,rfl,qh (OV.nil _ _ _),H1,M1⟩
 case round =>
  obtain⟨k,X,xc,n3,hk,rfl,hn3,rfl,HO,HI,HM⟩:=hrel
  have d2:=HI.out.blk.cell 2 (v:=.bool (ritr b k ([],s1)).2.2) rfl
  have hnl:n3=k:=by rw[hn3,(ritr_in (x:=([],s1)) HIN.out k).2];simp
  by_cases hlt:k<k0
  ·cases hbad:(ritr b k ([],s1)).2.2 with
   | true =>
    rw[hbad] at d2
    have HBD:=qh hbad
    have HHN:=qh (And.intro hn3 hnl)
    clear hbad hn3 hnl
    go_wp2_with fail
    go_ret
    have e:=HQ.out
    simp only[Int.toNat_natCast] at e
    have hb2:=HBD.out
    have hb3:=ritr_bad hb2 (k0 - k)
    rw[show k+(k0 - k)=k0 by omega] at hb3
    exact⟨X,xc,(ritr b k ([],s1)).1,(ritr b k ([],s1)).2,by rw[HHN.out.1];rfl,by rw[<-HHN.out.1,HHN.out.2];omega,HO.out,HI.out,fun e=>absurd e (by rw[hb2];simp),fun e2=>absurd e2 (by rw[e,hb3];simp),HM.out⟩
   | false =>
    rw[hbad] at d2
    have UK:=qh (refInInt o b A c _ wr HI.out 16 (by decide) (by decide))
    have hsz:=HM.out.size
    obtain⟨l,hl⟩:∃l,l=(ritr b k ([],s1)).1:=⟨_,rfl⟩
    obtain⟨r,hr⟩:∃r,r=rup b 16 (ritr b k ([],s1)).2:=⟨_,rfl⟩
    have HS:Hid (ritr b (k+1) ([],s1)=(l++[r.1],r.2)):=qh (by rw[hl,hr];rfl)
    rw[<-hr] at UK
    rw[<-hl] at HO hn3
    have hll:(ncells .i64 l).length=n3:=by rw[ncells_length,hn3]
    rw[<-hll]
    have HLL:=qh (And.intro hll hnl)
    clear hl hr HI hll hn3 hnl hbad
    go_wp2_with fail
    refine UK.out.mono ?_
    rintro e w2 ⟨rfl,h2,m2⟩
    have hol:=HO.out.blk_lt
    have o2:=HO.out.mods m2 (fun x hx e=>by subst e;have:=(hol x hx).1;omega)
    have H2:=qh h2
    have M2:=qh (HM.out.then m2)
    have hsz2:=m2.size
    have O2:=qh o2
    clear h2 m2 o2 HO HM UK hol d2
    go_wp2_with (at_builtin;refine wp_appendV _ rfl _ _ 31 3 rfl Tryz.underlying31 hi0 hz0 hz1 hz2 rfl w.heap.size X (some ⟨w2.heap.size,0,none⟩) xc 1 (ncells .i64 l) [.int .i64 r.1] rfl rfl (O2.out.below ((Below.refl _ _).alloc (Nat.le_refl _) _)) (RV.one _ _ _) (by simp[Value.oneCell']) (by have:=HLL.out.1;have:=HLL.out.2;simp;omega) (by have:=HLL.out.1;have:=HLL.out.2;simp;omega) (by simp;omega) ?_;intro ys A3 c3 w3 hys hys1 hys2 ho3 hg3 _;have HYS:=qh hys.out;have HO3:=qh ho3;have HG3:=qh hg3;have hyl:ys.length=(ncells .i64 l).length+1:=(by simpa using Nat.le_antisymm hys1 hys2);clear hys ho3 hg3 hys1 hys2)
    go_roundw
    case rel =>
     have ha:Below w2.heap.size w2 (w2.alloc (.cells #[.int .i64 r.1] 3)):=(Below.refl _ _).alloc (Nat.le_refl _) _
     have mg:Mods (fun x=>w.heap.size<=x) w2 w3:=(Mods.of_below ha).trans (Mods.of_grown (S:=fun x=>w.heap.size<=x) HG3.out (fun x e=>by
      rw[own_blk] at e
      exact(O2.out.blk_lt x e).1)) (fun i e=>.inl e)
     refine⟨k+1,A3,c3,(ncells .i64 l).length+1,by omega,by go_num,by rw[HS.out,ncells_length];simp,rfl,qh ?_,qh ?_,qh (M2.out.trans mg (fun i e=>.inr e))⟩
     ·have e:=HO3.out
      rw[HYS.out] at e
      rw[HS.out]
      simpa [ncells] using e
     ·rw[HS.out]
      exact H2.out.mods mg (by omega) (fun h0 x hx e=>by have:=HAB.out h0 x hx;omega)
    case measure=>simp[intOf];omega
  ·obtain rfl:k=k0:=by omega
   have HHN:=qh (And.intro hn3 hnl)
   clear hn3 hnl d2
   go_wp2_with fail
   go_ret
   have e:=HQ.out
   simp only[Int.toNat_natCast] at e
   exact⟨X,xc,(ritr b k ([],s1)).1,(ritr b k ([],s1)).2,by rw[HHN.out.1];rfl,by rw[<-HHN.out.1,HHN.out.2];omega,HO.out,HI.out,fun _=>e,(fun e2=>by rw[e] at e2;exact e2),HM.out⟩
end
theorem rids_bad{b:List UInt8}{s:Int × Bool}(h:s.2=true):(rids b s).2.2=true:=by
 obtain⟨p,q⟩:=s
 simp only at h
 subst h
 unfold rids
 rw[rup_bad (by decide)]
 rfl
abbrev conf0:Array Value:=#[.slice none 0 0,.slice none 0 0]
section
variable {w w':World}
theorem refInConf(o:Nat)(b:List UInt8)(A:Option Addr)(c:Nat)(s:Int × Bool)(w:World)(h:RIn o w b A c s) :
  Calls Tryz.prog 146 #[.pointer (some ⟨o,0,none⟩)] w fun e w'=>∃V vc L lc v l s',e=.returned (.agg #[.slice V v.length vc,.slice L l.length lc])/\v.length<=16/\l.length<=16/\OV w' w.heap.size 3 V vc (ncells .i64 v)/\OV w' w.heap.size 3 L lc (ncells .i64 l)/\RIn o w' b A c s'/\(s'.2=false->v=confV b s/\l=confL b s/\s'=confS b s)/\((confS b s).2=false->s'.2=false)/\Mods (·=o) w w':=by
 have hal:Below w.heap.size w ((w.alloc (.cells conf0 33)).alloc (.cells conf0 33)):=((Below.refl _ _).alloc (Nat.le_refl _) _).alloc (by simp) _
 have hws1:(w.alloc (.cells conf0 33)).heap.size=w.heap.size+1:=by simp
 have hws:((w.alloc (.cells conf0 33)).alloc (.cells conf0 33)).heap.size=w.heap.size+2:=by simp
 have z1:=(Blk.new w conf0 33).below (((Below.refl (w.heap.size+1) _).alloc (by simp) (.cells conf0 33))) (Nat.lt_succ_self _)
 have z2:=Blk.new (w.alloc (.cells conf0 33)) conf0 33
 rw[hws1] at z2
 have hlo:=h.blk.lt
 have ms0:=(Mods.refl (·=w.heap.size+1) ((w.alloc (.cells conf0 33)).alloc (.cells conf0 33))).setRow (w.heap.size+1) (.inl rfl) conf0
 have y1:=z1.mods ms0 (by omega)
 have y2:=z2.setRow conf0
 have hb0:=below_setRow (g:=w.heap.size+1) hal (by omega) conf0
 have hsz0:=ms0.size
 obtain⟨w0,hw0⟩:∃w0,w0=((w.alloc (.cells conf0 33)).alloc (.cells conf0 33)).setRow (w.heap.size+1) conf0:=⟨_,rfl⟩
 rw[<-hw0] at y1 y2 hb0 hsz0
 rw[hws] at hsz0
 have HW0:=qh hw0.symm
 have Z2:=qh z2
 have I1:=qh (refIds o b A c s w0 (h.below hb0))
 have H0:=qh (And.intro y1 (And.intro y2 hb0))
 have HAB:Hid (0<b.length->∀k,A.map (·.block)=some k->k<w.heap.size):=qh (fun h0=>h.rb.blk_lt h0)
 clear hal hws1 z1 z2 ms0 y1 y2 hb0 hw0 h
 unfold conf0 at *
 go_enter Tryz.func146,Tryz.ntmps146
 go_wp2_with (refine wpList_store_row rfl 33 (.tmp 3) (.tmp 4) rfl (w.heap.size+1) #[.slice none 0 0,.slice none 0 0] rfl rfl _ _ Z2.out conf_size rfl (by simp[Value.oneCell']) ?_;rw[HW0.out])
 refine I1.out.mono ?_
 rintro e w1 ⟨V,vc,v,s1,rfl,hvl,o1,h1,p1,p2,m1⟩
 obtain⟨y1,y2,hb0⟩:=H0.out
 have q1:=y1.mods m1 (by omega)
 have q2:=y2.mods m1 (by omega)
 have c0:=q2.cell 0 rfl
 have f0:=q2.free 0
 have hm1:=m1.size
 have r1:=q1.setCell_other (a:=⟨w.heap.size+1,0,none⟩) (.slice V v.length vc) (by simp)
 have r2:Blk (w1.setCell ⟨w.heap.size+1,0,none⟩ (.slice V v.length vc)) (w.heap.size+1) 33 #[.slice V v.length vc,.slice none 0 0]:=q2.setCell 0 (.slice V v.length vc)
 have mc:=Mods.setCell (S:=(·=w.heap.size+1)) (Mods.refl (·=w.heap.size+1) w1) ⟨w.heap.size+1,0,none⟩ (.inl rfl) (.slice V v.length vc)
 have t1:=h1.mods mc (by omega) (fun h0 k hk e=>by have:=HAB.out h0 k hk;omega)
 have u1:=o1.mods mc (fun k hk e=>by have:=(o1.blk_lt k hk).1;omega)
 have M1:=((Mods.of_below (S:=(·=o)) hb0).then m1).trans mc (fun b e=>.inr (by omega))
 have hmc:=mc.size
 obtain⟨w2,hw2⟩:∃w2,w2=w1.setCell ⟨w.heap.size+1,0,none⟩ (.slice V v.length vc):=⟨_,rfl⟩
 rw[<-hw2] at r1 r2 t1 u1 M1 hmc
 have HW2:=qh hw2.symm
 have I2:=qh (refIds o b A c s1 w2 t1)
 have H2:=qh (And.intro r1 (And.intro r2 (And.intro u1 (And.intro M1 (And.intro p1 p2)))))
 clear I1 H0 y1 y2 hb0 q1 q2 o1 h1 m1 r1 r2 mc t1 u1 M1 hw2 p1 p2 HW0
 go_wp2_with (go_at_call 191;rw[HW2.out];refine I2.out.mono ?_)
 rintro e w3 ⟨L,lc,l,s2,rfl,hll,o2,h2,p2,p3,m2⟩
 obtain⟨r1,r2,u1,M1,p1,p4⟩:=H2.out
 have q1:=r1.mods m2 (by omega)
 have q2:=r2.mods m2 (by omega)
 have c1:=q2.cell 1 rfl
 have f1:=q2.free 1
 have hm2:=m2.size
 have x1:=qh (q1.setCell_other (a:=⟨w.heap.size+1,1,none⟩) (.slice L l.length lc) (by simp))
 have x2:Hid (Blk (w3.setCell ⟨w.heap.size+1,1,none⟩ (.slice L l.length lc)) (w.heap.size+1) 33 #[.slice V v.length vc,.slice L l.length lc]):=qh (q2.setCell 1 (.slice L l.length lc))
 have m12:=(m2.mono (T:=fun k=>k=o\/k=w.heap.size+1\/k=w.heap.size) (fun b _ e=>.inl e)).setCell ⟨w.heap.size+1,1,none⟩ (.inl (.inr (.inl rfl))) (.slice L l.length lc)
 have m3:=Mods.setCell (S:=fun k=>k=w.heap.size+1\/k=w.heap.size) (Mods.refl _ w3) ⟨w.heap.size+1,1,none⟩ (.inl (.inl rfl)) (.slice L l.length lc)
 have H3:=qh (And.intro p3 (And.intro p4 (And.intro u1 (And.intro M1 (And.intro p1 (And.intro o2 (And.intro h2 (And.intro p2 (And.intro m12 m3)))))))))
 clear I2 H2 r1 r2 u1 M1 p1 p4 q1 q2 o2 h2 p2 p3 m2 m12 m3 HW2 c0 f0
 go_wp2_with (first
  | (refine wpList_load_row rfl 33 (.tmp 3) rfl (w.heap.size+1) rfl 33 #[.slice V v.length vc,.slice L l.length lc] (0,0) _ x2.out Tryz.underlying33 rfl conf_size ?_)
  | (refine wpList_store_row rfl 33 (.tmp 2) (.tmp 11) rfl w.heap.size #[.slice V v.length vc,.slice L l.length lc] rfl rfl _ _ x1.out conf_size rfl (by simp[Value.oneCell']) ?_))
 have Y:=x1.out.setRow #[.slice V v.length vc,.slice L l.length lc]
 refine bodyPost_ret (v:=.agg #[.slice V v.length vc,.slice L l.length lc]) (results_cell_row rfl _ _ w.heap.size 33 #[.slice V v.length vc,.slice L l.length lc] (0,0) _ rfl Y Tryz.underlying33 rfl conf_size) rfl ?_
 obtain⟨p3,p4,u1,M1,p1,o2,h2,p2,m12,m3⟩:=H3.out
 have m12':=m12.setRow w.heap.size (.inl (.inr (.inr rfl))) #[.slice V v.length vc,.slice L l.length lc]
 have m3':=m3.setRow w.heap.size (.inl (.inr rfl)) #[.slice V v.length vc,.slice L l.length lc]
 refine⟨V,vc,L,lc,v,l,s2,rfl,hvl,hll,(u1.mods m12' (fun k hk e=>by have:=(u1.blk_lt k hk).1;omega)).base_le (by omega),(o2.mods m3' (fun k hk e=>by have:=(o2.blk_lt k hk).1;omega)).base_le (by omega),?_,fun e=>?_,fun e=>?_,M1.trans m12' (fun b e=>by omega)⟩
 ·exact h2.mods m3' (by omega) (fun h0 k hk e=>by have:=HAB.out h0 k hk;omega)
 ·have e2:=p2 e
  cases hb1:s1.2 with
  | true=>have:=rids_bad (b:=b) hb1;rw[e2] at this;simp only at this;rw[e] at this;cases this
  | false =>
   have e1:=p1 hb1
   have k1:confV b s=v:=by unfold confV;rw[e1]
   have k2:confL b s=l:=by unfold confL;rw[e1];show(rids b s1).1=l;rw[e2]
   have k3:confS b s=s2:=by unfold confS;rw[e1];show(rids b s1).2=s2;rw[e2]
   exact⟨k1.symm,k2.symm,k3.symm⟩
 ·have h1:(rids b s).2.2=false:=by
   cases hb1:(rids b s).2.2 with
   | false=>rfl
   | true=>have:=rids_bad (b:=b) hb1;unfold confS at e;rw[e] at this;cases this
  have e1:=p1 (p4 h1)
  unfold confS at e
  rw[e1] at e
  exact p3 e
theorem refInWhole(o:Nat)(b:List UInt8)(A:Option Addr)(c:Nat)(s:Int × Bool)(w:World)(h:RIn o w b A c s)(r:Bool)(hr:(!s.2 && decide (s.1=(b.length:Int)))=r) :
  Calls Tryz.prog 147 #[.pointer (some ⟨o,0,none⟩)] w fun e w'=>e=.returned (.bool r)/\Below w.heap.size w w':=by
 obtain⟨p,bad⟩:=s
 have c0:=h.blk.cell 0 (v:=.slice A b.length c) rfl
 have c1:=h.blk.cell 1 (v:=.int .i64 p) rfl
 have c2:=h.blk.cell 2 (v:=.bool bad) rfl
 have HR:=qh hr
 clear h hr
 go_enter Tryz.func147,Tryz.ntmps147
 cases bad with
 | true =>
  go_wp2_with fail
  go_quiet (fail)
  go_wp2_with fail
  go_ret
  exact⟨by rw[<-HR.out];rfl,bdN (Below.refl _ _) _⟩
 | false =>
  go_wp2_with fail
  go_quiet (fail)
  go_wp2_with fail
  go_ret
  exact⟨by rw[<-HR.out];refine ret_boolB ?_;by_cases e:p=(b.length:Int)<;>simp[e],bdN (Below.refl _ _) _⟩
end
end Go.Proofs.YtobdmlejabjmiaaGreatDoor
