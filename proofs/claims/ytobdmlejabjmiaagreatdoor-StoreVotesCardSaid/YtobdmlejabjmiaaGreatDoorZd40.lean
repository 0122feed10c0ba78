/- Made small by a program. -/
import Derived.Test.YtobdmlejabjmiaaGreatDoorZd39
set_option maxRecDepth 20000
set_option maxHeartbeats 8000000
namespace Go.Proofs.YtobdmlejabjmiaaGreatDoor
open Go.RowKit
section
variable {B g:Nat} {S S' F F' T:Nat->Prop} {w w':World} {z:SP} {x:SV} {D D':DSt}
theorem ST.own_lt(h:ST B S F w g z x D){b:Nat}(hb:z.own x.es b):b<w.heap.size:=by
 rcases hb with hb | hb | hb | hb | ⟨y,hy,hb⟩
 ·exact(h.rv.blk_lt b hb).2
 ·exact(h.rl.blk_lt b hb).2
 ·exact(h.rd.blk_in b hb).2
 ·exact(h.re.row.blk_lt b hb).2
 ·exact((h.re.ob y hy).blk_in b hb).2
theorem ST.own_ne{c:Nat}{T:TypeId}{cs:Array Value}(h:ST B S F w g z x D)(hc:Blk w c T cs)(h1:T≠3)(h2:T≠5)(h3:T≠TEn){b:Nat}(hb:z.own x.es b):b≠c:=by
 intro e
 subst e
 rcases hb with hb | hb | hb | hb | ⟨y,hy,hb⟩
 ·exact h.rv.ne_blk hc h1 hb
 ·exact h.rl.ne_blk hc h1 hb
 ·exact OB.ne_blk h.rd hc h2 hb
 ·exact h.re.row.ne_var hc (fun e=>h3 e.symm) hb
 ·exact OB.ne_blk (h.re.ob y hy) hc h2 hb
theorem ST.carry{lg':Lg}(h:ST B S F w g z x D)(hB:B<=w.heap.size)(hd:DI S' w' g D')(hn:∀b,S' b->S b\/w.heap.size<=b)(hf:∀b,F' b->F b\/w.heap.size<=b)(m:Mods T w w')(hq:¬T z.q)(hps:¬T z.ps)(hvs:∀b,z.Vs.map (·.block)=some b\/z.Os.map (·.block)=some b->¬T b)(hown:∀b,z.own x.es b->¬T b)(hlr:LR B S' F' w' z.pl g lg' D'):ST B S' F' w' g z { x with lg:=lg' } D' where
 blk:=h.blk.mods m hq
 ss:=h.ss.carry hB hd hn m hps (fun b hb=>hvs b (.inl hb)) (fun b hb=>hvs b (.inr hb))
 lr:=hlr
 rv:=h.rv.mods m (fun b hb=>hown b (.inl hb))
 rl:=h.rl.mods m (fun b hb=>hown b (.inr (.inl hb)))
 rd:=h.rd.mods m (fun b hb=>hown b (.inr (.inr (.inl hb))))
 re:=⟨h.re.row.mods m (fun b hb=>hown b (.inr (.inr (.inr (.inl hb))))),fun y hy=>(h.re.ob y hy).mods m (fun b hb=>hown b (.inr (.inr (.inr (.inr ⟨y,hy,hb⟩)))))⟩
 qS:=fun e=>(hn _ e).elim h.qS (fun e=>by have:=h.blk.lt;omega)
 qF:=fun e=>(hf _ e).elim h.qF (fun e=>by have:=h.blk.lt;omega)
 sF:=fun e=>(hf _ e).elim h.sF (fun e=>by have:=h.ss.blk.lt;omega)
 vF:=fun b hb e=>(hf _ e).elim (h.vF b hb) (fun e=>by
  rcases hb with hb | hb
  ·have:=(h.ss.val.blk_in b hb).2;omega
  ·have:=(h.ss.old.blk_lt b hb).2;omega)
 own:=fun b hb=>⟨fun e=>(hn _ e).elim (h.own b hb).1 (fun e=>by have:=h.own_lt hb;omega),fun e=>(hf _ e).elim (h.own b hb).2 (fun e=>by have:=h.own_lt hb;omega)⟩
 qB:=h.qB
theorem ST.below(h:ST B S F w g z x D)(hB:B<=w.heap.size)(hb:Below w.heap.size w w'):ST B S F w' g z x D:=by
 obtain⟨Z,Y,SA,sc,RA,rc,hx⟩:=h.lr
 exact h.carry (T:=fun _=>False) hB (hx.lb.di.below hb) (fun b hb=>.inl hb) (fun b hb=>.inl hb) (Mods.of_below hb) (fun e=>e) (fun e=>e) (fun _ _ e=>e) (fun _ _ e=>e) ⟨Z,Y,SA,sc,RA,rc,hx.below hb⟩
theorem ST.turn{ht:Nat}{hv:Int}{dn:Bool}(h:ST B S F w g z x D)(hB:B<=w.heap.size)(m:Mods (·=z.q) w w')(hb:Blk w' z.q 72 (storeL g z.ph z.ps z.pl ht hv x.i x.t x.v x.l x.d z.V z.vc z.L z.lc z.A z.ac z.E x.es.length z.ec dn)):ST B S F w' g z { x with ht:=ht,hv:=hv,dn:=dn } D:=by
 obtain⟨Z,Y,SA,sc,RA,rc,hx⟩:=h.lr
 have hown:=fun b hb=>h.own_ne h.blk (by decide) (by decide) (by decide) (b:=b) hb
 exact
 {blk:=hb
  ss:=h.ss.keepq m h.blk h.qS
  lr:=⟨Z,Y,SA,sc,RA,rc,hx.mods m (fun b hb e=>h.qF (by rw[<-e];exact hb)) (hx.lb.di.mods m (fun b _ hs e=>h.qS (by rw[<-e];exact hs))) (fun b hb=>.inl hb) hB⟩
  rv:=h.rv.mods m (fun b hb=>hown b (.inl hb))
  rl:=h.rl.mods m (fun b hb=>hown b (.inr (.inl hb)))
  rd:=h.rd.mods m (fun b hb=>hown b (.inr (.inr (.inl hb))))
  re:=⟨h.re.row.mods m (fun b hb=>hown b (.inr (.inr (.inr (.inl hb))))),fun y hy=>(h.re.ob y hy).mods m (fun b hb=>hown b (.inr (.inr (.inr (.inr ⟨y,hy,hb⟩)))))⟩
  qS:=h.qS
  qF:=h.qF
  sF:=h.sF
  vF:=h.vF
  own:=h.own
  qB:=h.qB }
theorem ST.saved{sh':Sl}{V3 O3:Option Addr}{c3 d3:Nat}(h:ST B S F w g z x D)(hB:B<=w.heap.size)(hpc:∃cs,Blk w z.ph TS cs)(r:SR B S' w' z.ph g sh' D' V3 c3 O3 d3)(hn:∀b,S' b->S b\/w.heap.size<=b)(m:Mods (fun b=>S b\/b=z.ph) w w')(hF:¬F z.ph)(hp:z.ph≠z.ps):ST B S' F w' g z x D':=by
 obtain⟨Z,Y,SA,sc,RA,rc,hx⟩:=h.lr
 obtain⟨cs,hpc⟩:=hpc
 refine h.carry (T:=fun b=>S b\/b=z.ph) hB r.di hn (fun b hb=>.inl hb) m (fun e=>e.elim h.qS (h.blk.ne hpc (by decide))) (fun e=>e.elim h.ss.ps (fun e=>hp e.symm)) ?_ (fun b hb e=>e.elim (h.own b hb).1 (h.own_ne hpc (by decide) (by decide) (by decide) hb)) ⟨Z,Y,SA,sc,RA,rc,hx.mods m (fun b hb e=>e.elim (hx.lb.dis b hb) (fun e=>hF (by rw[<-e];exact hb))) r.di hn hB⟩
 rintro b (hb | hb) e
 ·exact e.elim (h.ss.vs b hb) (fun e=>OB.ne_blk h.ss.val hpc (by decide) (by rw[hb,e]))
 ·exact e.elim (h.ss.os b hb) (fun e=>h.ss.old.ne_blk hpc (by decide) (by rw[hb,e]))
theorem storeAliveE{q:Nat}{cs:Array Value}(dn:Bool)(hq:Blk w q 72 cs)(h:cs[12]?=some (.bool dn)):Calls Tryz.prog 35 #[.pointer (some ⟨q,0,none⟩)] w fun e w'=>e=.returned (.int .i64 (if dn=true then 11 else 0))/\w=w':=by
 have c12:=hq.cell 12 h
 clear hq h
 cases dn with
 | true =>
  go_enter Tryz.func35,Tryz.ntmps35
  go_wp2_with fail
  go_ret
  exact⟨rfl,rfl⟩
 | false =>
  go_enter Tryz.func35,Tryz.ntmps35
  go_wp2_with fail
  go_ret
  exact⟨rfl,rfl⟩
theorem storeDidE{q:Nat}{cs:Array Value}(k:Int)(hq:Blk w q 72 cs)(h:cs[12]?=some (.bool false)):Calls Tryz.prog 37 #[.pointer (some ⟨q,0,none⟩),.int .i64 k] w fun e w'=>e=.returned (.int .i64 k)/\w'=w.setCell ⟨q,12,none⟩ (.bool (decide (k=11))):=by
 have c12:=hq.cell 12 h
 have f12:=hq.free 12
 clear hq h
 by_cases hk:k=11
 ·subst hk
  go_enter Tryz.func37,Tryz.ntmps37
  go_wp2_with fail
  go_ret
  exact⟨rfl,rfl⟩
 ·have hkb:(k == 11)=false:=by simpa using hk
  rw[decide_eq_false hk]
  clear hk
  go_enter Tryz.func37,Tryz.ntmps37
  go_wp2_with fail
  go_ret
  exact⟨rfl,rfl⟩
theorem storeSaveHardT{sh:Sl}{Vh Oh:Option Addr}{cvh coh:Nat}(hst:ST B S F w g z x D)(hsh:SR B S w z.ph g sh D Vh cvh Oh coh)(hpF:¬F z.ph)(hpp:z.ph≠z.ps)(hdn:x.dn=false)(hB:B<=w.heap.size)(hE:SEnv B w)(t5:Nat)(v5:Int)(ht:t5<=18446744073709551615)(hv5:hardB v5=true)
  (h1:sh.down=false) (h2:sh.last+1<18446744073709551616) (h3:D.cnt<=1000) (h4:D.files.length<=1000) (h5:sh.old.length<=1000) (hok:(saveS sh D (hardBytes t5 v5)).1=0) :
  Calls Tryz.prog 14 #[.pointer (some ⟨z.q,0,none⟩),.agg #[.int .u64 (t5:Int),.int .i64 v5]] w fun e w'=>e=.returned (.int .i64 0)/\∃S',ST B S' F w' g z { x with ht:=t5,hv:=v5 } (saveS sh D (hardBytes t5 v5)).2.2/\(∀b,S' b->S b\/w.heap.size<=b)/\Mods (fun b=>S b\/b=z.ph\/b=z.q) w w':=by
 have hal:Below w.heap.size w (w.alloc (.cells #[.int .u64 (t5:Int),.int .i64 v5] 25)):=(Below.refl _ _).alloc (Nat.le_refl _) _
 have Z:=qh (Blk.new w #[.int .u64 (t5:Int),.int .i64 v5] 25)
 have hs0:=hst.below hB hal
 obtain⟨q,hq⟩:∃q,q=z.q:=⟨_,rfl⟩
 obtain⟨p,hp⟩:∃p,p=z.ph:=⟨_,rfl⟩
 have Q0:=hs0.blk
 rw[hdn,<-hq,<-hp] at Q0
 have AL:=qh (storeAlive Q0 rfl)
 have MH:=qh (msgHard t5 v5 (w.alloc (.cells #[.int .u64 (t5:Int),.int .i64 v5] 25)) ht true hv5)
 have HST:=qh hs0
 have hsr0:=hsh.below hal
 rw[<-hp] at hsr0 hpF hpp
 have HSR:=qh hsr0
 have HE:=qh (hE.below (hal.mono hB))
 have HAL:=qh hal
 have hwq:=hst.blk.lt
 rw[<-hq] at hwq
 have hwp:=hsh.blk.lt
 rw[<-hp] at hwp
 have HP:=qh (And.intro hpF (And.intro hpp (And.intro hq (And.intro hp hdn))))
 have HSS:=qh (And.intro h1 (And.intro h2 (And.intro h3 (And.intro h4 h5))))
 have HOK:=qh hok
 have HBN:=qh hsh.di.bnd
 rw[<-hq,<-hp]
 clear hal Q0 hst hsh hE hpF hpp hs0 hsr0 h1 h2 h3 h4 h5 hok hq hp hdn
 go_enter Tryz.func14,Tryz.ntmps14
 go_wp2_with (go_at_call 35;refine AL.out.mono ?_)
 rintro e w1 ⟨rfl,rfl⟩
 go_wp2_with fail
 refine MH.out.mono ?_
 rintro e w2 ⟨A,n,c,k,rfl,b2,p1,p2⟩
 obtain⟨rfl,rfl,ho⟩:=p2 rfl
 have hlen:=hardBytes_len t5 v5
 have hsz2:=(belowTrans HAL.out b2).size
 have hsz1:=HAL.out.size
 have S2:=HSR.out.below b2
 have hst2:=HST.out.below (Nat.le_trans hB hsz1) b2
 have Q2:=hst2.blk
 rw[<-HP.out.2.2.1,<-HP.out.2.2.2.1,HP.out.2.2.2.2] at Q2
 have hbl:=ho.blk_in
 have sv:=slotSave S2 (Nat.le_trans hB hsz2) (HE.out.below (b2.mono (Nat.le_trans hB hsz1))) HSS.out.1 (hardBytes t5 v5) A c ho.rb (fun _ b hb=>by
  have h1:=(hbl b hb).1
  exact⟨fun e=>by have:=HBN.out b e;omega,by omega⟩) (by omega) HSS.out.2.1 HSS.out.2.2.1 HSS.out.2.2.2.1 HSS.out.2.2.2.2
 rw[HOK.out] at sv
 have SV:=qh sv
 have Z2:=qh (Z.out.kept b2)
 have c9:=Q2.cell 9 (v:=.pointer (some ⟨p,0,none⟩)) rfl
 have G2:=qh (And.intro hst2 (And.intro (belowTrans HAL.out b2) S2))
 clear MH b2 p1 p2 ho hbl S2 Q2 HST HSR Z AL hst2 sv
 go_wp2_with fail
 refine SV.out.mono ?_
 rintro e w3 ⟨rfl,S3,V3,cv3,O3,co3,r3,k3,m3,_⟩
 obtain⟨hst2,hb2,S2⟩:=G2.out
 rw[HP.out.2.2.2.1] at r3 m3 S2
 have hst3:=hst2.saved (Nat.le_trans hB hsz2) ⟨_,S2.blk⟩ r3 k3 m3 (by rw[<-HP.out.2.2.2.1];exact HP.out.1) (by rw[<-HP.out.2.2.2.1];exact HP.out.2.1)
 have Q3:=hst3.blk
 rw[<-HP.out.2.2.1,HP.out.2.2.2.2] at Q3
 have Z3:=qh (Z2.out.mods m3 (fun e=>e.elim (fun e=>by have:=HBN.out _ e;omega) (fun e=>by rw[<-HP.out.2.2.2.1] at e;omega)))
 have DD:=qh (storeDid Q3 rfl)
 have G3:=qh (And.intro hst3 (And.intro ((Mods.of_below (S:=fun b=>S b\/b=z.ph) hb2).then m3) (fun b e=>(k3 b e).imp id (fun e=>Nat.le_trans hsz2 e))))
 have hw3:=m3.size
 clear SV hst2 hb2 S2 G2 hst3 Q3 r3 k3 m3 Z2 c9
 go_wp2_with fail
 refine DD.out.mono ?_
 rintro e w4 ⟨rfl,hw4⟩
 obtain⟨hst3,M3,K3⟩:=G3.out
 have Q3:=hst3.blk
 rw[HP.out.2.2.2.2] at Q3
 have m4:Mods (·=z.q) w3 w4:=by
  rw[hw4,HP.out.2.2.1]
  exact(Mods.refl (·=z.q) w3).setCell ⟨z.q,12,none⟩ (.inl rfl) _
 have Q4:Blk w4 z.q 72 (storeL g z.ph z.ps z.pl x.ht x.hv x.i x.t x.v x.l x.d z.V z.vc z.L z.lc z.A z.ac z.E x.es.length z.ec false):=by rw[hw4,HP.out.2.2.1];exact Q3.setCell 12 (.bool false)
 have Z4:Blk w4 w.heap.size 25 #[.int .u64 (t5:Int),.int .i64 v5]:=Z3.out.mods m4 (by rw[<-HP.out.2.2.1];omega)
 have z0:=Z4.cell 0 (v:=.int .u64 (t5:Int)) rfl
 have z1:=Z4.cell 1 (v:=.int .i64 v5) rfl
 have m5:Mods (·=z.q) w4 (w4.setCells z.q 1 [.int .u64 (t5:Int),.int .i64 v5]):=((Mods.refl (·=z.q) w4).setCell ⟨z.q,1,none⟩ (.inl rfl) (.int .u64 (t5:Int))).setCell ⟨z.q,1+1,none⟩ (.inl rfl) (.int .i64 v5)
 have Q5:Blk (w4.setCells z.q 1 [.int .u64 (t5:Int),.int .i64 v5]) z.q 72 (storeL g z.ph z.ps z.pl t5 v5 x.i x.t x.v x.l x.d z.V z.vc z.L z.lc z.A z.ac z.E x.es.length z.ec false):=blk_setCells2 Q4 1 (.int .u64 (t5:Int)) (.int .i64 v5)
 have hst5:=hst3.turn (by omega) (m4.then m5) Q5
 have M5:Mods (fun b=>S b\/b=z.ph\/b=z.q) w (w4.setCells z.q 1 [.int .u64 (t5:Int),.int .i64 v5]):=(M3.mono (T:=fun b=>S b\/b=z.ph\/b=z.q) (fun b _ e=>e.elim .inl (fun e=>.inr (.inl e)))).trans (m4.then m5) (fun b e=>.inl (.inr (.inr e)))
 rw[<-HP.out.2.2.1] at Q4
 have TH:=qh (there_blk Q4 1 2 (by simp))
 have G5:=qh (And.intro hst5 (And.intro K3 M5))
 clear DD hw4 Q3 M3 K3 hst3 G3 m4 Q4 Z4 Z3 m5 Q5 hst5 M5
 rw[<-HP.out.2.2.1] at G5
 go_wp2_with (refine wpList_store_mid rfl 25 (.tmp 35) (.tmp 32) rfl q 1 #[.int .u64 (t5:Int),.int .i64 v5] rfl rfl TH.out hard_size (by simp[Value.oneCell']) ?_;simp only[];generalize w4.setCells q 1 [.int .u64 (t5:Int),.int .i64 v5]=w5 at *)
 go_ret
 obtain⟨g1,g2,g3⟩:=G5.out
 have e:({ ht:=t5,hv:=v5,i:=x.i,t:=x.t,v:=x.v,l:=x.l,d:=x.d,es:=x.es,ss:=x.ss,lg:=x.lg,dn:=false }:SV)={ x with ht:=t5,hv:=v5 }:=by rw[HP.out.2.2.2.2]
 refine⟨rfl,S3,?_,g2,?_⟩
 ·rw[<-e];exact g1
 ·rw[HP.out.2.2.1,HP.out.2.2.2.1] at *
  exact g3
end
section
variable {w w':World}
end
section
variable {w w':World}
end
section
variable {w w':World}
end
def En.ok(x:En):Prop:=enB x.idx x.term x.kind x.delta x.dat=true
def SoundAt(f:Nat)(es:List En)(k:Nat):Prop:=∃x,es[k]?=some x/\x.ok/\x.idx=f+k/\∀y,0<k->es[k - 1]?=some y->y.term<=x.term
def SoundL(f:Nat)(es:List En):Prop:=∀k,k<es.length->SoundAt f es k
section
variable {w w':World}
end
def RecsE(f:Nat)(es:List En)(w:World)(e:Ending)(w':World):Prop :=
 Below w.heap.size w w'/\((SoundL f es/\∃A c Y,e=.returned (.tuple #[.slice A Y.length c,.bool true])/\Y.map Prod.fst=es.map En.bytes/\RowsB w' w.heap.size A c Y)\/(¬SoundL f es/\e=.returned (.tuple #[.slice none 0 0,.bool false])))
section
variable {w w':World}
theorem storeRecords(E:Option Addr)(c:Nat)(es:List ERow)(f:Nat)(hf:f<=1000000)(w:World)(h:EL w E es)(hn:es.length<=1000) :
  Calls Tryz.prog 39 #[.int .u64 (f:Int),.slice E es.length c] w (RecsE f (es.map Prod.fst) w):=by
 obtain⟨i0,hi0,hz0,hz1,hz2⟩:=info_parts tb_info2
 have HL:=qh h
 clear h
 go_enter Tryz.func39,Tryz.ntmps39
 go_wp2_with fail
 go_loopw [6,13] (fun s6 s13 wr=>∃(k:Nat) (A:Option Addr) (ac:Nat) (Y:List (List UInt8 × Option Addr × Nat)),k<=es.length/\s13=.int .i64 (k:Int)/\s6=.slice A Y.length ac/\Hid (Y.map Prod.fst=(es.take k).map fun x=>x.1.bytes)/\Hid (RowsB wr w.heap.size A ac Y)/\Hid (Below w.heap.size w wr)/\Hid (∀j,j<k->SoundAt f (es.map Prod.fst) j))
  (fun _ s13 _=>es.length - (intOf s13).toNat)
 case atStart=>exact⟨0,none,0,[],Nat.zero_le _,rfl,rfl,qh rfl,qh ⟨OV.nil _ _ _,by simp⟩,qh (Below.refl _ _),qh (fun j hj=>absurd hj (Nat.not_lt_zero _))⟩
 case round =>
  obtain⟨k,A,ac,Y,hk,rfl,rfl,HY,HR,HB,HK⟩:=hrel
  by_cases hlt:k<es.length
  ·have hki:(k:Int)<(es.length:Int):=by omega
   have hki0:(0:Int)<=(k:Int):=by omega
   have hEL:=HL.out.below HB.out
   obtain⟨b,off,rfl,hb,hc⟩:=hEL.at_ hlt
   have hx:=hEL.rb es[k] (List.getElem_mem hlt)
   have hxe:(es.map Prod.fst)[k]?=some es[k].1:=by rw[List.getElem?_map,List.getElem?_eq_getElem hlt];rfl
   have htk:(es.take (k+1)).map (fun x=>x.1.bytes)=(es.take k).map (fun x=>x.1.bytes)++[es[k].1.bytes]:=by rw[List.take_succ_eq_append_getElem hlt,List.map_append];rfl
   generalize es[k]=x at hc hx hxe htk
   obtain⟨⟨i,t,kd,dl,dt⟩,D,dc⟩:=x
   simp only[er] at hc hx hxe
   have RG:=qh hc
   have HXE:=qh hxe
   have HTK:Hid ((es.take (k+1)).map (fun x=>x.1.bytes)=Y.map Prod.fst++[enBytes i t kd dl dt]):=qh (by rw[htk,HY.out];rfl)
   have hYl:Y.length<=1000:=by
    have:=congrArg List.length HY.out
    rw[List.length_map,List.length_map,List.length_take] at this
    omega
   have hal:Below wr.heap.size wr (wr.alloc (.cells entryZ TEn)):=(Below.refl _ _).alloc (Nat.le_refl _) _
   have Z:=qh (Blk.new wr entryZ TEn)
   have hbs:=HB.out.size
   have Y0:=Z.out.setRow (enC i t kd dl dt D dc)
   have hb1:=below_setRow (g:=wr.heap.size) hal (Nat.le_refl _) (enC i t kd dl dt D dc)
   obtain⟨n8,hn8⟩:∃n8,n8=wr.heap.size:=⟨_,rfl⟩
   obtain⟨w1,hw1⟩:∃w1,w1=(wr.alloc (.cells entryZ TEn)).setRow wr.heap.size (enC i t kd dl dt D dc):=⟨_,rfl⟩
   rw[<-hw1,<-hn8] at Y0
   rw[<-hw1] at hb1
   have HW1:=qh hw1.symm
   have HN8:=qh hn8.symm
   have Y1:=qh Y0
   have HB1:=qh hb1
   obtain⟨r,hr⟩:∃r,enB i t kd dl dt=r:=⟨_,rfl⟩
   have ME:=qh (msgEntry i t kd dl dt D dc w1 (hx.1.below hb1) hx.2 r hr)
   have HRr:=qh hr
   have hb1':b<w1.heap.size:=Nat.lt_of_lt_of_le hb hb1.size
   have HELh:=qh hEL
   clear hc hx hxe htk hal hw1 hn8 Y0 hb1 hr hEL HY
   have hwk:IntKind.u64.wrap (k:Int)=(k:Int):=wrap_small (by omega) (by omega)
   have hwf:IntKind.u64.wrap ((f:Int)+(k:Int))=(f:Int)+(k:Int):=wrap_small (by omega) (by omega)
   unfold entryZ enC at *
   go_wp2_with (first
    | (refine wpList_load_mid rfl TEn (.tmp 16) rfl b (off+k*5) rfl [.int .u64 (i:Int),.int .u64 (t:Int),.int .i64 kd,.int .i64 dl,.slice D dt.length dc] _ RG.out Tryz.underlying44 rfl en_size5 ?_)
    | (refine wpList_store_row rfl TEn (.tmp 8) (.tmp 17) rfl wr.heap.size #[.int .u64 (i:Int),.int .u64 (t:Int),.int .i64 kd,.int .i64 dl,.slice D dt.length dc] rfl rfl _ _ Z.out entry_size' rfl (by simp[Value.oneCell']) ?_;rw[HW1.out,HN8.out])
    | (refine wpList_load_row rfl TEn (.tmp 8) rfl n8 rfl TEn #[.int .u64 (i:Int),.int .u64 (t:Int),.int .i64 kd,.int .i64 dl,.slice D dt.length dc] (0,0) _ Y1.out Tryz.underlying44 rfl entry_size' ?_)
    | (go_at_call 91;refine ME.out.mono ?_))
   rintro e w2 ⟨A2,n2,c2,k2,rfl,b2,p1,p2⟩
   have Y2:=Y1.out.kept b2
   have z0:=Y2.cell 0 (v:=.int .u64 (i:Int)) rfl
   have z1:=Y2.cell 1 (v:=.int .u64 (t:Int)) rfl
   have HB2:=qh (HB.out.trans ((HB1.out.trans (b2.mono HB1.out.size)).mono hbs))
   have HBr2:=qh (HB1.out.trans (b2.mono HB1.out.size))
   have HP:=qh (And.intro p1 p2)
   clear ME b2 p1 p2 Y2 Z RG HW1 HN8
   cases r with
   | false =>
    obtain rfl:=HP.out.1 rfl
    have HF:Hid (¬SoundL f (es.map Prod.fst)):=qh (fun hs=>by
     obtain⟨x,hx,hok,_⟩:=hs k (by rw[List.length_map];exact hlt)
     rw[HXE.out] at hx
     cases hx
     have:=HRr.out
     unfold En.ok at hok
     rw[this] at hok
     cases hok)
    go_wp2_with fail
    go_quiet (fail)
    go_wp2_with fail
    go_ret2
    exact⟨belowDrewN HB2.out _,.inr ⟨HF.out,rfl⟩⟩
   | true =>
    obtain⟨rfl,rfl,ho2⟩:=HP.out.2 rfl
    have HO2:=qh ho2
    clear ho2
    by_cases hi:i=f+k
    ·have hib:((i:Int) != (f:Int)+(k:Int))=false:=by simp[hi]
     by_cases hS:SoundAt f (es.map Prod.fst) k
     ·have HT:Hid (∀j,j<k+1->SoundAt f (es.map Prod.fst) j):=qh (fun j hj=>by
       rcases Nat.lt_or_ge j k with h | h
       ·exact HK.out j h
       ·obtain rfl:j=k:=by omega
        exact hS)
      have HS:=qh hS
      clear hS hi
      go_upto_region 6 with fail
      go_cut [48] (fun s48 wx=>s48=.bool false/\Hid (Below w2.heap.size w2 wx))
      case first =>
       rcases Nat.eq_zero_or_pos k with hk0 | hk0
       ·have g0:decide ((0:Int)<(k:Int))=false:=by simp[hk0]
        have g0':decide (0<k)=false:=by simp[hk0]
        clear hk0
        go_quiet (fail)
        go_wp2_with fail
        go_meet
        exact⟨rfl,qh (belowDrewN (Below.refl _ _) _)⟩
       ·have g0:decide ((0:Int)<(k:Int))=true:=by simp;omega
        have g0':decide (0<k)=true:=by simpa using hk0
        obtain⟨b',off',e',hb',hcy⟩:=HELh.out.at_ (k:=k - 1) (by omega)
        injection e' with e'
        injection e' with e1 e2
        subst e1 e2
        have hye:(es.map Prod.fst)[k - 1]?=some (es[k - 1]'(by omega)).1:=by rw[List.getElem?_map,List.getElem?_eq_getElem (by omega)];rfl
        generalize es[k - 1]'(by omega)=y at hcy hye
        obtain⟨⟨yi,yt,yk,yd,yx⟩,yD,yc⟩:=y
        simp only[er] at hcy hye
        have hty:¬t<yt:=by
         obtain⟨x,hx,_,_,hm⟩:=HS.out
         rw[HXE.out] at hx
         cases hx
         have:=hm _ hk0 hye
         simp only at this
         omega
        have hwk1:IntKind.i64.wrap ((k:Int) - 1)=((k - 1:Nat):Int):=by rw[IntWalk.i64_in _ (by omega)];omega
        have hkq:(((k - 1:Nat)):Int)<(es.length:Int):=by omega
        have hkq':k - 1<es.length:=by omega
        have y1:=(HBr2.out.cell (p:=⟨b,off+(k - 1)*5+1,none⟩) hb).trans (hcy 1 (.int .u64 (yt:Int)) rfl)
        have g3:decide ((t:Int)<(yt:Int))=false:=by simpa using hty
        have g3':decide (t<yt)=false:=by simpa using hty
        clear hcy hye hty
        go_quiet (fail)
        go_wp2_with fail
        go_meet
        exact⟨rfl,qh (belowDrewN (Below.refl _ _) _)⟩
      case rest =>
       obtain⟨rfl,HB3⟩:=hcut
       obtain⟨w3,hw3⟩:∃w3,w3=wc:=⟨_,rfl⟩
       subst hw3
       have HB4:=qh (HB2.out.trans (HB3.out.mono HB2.out.size))
       have hws:w.heap.size<=w3.heap.size:=HB4.out.size
       have ha:Below w3.heap.size w3 (w3.alloc (.cells #[.slice A2 (enBytes i t kd dl dt).length c2] TB)):=(Below.refl _ _).alloc (Nat.le_refl _) _
       have hbr:=HBr2.out.trans (HB3.out.mono HBr2.out.size)
       have HRA:=qh ((HR.out.below hbr).below ha)
       have HO3:=qh (((HO2.out.below HB3.out).below ha).base_le (Nat.le_trans hbs HB1.out.size))
       have HBA:=qh (HB4.out.trans (ha.mono hws))
       have hws2:w.heap.size<=(w3.alloc (.cells #[.slice A2 (enBytes i t kd dl dt).length c2] TB)).heap.size:=HBA.out.size
       obtain⟨xs,hxs⟩:∃xs,xs=Y.map recV:=⟨_,rfl⟩
       have hxl:Y.length=xs.length:=by rw[hxs,List.length_map]
       have hxk:xs.length<=1000:=by omega
       have HRV:Hid (OV (w3.alloc (.cells #[.slice A2 (enBytes i t kd dl dt).length c2] TB)) w.heap.size TB A ac xs):=qh (by rw[hxs];exact HRA.out.rv)
       have HXS:=qh hxs
       rw[hxl]
       have HXL:=qh hxl
       clear ha hbr HB3 HB2 HBr2 HR HB HO2 z0 z1 hxs hxl
       go_wp2_with (at_builtin;go_loud (refine wp_appendV _ rfl _ _ 87 TB rfl Tryz.underlying87 hi0 hz0 hz1 hz2 rfl w.heap.size A (some ⟨w3.heap.size,0,none⟩) ac 1 xs [.slice A2 (enBytes i t kd dl dt).length c2] rfl rfl HRV.out (RV.one _ _ _) (by simp[Value.oneCell']) (by simp;omega) (by simp;omega) hws2 ?_);intro ys A9 c9 w9 hys hy1 hy2 ho9 hg9 _;have HYS:=qh hys.out;have HO9:=qh ho9;rw[own_blk] at hg9;have HG9:=qh hg9;have hyl:ys.length=xs.length+1:=(by simpa using Nat.le_antisymm hy1 hy2);clear hys ho9 hg9 hy1 hy2)
       go_roundw
       case rel =>
        have e:ys=Y.map recV++[recV (enBytes i t kd dl dt,A2,c2)]:=by rw[<-HXS.out];exact HYS.out
        have ho:=HO9.out
        rw[e] at ho
        have hr9:=HRA.out.add (y:=(enBytes i t kd dl dt,A2,c2)) HO3.out HG9.out ho
        refine⟨k+1,A9,c9,Y++[(enBytes i t kd dl dt,A2,c2)],by omega,by go_num,?_,qh (by rw[HTK.out,List.map_append];rfl),qh hr9,qh (HBA.out.grown HG9.out hws2 (fun b hb=>(HRA.out.rv.blk_lt b hb).1)),HT⟩
        have:=HXL.out
        first | rfl | (congr 1;simp;omega) | (rw[List.length_append];simp_all)
       case measure=>simp[intOf];omega
     ·rcases Nat.eq_zero_or_pos k with hk0 | hk0
      ·exact absurd ⟨_,HXE.out,HRr.out,hi,fun y h0=>by omega⟩ hS
      ·have g0:decide ((0:Int)<(k:Int))=true:=by simp;omega
       have g0':decide (0<k)=true:=by simpa using hk0
       obtain⟨b',off',e',hb',hcy⟩:=HELh.out.at_ (k:=k - 1) (by omega)
       injection e' with e'
       injection e' with e1 e2
       subst e1 e2
       have hye:(es.map Prod.fst)[k - 1]?=some (es[k - 1]'(by omega)).1:=by rw[List.getElem?_map,List.getElem?_eq_getElem (by omega)];rfl
       generalize es[k - 1]'(by omega)=y at hcy hye
       obtain⟨⟨yi,yt,yk,yd,yx⟩,yD,yc⟩:=y
       simp only[er] at hcy hye
       have hty:t<yt:=by
        refine Nat.lt_of_not_le fun h=>hS ⟨_,HXE.out,HRr.out,hi,fun y h0 hy=>?_⟩
        rw[hye] at hy
        cases hy
        exact h
       have HF:Hid (¬SoundL f (es.map Prod.fst)):=qh (fun hs=>hS (hs k (by rw[List.length_map];exact hlt)))
       have hwk1:IntKind.i64.wrap ((k:Int) - 1)=((k - 1:Nat):Int):=by rw[IntWalk.i64_in _ (by omega)];omega
       have hkq:(((k - 1:Nat)):Int)<(es.length:Int):=by omega
       have hkq':k - 1<es.length:=by omega
       have y1:=(HBr2.out.cell (p:=⟨b,off+(k - 1)*5+1,none⟩) hb).trans (hcy 1 (.int .u64 (yt:Int)) rfl)
       have g3:decide ((t:Int)<(yt:Int))=true:=by simpa using hty
       have g3':decide (t<yt)=true:=by simpa using hty
       clear hcy hye hi hty hS
       go_wp2_with fail
       go_quiet (fail)
       go_wp2_with fail
       go_ret2
       exact⟨belowDrewN HB2.out _,.inr ⟨HF.out,rfl⟩⟩
    ·have hib:((i:Int) != (f:Int)+(k:Int))=true:=by simpa using fun e:(i:Int)=(f:Int)+(k:Int)=>hi (by omega)
     have HF:Hid (¬SoundL f (es.map Prod.fst)):=qh (fun hs=>by
      obtain⟨x,hx,_,h3,_⟩:=hs k (by rw[List.length_map];exact hlt)
      rw[HXE.out] at hx
      cases hx
      exact hi h3)
     clear hi
     go_wp2_with fail
     go_quiet (fail)
     go_wp2_with fail
     go_ret2
     exact⟨belowDrewN HB2.out _,.inr ⟨HF.out,rfl⟩⟩
  ·obtain rfl:k=es.length:=by omega
   have HF:Hid (SoundL f (es.map Prod.fst)/\Y.map Prod.fst=(es.map Prod.fst).map En.bytes):=qh ⟨fun j hj=>HK.out j (by rw[List.length_map] at hj;exact hj),by rw[HY.out,List.take_length,List.map_map];rfl⟩
   clear HK HY
   go_wp2_with fail
   go_ret2
   exact⟨HB.out,.inl ⟨HF.out.1,A,ac,Y,rfl,HF.out.2,HR.out⟩⟩
end
end Go.Proofs.YtobdmlejabjmiaaGreatDoor
