/- Made small by a program. -/
import Derived.Test.YtobdmlejabjmiaaGreatDoorZc40
set_option maxRecDepth 20000
set_option maxHeartbeats 8000000
namespace Go.Proofs.YtobdmlejabjmiaaGreatDoor
open Go.RowKit
section
variable {B g:Nat} {S S' F F' T:Nat->Prop} {w w':World} {z:SP} {x:SV} {D D':DSt}
theorem ST.own_lt(h:ST B S F w g z x D){b:Nat}(hb:z.own x.es b):b<w.heap.size:=by
 rcases hb with hb | hb | hb | hb | ⟨y,hy,hb⟩
 ·exact(h.rv.blk_lt b hb).2
 ·exact(h.rl.blk_lt b hb).2
 ·exact(h.rd.blk_in b hb).2
 ·exact(h.re.row.blk_lt b hb).2
 ·exact((h.re.ob y hy).blk_in b hb).2
theorem ST.own_ne{c:Nat}{T:TypeId}{cs:Array Value}(h:ST B S F w g z x D)(hc:Blk w c T cs)(h1:T≠3)(h2:T≠5)(h3:T≠TEn){b:Nat}(hb:z.own x.es b):b≠c:=by
 intro e;subst e
 rcases hb with hb | hb | hb | hb | ⟨y,hy,hb⟩
 ·exact h.rv.ne_blk hc h1 hb
 ·exact h.rl.ne_blk hc h1 hb
 ·exact OB.ne_blk h.rd hc h2 hb
 ·exact h.re.row.ne_var hc (fun e=>h3 e.symm) hb
 ·exact OB.ne_blk (h.re.ob y hy) hc h2 hb
theorem ST.carry{lg':Lg}(h:ST B S F w g z x D)(hB:B<=w.heap.size)(hd:DI S' w' g D')(hn:∀b,S' b->S b\/w.heap.size<=b)(hf:∀b,F' b->F b\/w.heap.size<=b)(m:Mods T w w')(hq:¬T z.q)(hps:¬T z.ps)(hvs:∀b,z.Vs.map (·.block)=some b\/z.Os.map (·.block)=some b->¬T b)(hown:∀b,z.own x.es b->¬T b)(hlr:LR B S' F' w' z.pl g lg' D'):ST B S' F' w' g z { x with lg:=lg' } D' where
 blk:=h.blk.mods m hq
 ss:=h.ss.carry hB hd hn m hps (fun b hb=>hvs b (.inl hb)) (fun b hb=>hvs b (.inr hb))
 lr:=hlr
 rv:=h.rv.mods m (fun b hb=>hown b (.inl hb))
 rl:=h.rl.mods m (fun b hb=>hown b (.inr (.inl hb)))
 rd:=h.rd.mods m (fun b hb=>hown b (.inr (.inr (.inl hb))))
 re:=⟨h.re.row.mods m (fun b hb=>hown b (.inr (.inr (.inr (.inl hb))))),fun y hy=>(h.re.ob y hy).mods m (fun b hb=>hown b (.inr (.inr (.inr (.inr ⟨y,hy,hb⟩)))))⟩
 qS:=fun e=>(hn _ e).elim h.qS (fun e=>by have:=h.blk.lt;omega)
 qF:=fun e=>(hf _ e).elim h.qF (fun e=>by have:=h.blk.lt;omega)
 sF:=fun e=>(hf _ e).elim h.sF (fun e=>by have:=h.ss.blk.lt;omega)
 vF:=fun b hb e=>(hf _ e).elim (h.vF b hb) (fun e=>by
  rcases hb with hb | hb
  ·have:=(h.ss.val.blk_in b hb).2;omega
  ·have:=(h.ss.old.blk_lt b hb).2;omega)
 own:=fun b hb=>⟨fun e=>(hn _ e).elim (h.own b hb).1 (fun e=>by have:=h.own_lt hb;omega),fun e=>(hf _ e).elim (h.own b hb).2 (fun e=>by have:=h.own_lt hb;omega)⟩
 qB:=h.qB
theorem ST.below(h:ST B S F w g z x D)(hB:B<=w.heap.size)(hb:Below w.heap.size w w'):ST B S F w' g z x D:=by
 obtain⟨Z,Y,SA,sc,RA,rc,hx⟩:=h.lr;exact h.carry (T:=fun _=>False) hB (hx.lb.di.below hb) (fun b hb=>.inl hb) (fun b hb=>.inl hb) (Mods.of_below hb) (fun e=>e) (fun e=>e) (fun _ _ e=>e) (fun _ _ e=>e) ⟨Z,Y,SA,sc,RA,rc,hx.below hb⟩
theorem ST.turn{ht:Nat}{hv:Int}{dn:Bool}(h:ST B S F w g z x D)(hB:B<=w.heap.size)(m:Mods (·=z.q) w w')(hb:Blk w' z.q 72 (storeL g z.ph z.ps z.pl ht hv x.i x.t x.v x.l x.d z.V z.vc z.L z.lc z.A z.ac z.E x.es.length z.ec dn)):ST B S F w' g z { x with ht:=ht,hv:=hv,dn:=dn } D:=by
 obtain⟨Z,Y,SA,sc,RA,rc,hx⟩:=h.lr;have hown:=fun b hb=>h.own_ne h.blk (by decide) (by decide) (by decide) (b:=b) hb
 exact
 {blk:=hb
  ss:=h.ss.keepq m h.blk h.qS
  lr:=⟨Z,Y,SA,sc,RA,rc,hx.mods m (fun b hb e=>h.qF (by rw[<-e];exact hb)) (hx.lb.di.mods m (fun b _ hs e=>h.qS (by rw[<-e];exact hs))) (fun b hb=>.inl hb) hB⟩
  rv:=h.rv.mods m (fun b hb=>hown b (.inl hb))
  rl:=h.rl.mods m (fun b hb=>hown b (.inr (.inl hb)))
  rd:=h.rd.mods m (fun b hb=>hown b (.inr (.inr (.inl hb))))
  re:=⟨h.re.row.mods m (fun b hb=>hown b (.inr (.inr (.inr (.inl hb))))),fun y hy=>(h.re.ob y hy).mods m (fun b hb=>hown b (.inr (.inr (.inr (.inr ⟨y,hy,hb⟩)))))⟩
  qS:=h.qS
  qF:=h.qF
  sF:=h.sF
  vF:=h.vF
  own:=h.own
  qB:=h.qB }
theorem qR{q:Nat}{cs:Array Value}(dn:Bool)(hq:Blk w q 72 cs)(h:cs[12]?=some (.bool dn)):Calls Tryz.prog 35 #[.pointer (some ⟨q,0,none⟩)] w fun e w'=>e=.returned (.int .i64 (if dn=true then 11 else 0))/\w=w':=by
 have c12:=hq.cell 12 h;clear hq h;cases dn with
 | true =>
  go_enter Tryz.func35,Tryz.ntmps35;go_wp2_with fail;go_ret;exact⟨rfl,rfl⟩
 | false =>
  go_enter Tryz.func35,Tryz.ntmps35;go_wp2_with fail;go_ret;exact⟨rfl,rfl⟩
theorem xL{q:Nat}{cs:Array Value}(k:Int)(hq:Blk w q 72 cs)(h:cs[12]?=some (.bool false)):Calls Tryz.prog 37 #[.pointer (some ⟨q,0,none⟩),.int .i64 k] w fun e w'=>e=.returned (.int .i64 k)/\w'=w.setCell ⟨q,12,none⟩ (.bool (decide (k=11))):=by
 have c12:=hq.cell 12 h;have f12:=hq.free 12;clear hq h;by_cases hk:k=11
 ·subst hk;go_enter Tryz.func37,Tryz.ntmps37;go_wp2_with fail;go_ret;exact⟨rfl,rfl⟩
 ·have hkb:(k == 11)=false:=by simpa using hk
  rw[decide_eq_false hk];clear hk;go_enter Tryz.func37,Tryz.ntmps37;go_wp2_with fail;go_ret;exact⟨rfl,rfl⟩
end
section
variable {w w':World}
structure RIn(o:Nat)(w:World)(b:List UInt8)(A:Option Addr)(c:Nat)(s:Int × Bool):Prop where
 blk:Blk w o 219 #[.slice A b.length c,.int .i64 s.1,.bool s.2]
 rb:RB w A b
 ne:0<b.length->∀k,A.map (·.block)=some k->k≠o
 pos:inB b s
 cap:b.length<=c/\c<=9223372036854775807
 len:b.length<=210000000000000
theorem RIn.below{o c:Nat}{b:List UInt8}{A:Option Addr}{s:Int × Bool}(h:RIn o w b A c s)(hb:Below w.heap.size w w'):RIn o w' b A c s:=⟨h.blk.kept hb,h.rb.below hb,h.ne,h.pos,h.cap,h.len⟩
theorem RIn.mods{o c:Nat}{b:List UInt8}{A:Option Addr}{s:Int × Bool}{T:Nat->Prop}(h:RIn o w b A c s)(m:Mods T w w')(h1:¬T o)(h2:0<b.length->∀k,A.map (·.block)=some k->¬T k):RIn o w' b A c s:=⟨h.blk.mods m h1,h.rb.mods m h2,h.ne,h.pos,h.cap,h.len⟩
theorem RIn.set1{o c:Nat}{b:List UInt8}{A:Option Addr}{s:Int × Bool}(h:RIn o w b A c s){n:Int}(hn:inB b (n,s.2)):RIn o (w.setCell ⟨o,1,none⟩ (.int .i64 n)) b A c (n,s.2)/\Mods (·=o) w (w.setCell ⟨o,1,none⟩ (.int .i64 n)):=by
 have m:=Mods.setCell (S:=(·=o)) (Mods.refl (·=o) w) ⟨o,1,none⟩ (.inl rfl) (.int .i64 n);exact⟨⟨h.blk.setCell 1 (.int .i64 n),h.rb.mods m (fun h0 k hk e=>h.ne h0 k hk e),h.ne,hn,h.cap,h.len⟩,m⟩
theorem RIn.set2{o c:Nat}{b:List UInt8}{A:Option Addr}{s:Int × Bool}(h:RIn o w b A c s)(x:Bool):RIn o (w.setCell ⟨o,2,none⟩ (.bool x)) b A c (s.1,x)/\Mods (·=o) w (w.setCell ⟨o,2,none⟩ (.bool x)):=by
 have m:=Mods.setCell (S:=(·=o)) (Mods.refl (·=o) w) ⟨o,2,none⟩ (.inl rfl) (.bool x);exact⟨⟨h.blk.setCell 2 (.bool x),h.rb.mods m (fun h0 k hk e=>h.ne h0 k hk e),h.ne,h.pos,h.cap,h.len⟩,m⟩
theorem refInNum(o:Nat)(b:List UInt8)(A:Option Addr)(c:Nat)(s:Int × Bool)(w:World)(h:RIn o w b A c s) :
  Calls Tryz.prog 251 #[.pointer (some ⟨o,0,none⟩)] w fun e w'=>e=.returned (.int .u64 (rnum b s).1)/\RIn o w' b A c (rnum b s).2/\Mods (·=o) w w':=by
 obtain⟨p,bad⟩:=s;have c0:=h.blk.cell 0 (v:=.slice A b.length c) rfl;have c1:=h.blk.cell 1 (v:=.int .i64 p) rfl;have c2:=h.blk.cell 2 (v:=.bool bad) rfl;have f1:=h.blk.free 1;have f2:=h.blk.free 2;have H0:=qh h;cases bad with
 | true =>
  have e:rnum b (p,true)=(0,(p,true)):=rfl;rw[e];clear h e;go_enter Tryz.func251,Tryz.ntmps251;go_wp2_with fail;go_ret;exact⟨rfl,H0.out,Mods.refl _ _⟩
 | false =>
  have hp:=h.pos;have hlen:=h.len;have NM:=qh (fun n=>refNum A c b p (w.drewN n) (h.rb.drewN n) h.len (by have:=hp.1;have:=hp.2;simp only at *;omega));obtain⟨q,hq⟩:∃q,q=numAt b p:=⟨_,rfl⟩;have HQ:Hid (rnum b (p,false)=if q.2.2=0 then(q.1,(q.2.1,false)) else(0,(p,true))):=qh (by unfold rnum;rw[hq];rfl);have HOK:Hid (q.2.2=0->inB b (q.2.1,false)):=qh (fun h0=>by
   rw[hq] at h0 ⊢;have k:=jr h0;exact⟨by simp only;omega,by simp only;omega⟩)
  unfold NumE at NM;rw[<-hq] at NM;obtain⟨n,nx,er⟩:=q;clear h hq hp;by_cases h0:er=0
  ·subst h0;rw[HQ.out,if_pos rfl];have HP:=HOK.out rfl;clear HQ HOK;go_enter Tryz.func251,Tryz.ntmps251;go_wp2_with fail
   go_quiet ((go_at_call 258;exact Calls.quiet_of_same ((NM.out _).mono fun _ _ h=>⟨h.1,h.2.symm⟩)))
   go_wp2_with fail;go_ret;obtain⟨x1,x2⟩:=H0.out.set1 HP;exact⟨rfl,x1.below (bdN (Below.refl _ _) _),x2.drewN _⟩
  ·rw[HQ.out,if_neg h0];have hb0:(er == 0)=false:=(by simpa using h0);clear HQ HOK;go_enter Tryz.func251,Tryz.ntmps251;go_wp2_with fail
   go_quiet ((go_at_call 258;exact Calls.quiet_of_same ((NM.out _).mono fun _ _ h=>⟨h.1,h.2.symm⟩)))
   go_wp2_with fail;go_ret;obtain⟨x1,x2⟩:=H0.out.set2 true;exact⟨rfl,x1.below (bdN (Below.refl _ _) _),x2.drewN _⟩
theorem zdh(o:Nat)(b:List UInt8)(A:Option Addr)(c:Nat)(s:Int × Bool)(w:World)(h:RIn o w b A c s)(m:Int)(hm:0<=m)(hm2:m<=1000000) :
  Calls Tryz.prog 230 #[.pointer (some ⟨o,0,none⟩),.int .u64 m] w fun e w'=>e=.returned (.int .i64 (rup b m s).1)/\RIn o w' b A c (rup b m s).2/\Mods (·=o) w w':=by
 have NU:=qh (refInNum o b A c s w h);obtain⟨hin,hr0,hr1⟩:=zcB h.pos;obtain⟨q,hq⟩:∃q,q=rnum b s:=⟨_,rfl⟩;have HQ:Hid (rup b m s=if m<q.1 then(0,(q.2.1,true)) else q):=qh (by unfold rup;rw[hq]);rw[<-hq] at NU hr0 hr1;obtain⟨n,s1⟩:=q;clear h hq hin;go_enter Tryz.func230,Tryz.ntmps230;go_wp2_with fail;refine NU.out.mono ?_;rintro e w1 ⟨rfl,h1,m1⟩;have H1:=qh h1;have M1:=qh m1;have c2:=h1.blk.cell 2 (v:=.bool s1.2) rfl;have f2:=h1.blk.free 2;clear h1 m1 NU;simp only at hr0 hr1 ⊢;by_cases hlt:m<n
 ·go_wp2_with fail;go_ret;obtain⟨x1,x2⟩:=H1.out.set2 true;rw[HQ.out,if_pos hlt];exact⟨rfl,x1,M1.out.then x2⟩
 ·have hwn:IntKind.i64.wrap n=n:=IntWalk.i64_in _ (by omega);go_wp2_with fail;go_ret;rw[HQ.out,if_neg (by omega)];exact⟨rfl,H1.out,M1.out⟩
theorem zfc{b:List UInt8}{m:Int}{p:Int}(_hm:0<=m):rup b m (p,true)=(0,(p,true)):=by
 unfold rup rnum;rw[if_pos rfl];simp[]
theorem zfa{b:List UInt8}{x:List Int × (Int × Bool)}(h:x.2.2=true):(rstep b x).2.2=true:=by
 obtain⟨l,p,q⟩:=x;simp only at h;subst h;unfold rstep;rw[zfc (by decide)]
theorem zdk{b:List UInt8}{x:List Int × (Int × Bool)}{k:Nat}(h:(ritr b k x).2.2=true):∀j,(ritr b (k+j) x).2.2=true
 | 0=>h
 | j+1=>zfa (zdk h j)
theorem refIds(o:Nat)(b:List UInt8)(A:Option Addr)(c:Nat)(s:Int × Bool)(w:World)(h:RIn o w b A c s) :
  Calls Tryz.prog 191 #[.pointer (some ⟨o,0,none⟩)] w fun e w'=>∃X xc l s',e=.returned (.slice X l.length xc)/\l.length<=16/\OV w' w.heap.size 3 X xc (ncells .i64 l)/\RIn o w' b A c s'/\(s'.2=false->rids b s=(l,s'))/\((rids b s).2.2=false->s'.2=false)/\Mods (·=o) w w':=by
 obtain⟨i0,hi0,hz0,hz1,hz2⟩:=info_parts xP;have UP:=qh (zdh o b A c s w h 16 (by decide) (by decide));obtain⟨hin,hr0,hr1⟩:=zdm h.pos (m:=16) (by decide);obtain⟨q,hq⟩:∃q,q=rup b 16 s:=⟨_,rfl⟩;have HQ:Hid (rids b s=ritr b q.1.toNat ([],q.2)):=qh (by unfold rids;rw[hq]);rw[<-hq] at UP hin hr0 hr1;obtain⟨n,s1⟩:=q;obtain⟨k0,rfl⟩:=Int.eq_ofNat_of_zero_le hr0;have HIN:=qh hin;have hlo:=h.blk.lt;have HAB:Hid (0<b.length->∀k,A.map (·.block)=some k->k<w.heap.size):=qh (fun h0=>h.rb.blk_lt h0);clear h hq hin;go_enter Tryz.func191,Tryz.ntmps191;go_wp2_with fail;refine UP.out.mono ?_;rintro e w1 ⟨rfl,h1,m1⟩;have H1:=qh h1;have M1:=qh m1;clear h1 m1 UP;simp only at hr1 ⊢;have hk16:k0<=16:=by omega
 go_wp2_with fail;go_loopw [3,5] (fun s3 s5 wr=>∃(k:Nat) (X:Option Addr) (xc n3:Nat),k<=k0/\s5=.int .i64 (k:Int)/\n3=(ritr b k ([],s1)).1.length/\s3=.slice X n3 xc/\Hid (OV wr w.heap.size 3 X xc (ncells .i64 (ritr b k ([],s1)).1))/\Hid (RIn o wr b A c (ritr b k ([],s1)).2)/\Hid (Mods (·=o) w wr))
  (fun _ s5 _=>k0 - (intOf s5).toNat)
 case atStart=>exact⟨0,none,0,0,Nat.zero_le _,rfl,rfl,rfl,qh (OV.nil _ _ _),H1,M1⟩
 case round =>
  obtain⟨k,X,xc,n3,hk,rfl,hn3,rfl,HO,HI,HM⟩:=hrel;have d2:=HI.out.blk.cell 2 (v:=.bool (ritr b k ([],s1)).2.2) rfl;have hnl:n3=k:=by rw[hn3,(za7 (x:=([],s1)) HIN.out k).2];simp
  by_cases hlt:k<k0
  ·cases hbad:(ritr b k ([],s1)).2.2 with
   | true =>
    rw[hbad] at d2;have HBD:=qh hbad;have HHN:=qh (And.intro hn3 hnl);clear hbad hn3 hnl;go_wp2_with fail;go_ret;have e:=HQ.out;simp only[Int.toNat_natCast] at e;have hb2:=HBD.out;have hb3:=zdk hb2 (k0 - k);rw[show k+(k0 - k)=k0 by omega] at hb3;exact⟨X,xc,(ritr b k ([],s1)).1,(ritr b k ([],s1)).2,by rw[HHN.out.1];rfl,by rw[<-HHN.out.1,HHN.out.2];omega,HO.out,HI.out,fun e=>absurd e (by rw[hb2];simp),fun e2=>absurd e2 (by rw[e,hb3];simp),HM.out⟩
   | false =>
    rw[hbad] at d2;have UK:=qh (zdh o b A c _ wr HI.out 16 (by decide) (by decide));have hsz:=HM.out.size;obtain⟨l,hl⟩:∃l,l=(ritr b k ([],s1)).1:=⟨_,rfl⟩;obtain⟨r,hr⟩:∃r,r=rup b 16 (ritr b k ([],s1)).2:=⟨_,rfl⟩;have HS:Hid (ritr b (k+1) ([],s1)=(l++[r.1],r.2)):=qh (by rw[hl,hr];rfl);rw[<-hr] at UK;rw[<-hl] at HO hn3;have hll:(ncells .i64 l).length=n3:=(by rw[zp,hn3]);rw[<-hll];have HLL:=qh (And.intro hll hnl);clear hl hr HI hll hn3 hnl hbad;go_wp2_with fail;refine UK.out.mono ?_;rintro e w2 ⟨rfl,h2,m2⟩;have hol:=HO.out.blk_lt;have o2:=HO.out.mods m2 (fun x hx e=>by subst e;have:=(hol x hx).1;omega);have H2:=qh h2;have M2:=qh (HM.out.then m2);have hsz2:=m2.size;have O2:=qh o2;clear h2 m2 o2 HO HM UK hol d2;go_wp2_with (at_builtin;refine jP _ rfl _ _ 31 3 rfl Tryz.underlying31 hi0 hz0 hz1 hz2 rfl w.heap.size X (some ⟨w2.heap.size,0,none⟩) xc 1 (ncells .i64 l) [.int .i64 r.1] rfl rfl (O2.out.below ((Below.refl _ _).alloc (Nat.le_refl _) _)) (RV.one _ _ _) (by simp[Value.oneCell']) (by have:=HLL.out.1;have:=HLL.out.2;simp;omega) (by have:=HLL.out.1;have:=HLL.out.2;simp;omega) (by simp;omega) ?_;intro ys A3 c3 w3 hys hys1 hys2 ho3 hg3 _;have HYS:=qh hys.out;have HO3:=qh ho3;have HG3:=qh hg3;have hyl:ys.length=(ncells .i64 l).length+1:=(by simpa using Nat.le_antisymm hys1 hys2);clear hys ho3 hg3 hys1 hys2);go_roundw
    case rel =>
     have ha:Below w2.heap.size w2 (w2.alloc (.cells #[.int .i64 r.1] 3)):=(Below.refl _ _).alloc (Nat.le_refl _) _;have mg:Mods (fun x=>w.heap.size<=x) w2 w3:=(Mods.of_below ha).trans (Mods.of_grown (S:=fun x=>w.heap.size<=x) HG3.out (fun x e=>by
      rw[yh] at e;exact(O2.out.blk_lt x e).1)) (fun i e=>.inl e)
     refine⟨k+1,A3,c3,(ncells .i64 l).length+1,by omega,by go_num,by rw[HS.out,zp];simp,rfl,qh ?_,qh ?_,qh (M2.out.trans mg (fun i e=>.inr e))⟩
     ·have e:=HO3.out;rw[HYS.out] at e;rw[HS.out];simpa [ncells] using e
     ·rw[HS.out];exact H2.out.mods mg (by omega) (fun h0 x hx e=>by have:=HAB.out h0 x hx;omega)
    case measure=>simp[intOf];omega
  ·obtain rfl:k=k0:=(by omega);have HHN:=qh (And.intro hn3 hnl);clear hn3 hnl d2;go_wp2_with fail;go_ret;have e:=HQ.out;simp only[Int.toNat_natCast] at e;exact⟨X,xc,(ritr b k ([],s1)).1,(ritr b k ([],s1)).2,by rw[HHN.out.1];rfl,by rw[<-HHN.out.1,HHN.out.2];omega,HO.out,HI.out,fun _=>e,(fun e2=>by rw[e] at e2;exact e2),HM.out⟩
end
theorem zdi{b:List UInt8}{s:Int × Bool}(h:s.2=true):(rids b s).2.2=true:=by
 obtain⟨p,q⟩:=s;simp only at h;subst h;unfold rids;rw[zfc (by decide)]
 rfl
abbrev conf0:Array Value:=#[.slice none 0 0,.slice none 0 0]
section
variable {w w':World}
theorem ze7(o:Nat)(b:List UInt8)(A:Option Addr)(c:Nat)(s:Int × Bool)(w:World)(h:RIn o w b A c s) :
  Calls Tryz.prog 146 #[.pointer (some ⟨o,0,none⟩)] w fun e w'=>∃V vc L lc v l s',e=.returned (.agg #[.slice V v.length vc,.slice L l.length lc])/\v.length<=16/\l.length<=16/\OV w' w.heap.size 3 V vc (ncells .i64 v)/\OV w' w.heap.size 3 L lc (ncells .i64 l)/\RIn o w' b A c s'/\(s'.2=false->v=confV b s/\l=confL b s/\s'=confS b s)/\((confS b s).2=false->s'.2=false)/\Mods (·=o) w w':=by
 have hal:Below w.heap.size w ((w.alloc (.cells conf0 33)).alloc (.cells conf0 33)):=((Below.refl _ _).alloc (Nat.le_refl _) _).alloc (by simp) _;have hws1:(w.alloc (.cells conf0 33)).heap.size=w.heap.size+1:=by simp
 have hws:((w.alloc (.cells conf0 33)).alloc (.cells conf0 33)).heap.size=w.heap.size+2:=by simp
 have z1:=(Blk.new w conf0 33).below (((Below.refl (w.heap.size+1) _).alloc (by simp) (.cells conf0 33))) (Nat.lt_succ_self _);have z2:=Blk.new (w.alloc (.cells conf0 33)) conf0 33;rw[hws1] at z2;have hlo:=h.blk.lt;have ms0:=(Mods.refl (·=w.heap.size+1) ((w.alloc (.cells conf0 33)).alloc (.cells conf0 33))).setRow (w.heap.size+1) (.inl rfl) conf0;have y1:=z1.mods ms0 (by omega);have y2:=z2.setRow conf0;have hb0:=below_setRow (g:=w.heap.size+1) hal (by omega) conf0;have hsz0:=ms0.size;obtain⟨w0,hw0⟩:∃w0,w0=((w.alloc (.cells conf0 33)).alloc (.cells conf0 33)).setRow (w.heap.size+1) conf0:=⟨_,rfl⟩;rw[<-hw0] at y1 y2 hb0 hsz0;rw[hws] at hsz0;have HW0:=qh hw0.symm;have Z2:=qh z2;have I1:=qh (refIds o b A c s w0 (h.below hb0));have H0:=qh (And.intro y1 (And.intro y2 hb0));have HAB:Hid (0<b.length->∀k,A.map (·.block)=some k->k<w.heap.size):=qh (fun h0=>h.rb.blk_lt h0);clear hal hws1 z1 z2 ms0 y1 y2 hb0 hw0 h;unfold conf0 at *;go_enter Tryz.func146,Tryz.ntmps146;go_wp2_with (refine wpList_store_row rfl 33 (.tmp 3) (.tmp 4) rfl (w.heap.size+1) #[.slice none 0 0,.slice none 0 0] rfl rfl _ _ Z2.out zt rfl (by simp[Value.oneCell']) ?_;rw[HW0.out]);refine I1.out.mono ?_;rintro e w1 ⟨V,vc,v,s1,rfl,hvl,o1,h1,p1,p2,m1⟩;obtain⟨y1,y2,hb0⟩:=H0.out;have q1:=y1.mods m1 (by omega);have q2:=y2.mods m1 (by omega);have c0:=q2.cell 0 rfl;have f0:=q2.free 0;have hm1:=m1.size;have r1:=q1.setCell_other (a:=⟨w.heap.size+1,0,none⟩) (.slice V v.length vc) (by simp);have r2:Blk (w1.setCell ⟨w.heap.size+1,0,none⟩ (.slice V v.length vc)) (w.heap.size+1) 33 #[.slice V v.length vc,.slice none 0 0]:=q2.setCell 0 (.slice V v.length vc);have mc:=Mods.setCell (S:=(·=w.heap.size+1)) (Mods.refl (·=w.heap.size+1) w1) ⟨w.heap.size+1,0,none⟩ (.inl rfl) (.slice V v.length vc);have t1:=h1.mods mc (by omega) (fun h0 k hk e=>by have:=HAB.out h0 k hk;omega);have u1:=o1.mods mc (fun k hk e=>by have:=(o1.blk_lt k hk).1;omega);have M1:=((Mods.of_below (S:=(·=o)) hb0).then m1).trans mc (fun b e=>.inr (by omega));have hmc:=mc.size;obtain⟨w2,hw2⟩:∃w2,w2=w1.setCell ⟨w.heap.size+1,0,none⟩ (.slice V v.length vc):=⟨_,rfl⟩;rw[<-hw2] at r1 r2 t1 u1 M1 hmc;have HW2:=qh hw2.symm;have I2:=qh (refIds o b A c s1 w2 t1);have H2:=qh (And.intro r1 (And.intro r2 (And.intro u1 (And.intro M1 (And.intro p1 p2)))));clear I1 H0 y1 y2 hb0 q1 q2 o1 h1 m1 r1 r2 mc t1 u1 M1 hw2 p1 p2 HW0;go_wp2_with (go_at_call 191;rw[HW2.out];refine I2.out.mono ?_);rintro e w3 ⟨L,lc,l,s2,rfl,hll,o2,h2,p2,p3,m2⟩;obtain⟨r1,r2,u1,M1,p1,p4⟩:=H2.out;have q1:=r1.mods m2 (by omega);have q2:=r2.mods m2 (by omega);have c1:=q2.cell 1 rfl;have f1:=q2.free 1;have hm2:=m2.size;have x1:=qh (q1.setCell_other (a:=⟨w.heap.size+1,1,none⟩) (.slice L l.length lc) (by simp));have x2:Hid (Blk (w3.setCell ⟨w.heap.size+1,1,none⟩ (.slice L l.length lc)) (w.heap.size+1) 33 #[.slice V v.length vc,.slice L l.length lc]):=qh (q2.setCell 1 (.slice L l.length lc));have m12:=(m2.mono (T:=fun k=>k=o\/k=w.heap.size+1\/k=w.heap.size) (fun b _ e=>.inl e)).setCell ⟨w.heap.size+1,1,none⟩ (.inl (.inr (.inl rfl))) (.slice L l.length lc);have m3:=Mods.setCell (S:=fun k=>k=w.heap.size+1\/k=w.heap.size) (Mods.refl _ w3) ⟨w.heap.size+1,1,none⟩ (.inl (.inl rfl)) (.slice L l.length lc);have H3:=qh (And.intro p3 (And.intro p4 (And.intro u1 (And.intro M1 (And.intro p1 (And.intro o2 (And.intro h2 (And.intro p2 (And.intro m12 m3)))))))));clear I2 H2 r1 r2 u1 M1 p1 p4 q1 q2 o2 h2 p2 p3 m2 m12 m3 HW2 c0 f0;go_wp2_with (first
  | (refine wpList_load_row rfl 33 (.tmp 3) rfl (w.heap.size+1) rfl 33 #[.slice V v.length vc,.slice L l.length lc] (0,0) _ x2.out Tryz.underlying33 rfl zt ?_)
  | (refine wpList_store_row rfl 33 (.tmp 2) (.tmp 11) rfl w.heap.size #[.slice V v.length vc,.slice L l.length lc] rfl rfl _ _ x1.out zt rfl (by simp[Value.oneCell']) ?_))
 have Y:=x1.out.setRow #[.slice V v.length vc,.slice L l.length lc];refine bodyPost_ret (v:=.agg #[.slice V v.length vc,.slice L l.length lc]) (results_cell_row rfl _ _ w.heap.size 33 #[.slice V v.length vc,.slice L l.length lc] (0,0) _ rfl Y Tryz.underlying33 rfl zt) rfl ?_;obtain⟨p3,p4,u1,M1,p1,o2,h2,p2,m12,m3⟩:=H3.out;have m12':=m12.setRow w.heap.size (.inl (.inr (.inr rfl))) #[.slice V v.length vc,.slice L l.length lc];have m3':=m3.setRow w.heap.size (.inl (.inr rfl)) #[.slice V v.length vc,.slice L l.length lc];refine⟨V,vc,L,lc,v,l,s2,rfl,hvl,hll,(u1.mods m12' (fun k hk e=>by have:=(u1.blk_lt k hk).1;omega)).base_le (by omega),(o2.mods m3' (fun k hk e=>by have:=(o2.blk_lt k hk).1;omega)).base_le (by omega),?_,fun e=>?_,fun e=>?_,M1.trans m12' (fun b e=>by omega)⟩
 ·exact h2.mods m3' (by omega) (fun h0 k hk e=>by have:=HAB.out h0 k hk;omega)
 ·have e2:=p2 e;cases hb1:s1.2 with
  | true=>have:=zdi (b:=b) hb1;rw[e2] at this;simp only at this;rw[e] at this;cases this
  | false =>
   have e1:=p1 hb1;have k1:confV b s=v:=(by unfold confV;rw[e1]);have k2:confL b s=l:=(by unfold confL;rw[e1];show(rids b s1).1=l;rw[e2]);have k3:confS b s=s2:=(by unfold confS;rw[e1];show(rids b s1).2=s2;rw[e2]);exact⟨k1.symm,k2.symm,k3.symm⟩
 ·have h1:(rids b s).2.2=false:=by
   cases hb1:(rids b s).2.2 with
   | false=>rfl
   | true=>have:=zdi (b:=b) hb1;unfold confS at e;rw[e] at this;cases this
  have e1:=p1 (p4 h1);unfold confS at e;rw[e1] at e;exact p3 e
theorem zay(o:Nat)(b:List UInt8)(A:Option Addr)(c:Nat)(s:Int × Bool)(w:World)(h:RIn o w b A c s)(r:Bool)(hr:(!s.2 && decide (s.1=(b.length:Int)))=r) :
  Calls Tryz.prog 147 #[.pointer (some ⟨o,0,none⟩)] w fun e w'=>e=.returned (.bool r)/\Below w.heap.size w w':=by
 obtain⟨p,bad⟩:=s;have c0:=h.blk.cell 0 (v:=.slice A b.length c) rfl;have c1:=h.blk.cell 1 (v:=.int .i64 p) rfl;have c2:=h.blk.cell 2 (v:=.bool bad) rfl;have HR:=qh hr;clear h hr;go_enter Tryz.func147,Tryz.ntmps147;cases bad with
 | true =>
  go_wp2_with fail
  go_quiet (fail)
  go_wp2_with fail;go_ret;exact⟨by rw[<-HR.out];rfl,bdN (Below.refl _ _) _⟩
 | false =>
  go_wp2_with fail
  go_quiet (fail)
  go_wp2_with fail;go_ret;exact⟨by rw[<-HR.out];refine zM ?_;by_cases e:p=(b.length:Int)<;>simp[e],bdN (Below.refl _ _) _⟩
end
end Go.Proofs.YtobdmlejabjmiaaGreatDoor
