/- Made small by a program. -/
import Derived.Test.YtobdmlejabjmiaaGreatDoorZc07
import Derived.Test.YtobdmlejabjmiaaGreatDoorZc04
import Derived.OneCell
import Derived.RegionTactic
import Derived.BigRegion
import Derived.StillTailTactics
import Derived.Deep.QuietTactic
import Derived.BigQuiet
import Derived.Deep.Fields
set_option maxRecDepth 20000
set_option maxHeartbeats 8000000
namespace Go.Proofs.YtobdmlejabjmiaaGreatDoor
open Go.RowKit
structure OneN(w w':World)(g:Nat)(T:TypeId)(k:IntKind)(r:Int):Prop where
 only:w.grownBy w' (some g)
 blk:w'.heap[g]?=some (.cells #[.int k r] T (0,0))
theorem OneN.cell{w w':World}{g:Nat}{T:TypeId}{k:IntKind}{r:Int}(h:OneN w w' g T k r):w'.cell? ⟨g,0,none⟩=some (.int k r):=cell_of_one h.blk
theorem OneN.free{w w':World}{g:Nat}{T:TypeId}{k:IntKind}{r:Int}(h:OneN w w' g T k r):w'.frozen? ⟨g,0,none⟩=false:=free_of_one h.blk
theorem OneN.drew{w w':World}{g:Nat}{T:TypeId}{k:IntKind}{r:Int}(h:OneN w w' g T k r):OneN w w'.drew g T k r:=⟨⟨h.only.os,h.only.tape,h.only.output,h.only.size,h.only.block⟩,h.blk⟩
theorem OneN.set{w w':World}{g:Nat}{T:TypeId}{k:IntKind}{r:Int}(h:OneN w w' g T k r)(s:Int):OneN w (w'.setCell ⟨g,0,none⟩ (.int k s)) g T k s :=
 ⟨⟨h.only.os,h.only.tape,h.only.output,by simpa [World.setCell] using h.only.size,fun i hi hne=>(Below.heap_setCell w' ⟨g,0,none⟩ _ i (fun e=>hne (by rw[e]))).trans (h.only.block i hi hne)⟩,one_setCell h.blk⟩
theorem OneN.refl{w:World}{g:Nat}{T:TypeId}{k:IntKind}{r:Int}(h:w.heap[g]?=some (.cells #[.int k r] T (0,0))):OneN w w g T k r:=⟨World.grownBy.refl w _,h⟩
theorem RB.one_{w w':World}{A:Option Addr}{l:List UInt8}{g:Nat}{T:TypeId}{k:IntKind}{r:Int}(h:RB w A l)(hne:∀b off,0<l.length->A=some ⟨b,off,none⟩->b≠g)(ho:OneN w w' g T k r):RB w' A l :=
 h.keep ho.only.size fun b off hn e hb _=>World.cell?_of_block (w:=w) (ho.only.block b hb (fun e'=>hne b off hn e (by injection e')))
theorem zfq(g:Nat)(r:Nat)(A:Option Addr)(c:Nat)(l:List UInt8)(w:World)(hr:r<4294967296)(hg:w.heap[g]?=some (.cells #[.int .u32 (r:Int)] 245 (0,0)))(h:RB w A l)(hne:∀b off,0<l.length->A=some ⟨b,off,none⟩->b≠g)(hl:l.length<=9223372036854775807) :
  Calls Tryz.prog 176 #[.pointer (some ⟨g,0,none⟩),.slice A l.length c] w fun e w'=>e=.returned (.tuple #[])/\OneN w w' g 245 .u32 (crcL r l):=by
 go_enter Tryz.func176,Tryz.ntmps176;go_wp2_with fail;go_loopw [8] (fun i wr=>∃k:Nat,k<=l.length/\i=.int .i64 (k:Int)/\OneN w wr g 245 .u32 (crcL r (l.take k)))
  (fun i _=>l.length - (intOf i).toNat)
 case atStart=>exact⟨0,Nat.zero_le _,rfl,by simpa [crcL] using OneN.refl hg⟩
 case round =>
  obtain⟨k,hk,rfl,ho⟩:=hrel;by_cases hlt:k<l.length
  ·obtain⟨b,off,rfl,hb,hc⟩:=(h.one_ hne ho).cell hlt;have hcg:=ho.cell;have hfg:=ho.free;have hs:crcL r (l.take k)<4294967296:=zca hr _;obtain⟨s,hs'⟩:∃s,s=crcL r (l.take k):=⟨_,rfl⟩;rw[<-hs'] at hs hcg ho;have HS:=qh hs';clear hs';obtain⟨x,hx'⟩:∃x,x=l[k]:=⟨_,rfl⟩;rw[<-hx'] at hc;have HX:=qh hx';clear hx';have hxx:=x.toNat_lt;have e1:bits BinOp.xor IntKind.u32 (s:Int) (x.toNat:Int)=((s ^^^ x.toNat:Nat):Int):=u32_xor_nat _ _ hs (by omega);go_wp2_with fail;obtain⟨wo,rfl⟩:∃wo:World,wo=wr:=⟨_,rfl⟩;clear hc hcg hfg e1;go_loopw [21] (fun i wr=>∃j:Nat,j<=8/\i=.int .i64 (j:Int)/\OneN w wr g 245 .u32 (crcBits j (s ^^^ x.toNat)))
    (fun i _=>8 - (intOf i).toNat)
   case atStart=>exact⟨0,Nat.zero_le _,rfl,ho.set _⟩
   case round =>
    obtain⟨j,hj,rfl,hoj⟩:=hrel;by_cases hj8:j<8
    ·have hcg:=hoj.cell;have hfg:=hoj.free;have hq:crcBits j (s ^^^ x.toNat)<4294967296:=zai j (zfA hs (by omega));obtain⟨q,hq'⟩:∃q,q=crcBits j (s ^^^ x.toNat):=⟨_,rfl⟩;rw[<-hq'] at hq hcg hoj;have HQ:=qh hq';clear hq';have hx1:bits BinOp.xor IntKind.u32 ((q:Int) / 2) 3988292384=((q / 2 ^^^ 3988292384:Nat):Int):=u32_xor_nat (q / 2) 3988292384 (by omega) (by omega);have hx0:bits BinOp.xor IntKind.u32 ((q:Int) / 2) 0=((q / 2 ^^^ 0:Nat):Int):=u32_xor_nat (q / 2) 0 (by omega) (by omega);have ha:bits BinOp.and IntKind.u32 (q:Int) 1=((q &&& 1:Nat):Int):=u32_and_nat q 1 hq (by omega);rw[nat_mask1] at ha;have hb1:bits BinOp.and IntKind.u32 4294967295 3988292384=3988292384:=(by decide);have hb0:bits BinOp.and IntKind.u32 0 3988292384=0:=(by decide);have hn1:IntKind.u32.wrap (-1)=4294967295:=by decide
     rcases Nat.mod_two_eq_zero_or_one q with hm | hm
     ·have HM:=qh hm;rw[hm] at ha;clear hm;go_wp2_with fail
      go_region
      go_wp2_with fail;go_roundw
      case rel=>exact⟨j+1,by omega,by go_num,by
       rw[jQ,<-HQ.out,crcBit,HM.out];rw[show((q / 2 ^^^ (if 0=1 then poly else 0):Nat):Int)=(q:Int) / 2 from by simp];exact(hoj.set _).drew⟩
      case measure=>simp[intOf];omega
     ·have HM:=qh hm;rw[hm] at ha;clear hm;go_wp2_with fail
      go_region
      go_wp2_with fail;go_roundw
      case rel=>exact⟨j+1,by omega,by go_num,by
       rw[jQ,<-HQ.out,crcBit,HM.out];exact(hoj.set _).drew⟩
      case measure=>simp[intOf];omega
    ·obtain rfl:j=8:=(by omega);have hfin:crcBits 8 (s ^^^ x.toNat)=crcL r (l.take (k+1)):=by
      rw[List.take_succ_eq_append_getElem hlt,zep,<-HS.out,<-HX.out,crcByte]
     rw[hfin] at hoj;clear hfin;go_wp2_with fail;go_roundw
     case rel=>exact⟨k+1,by omega,by go_num,hoj⟩
     case measure=>simp[intOf];omega
  ·go_wp2_with fail
   go_end0
   exact⟨rfl,by rw[List.take_of_length_le (by omega)] at ho;exact ho⟩
def allB(L:List (Option Addr × Nat × List UInt8)):List UInt8:=L.flatMap fun t=>t.2.2
theorem je(X:Option Addr)(c:Nat)(L:List (Option Addr × Nat × List UInt8))(w:World)(h:RBB w X L)(hl:L.length<=9223372036854775807) :
  Calls Tryz.prog 126 #[.slice X L.length c] w fun e w'=>e=.returned (.int .u32 (crc (allB L)))/\Below w.heap.size w w':=by
 go_enter Tryz.func126,Tryz.ntmps126;go_wp2_with fail;have hw0:Below w.heap.size w (w.alloc (.cells #[.int .u32 4294967295] 245)):=(Below.refl _ _).alloc (Nat.le_refl _) _;have hg0:(w.alloc (.cells #[.int .u32 4294967295] 245)).heap[w.heap.size]?=some (.cells #[.int .u32 4294967295] 245 (0,0)):=heap_alloc_new w _;have ho0:OneN (w.alloc (.cells #[.int .u32 4294967295] 245)) (w.alloc (.cells #[.int .u32 4294967295] 245)) w.heap.size 245 .u32 (crcL 4294967295 (allB (L.take 0))):=OneN.refl hg0;generalize w.alloc (.cells #[.int .u32 4294967295] 245)=w0 at hw0 hg0 ho0 ⊢;clear hg0;go_loopw [9] (fun i wr=>∃k:Nat,k<=L.length/\i=.int .i64 (k:Int)/\OneN w0 wr w.heap.size 245 .u32 (crcL 4294967295 (allB (L.take k))))
  (fun i _=>L.length - (intOf i).toNat)
 case atStart=>exact⟨0,Nat.zero_le _,rfl,ho0⟩
 case round =>
  obtain⟨k,hk,rfl,ho⟩:=hrel;have hb:Below w.heap.size w wr:=hw0.grown ho.only hw0.size (fun g hg=>by injection hg with hg;omega);by_cases hlt:k<L.length
  ·obtain⟨b,off,rfl,hbl,hc⟩:=(h.below hb).cell hlt;obtain⟨hr1,hr2⟩:=h.each L[k] (List.getElem_mem hlt);have hr1':=hr1.below hb;have hfar:∀b off,0<L[k].2.2.length->L[k].1=some ⟨b,off,none⟩->b≠w.heap.size:=by
    intro b off hpos e;obtain⟨b',off',e',hb',_⟩:=hr1.at_ hpos;rw[e] at e';injection e' with e'
    injection e' with e'
    omega
   have hs:crcL 4294967295 (allB (L.take k))<4294967296:=zca (by omega) _;obtain⟨s,hs'⟩:∃s,s=crcL 4294967295 (allB (L.take k)):=⟨_,rfl⟩;rw[<-hs'] at hs ho;have HS:=qh hs';have C:=qh (zfq w.heap.size s L[k].1 L[k].2.1 L[k].2.2 wr hs ho.blk hr1' hfar (by omega));have HN:Hid (crcL s L[k].2.2=crcL 4294967295 (allB (L.take (k+1)))):=qh (by
    rw[List.take_succ_eq_append_getElem hlt,HS.out];unfold allB;rw[List.flatMap_append,zb9];simp)
   clear hs' hfar hr1 hr1' hr2 HS;go_wp2_with fail;refine C.out.mono ?_;rintro e w' ⟨rfl,ho'⟩;rw[HN.out] at ho';have ho2:OneN w0 w' w.heap.size 245 .u32 (crcL 4294967295 (allB (L.take (k+1)))) :=
    ⟨⟨ho'.only.os.trans ho.only.os,ho'.only.tape.trans ho.only.tape,ho'.only.output.trans ho.only.output,Nat.le_trans ho.only.size ho'.only.size,fun i hi hne=>(ho'.only.block i (Nat.lt_of_lt_of_le hi ho.only.size) hne).trans (ho.only.block i hi hne)⟩,ho'.blk⟩
   clear C HN ho' ho hc hb;go_wp2_with fail;go_roundw
   case rel=>exact⟨k+1,by omega,by go_num,ho2⟩
   case measure=>simp[intOf];omega
  ·rw[List.take_of_length_le (by omega)] at ho;have hcg:=ho.cell;have hs:crcL 4294967295 (allB L)<4294967296:=zca (by omega) _;have hfin:Hid (crc (allB L)=4294967295 - crcL 4294967295 (allB L)):=qh rfl;generalize crcL 4294967295 (allB L)=s at *;clear ho;go_wp2_with fail;go_ret;exact⟨j4 (by rw[show IntKind.u32.max=((4294967295:Nat):Int) from rfl,u32_xor_nat _ _ (by omega) hs,ones_xor s hs,hfin.out]),hb⟩
def fourB(n:Nat):List UInt8:=[UInt8.ofNat (n / 16777216),UInt8.ofNat (n / 65536 % 256),UInt8.ofNat (n / 256 % 256),UInt8.ofNat (n % 256)]
def frameB(d:List UInt8):List UInt8:=fourB d.length++fourB (crc (fourB d.length++d))++d
theorem zeG(n:Nat):(fourB n).length=4:=rfl
theorem u8_ofNat{n:Nat}(h:n<256):((UInt8.ofNat n).toNat:Int)=(n:Int):=by
 rw[UInt8.toNat_ofNat'];omega
theorem OB.lit4(w:World){base:Nat}(hb:base<=w.heap.size)(x0 x1 x2 x3:UInt8){V0 V1 V2 V3:Int}(h0:V0=(x0.toNat:Int))(h1:V1=(x1.toNat:Int))(h2:V2=(x2.toNat:Int))(h3:V3=(x3.toNat:Int)) :
  OB (w.alloc (.cells #[.int .u8 V0,.int .u8 V1,.int .u8 V2,.int .u8 V3] 5)) base (some ⟨w.heap.size,0,none⟩) 4 [x0,x1,x2,x3]:=by
 subst h0;subst h1;subst h2;subst h3;exact World.ownsRow_lit w (bcells [x0,x1,x2,x3]).toArray 4 hb (by unfold maxLen;omega) rfl
theorem zbr(n:Int)(w:World)(h0:0<=n)(h1:n<=4294967295) :
  Calls Tryz.prog 152 #[.int .u32 n] w (NewB w (fourB n.toNat)):=by
 obtain⟨m,rfl⟩:=Int.eq_ofNat_of_zero_le h0;go_enter Tryz.func152,Tryz.ntmps152;go_wp2_with fail;go_ret;refine newB (k:=[UInt8.ofNat (m / 16777216),UInt8.ofNat (m / 65536 % 256),UInt8.ofNat (m / 256 % 256),UInt8.ofNat (m % 256)]) (by simp[fourB]) (OB.lit4 w (Nat.le_refl _) _ _ _ _ ?_ ?_ ?_ ?_) ((Below.refl _ _).alloc (Nat.le_refl _) _);all_goals (rw[u8_ofNat (by omega)];omega)
def NewBE(w:World)(l:List UInt8)(err:Int)(e:Ending)(w':World):Prop :=
 ∃(k:List UInt8) (A:Option Addr) (c:Nat),Hid (k=l)/\k.length<=l.length/\l.length<=k.length/\e=.returned (.tuple #[.slice A k.length c,.int .i64 err])/\OB w' w.heap.size A c k/\Below w.heap.size w w'
theorem newBE{w w':World}{l k:List UInt8}{A:Option Addr}{c:Nat}{err:Int}(hk:k=l)(h:OB w' w.heap.size A c k)(hb:Below w.heap.size w w'):NewBE w l err (.returned (.tuple #[.slice A k.length c,.int .i64 err])) w' :=
 ⟨k,A,c,qh hk,by rw[hk];exact Nat.le_refl _,by rw[hk];exact Nat.le_refl _,rfl,h,hb⟩
theorem crc_le(l:List UInt8):crc l<=4294967295:=by unfold crc;omega
theorem jH(d:List UInt8):(frameB d).length=8+d.length:=by simp[frameB,fourB];omega
theorem zah(A:Option Addr)(c:Nat)(d:List UInt8)(w:World)(h:RB w A d)(hl:d.length<=65536) :
  Calls Tryz.prog 87 #[.slice A d.length c] w (NewBE w (frameB d) 0):=by
 have h1:¬(65536:Int)<(d.length:Int):=by omega
 go_enter Tryz.func87,Tryz.ntmps87;go_wp2_with fail;refine(zbr d.length w (by omega) (by omega)).mono ?_;rintro e w1 ⟨k1,A1,c1,hk1,hk11,hk12,rfl,ho1,hb1⟩;have hk1l:k1.length=4:=by rw[hk1.out];rfl
 have hk1l1:k1.length<=4:=by omega
 have hk1l2:4<=k1.length:=by omega
 have E1:Hid (k1=fourB d.length):=qh (by rw[hk1.out,Int.toNat_natCast]);clear hk1 hk11 hk12 hk1l;go_wp2_with fail;have C2:=je (some ⟨w1.heap.size,0,none⟩) 2 [(A1,c1,k1),(A,c,d)] _ (RBB.two_at _ c1 c rfl ho1.rb (h.below hb1) (by omega) (by omega)) (by simp);have hall:allB [(A1,c1,k1),(A,c,d)]=k1++d:=by simp[allB]
 rw[hall] at C2;have hcr:=crc_le (k1++d);obtain⟨s,hs⟩:∃s,s=crc (k1++d):=⟨_,rfl⟩;rw[<-hs] at C2 hcr;have HS:=qh hs;clear hs hall;refine C2.mono ?_;rintro e w2 ⟨rfl,hb2⟩;clear C2;have B2:Below w.heap.size w w2:=(hb1.alloc hb1.size _).trans (hb2.mono (by have:=hb1.size;simp;omega));have ho2:OB w2 w.heap.size A1 c1 k1:=(ho1.alloc _).below hb2;clear hb2 ho1 hb1;go_wp2_with fail;refine(zbr s w2 (by omega) (by omega)).mono ?_;rintro e w3 ⟨k3,A3,c3,hk3,hk31,hk32,rfl,ho3,hb3⟩;have hk3l1:k3.length<=4:=by rw[hk3.out,zeG];omega
 have E3:Hid (k3=fourB s):=qh (by rw[hk3.out,Int.toNat_natCast]);have B3:Below w.heap.size w w3:=B2.trans (hb3.mono B2.size);have ho2':=ho2.below hb3;clear hk3 hk31 hk32 ho2 hb3;go_wp2_with (first
  | (at_builtin;refine zO _ rfl (.tmp 12) (.tmp 17) rfl w.heap.size _ _ _ _ k1 k3 rfl rfl ho2' ho3.rb (by omega) B3.size ?_;intro k4 A4 c4 w4 hk4 hk41 hk42 ho4 hg4;have B4:Below w.heap.size w w4:=B3.grown hg4 B3.size fun g hg=>(ho2'.own_lt g hg).1;have hd4:=h.below B4)
  | (at_builtin;refine zO _ rfl (.tmp 19) (.tmp 20) rfl w.heap.size _ _ _ _ k4 d rfl rfl ho4 hd4 (by omega) B4.size ?_;intro k5 A5 c5 w5 hk5 hk51 hk52 ho5 hg5))
 go_ret2
 exact newBE (by rw[hk5.out,hk4.out,E3.out,HS.out,E1.out];simp[frameB]) ho5 (B4.grown hg5 B4.size fun g hg=>(ho4.own_lt g hg).1)
def Ext(w w':World):Prop:=Below w.heap.size w w'
theorem Ext.refl(w:World):Ext w w:=Below.refl _ _
theorem Ext.trans{a b c:World}(h:Ext a b)(k:Ext b c):Ext a c:=Below.trans h (Below.mono k h.size)
def planB(md:Region.Mode)(ops:Array Oper):List (Nat × Bool)->Array Bool->Bool
 | [],listed=>(Region.ready md ops listed).isEmpty
 | (i,true)::r,listed=>Region.free md ops listed i && (Region.ready md ops listed).contains i && planB md ops r (listed.setIfInBounds i true)
 | (i,false)::r,listed=>(Region.ready md ops listed == [i]) && planB md ops r (listed.setIfInBounds i true)
def wpPlan(P:Program)(ops:Array Oper)(Q:Exit->Act->World->Prop):List (Nat × Bool)->Act->World->Prop
 | [],a,w=>Q .normal a w
 | (i,true)::r,a,w=>∃o v,ops[i]?=some o/\YieldsIf P ops (Ext w) o v a/\wpPlan P ops Q r (a.put o.dst v) w
 | (i,false)::r,a,w=>∃o,ops[i]?=some o/\wpOp P ops Q i (fun a' w'=>Ext w w'/\wpPlan P ops Q r a' w') a w
section
variable {P:Program} {ops:Array Oper} {Q:Exit->Act->World->Prop} {md:Region.Mode}
theorem zby{S S':World->Prop}(h:∀w,S' w->S w):∀(fuel:Nat) (listed:Array Bool) (a:Act) (w:World),wpAnyH P md ops Q S' fuel listed a w->wpAnyH P md ops Q S fuel listed a w
 | 0,_,_,_,hh=>hh
 | fuel+1,_,_,_,hh=>⟨hh.1,fun i hi=>wpOp_mono (fun a' w' h'=>⟨h _ h'.1,zby h fuel _ a' w' h'.2⟩) (hh.2 i hi)⟩
theorem jL(hs:Region.noSelect ops=true)(hQ:∀c a w,¬Q (.panic c) a w):∀(plan:List (Nat × Bool)) (fuel:Nat) (listed:Array Bool) (a:Act) (w:World),
  plan.length<=fuel->planB md ops plan listed=true->wpPlan P ops Q plan a w->wpAnyH P md ops Q (Ext w) fuel listed a w
 | [],fuel,listed,a,w,_,hp,h=>wpAnyH_done (by simpa [planB] using hp) h fuel
 | (i,true)::r,0,_,_,_,hf,_,_=>by simp at hf
 | (i,false)::r,0,_,_,_,hf,_,_=>by simp at hf
 | (i,true)::r,fuel+1,listed,a,w,hf,hp,h=>by
  obtain⟨o,v,ho,hy,hr⟩:=h;simp only[planB,Bool.and_eq_true] at hp;exact wpAnyH_take ho hs hp.1.1 hp.1.2 (fun c a w hh=>absurd hh (hQ _ _ _)) hy (Ext.refl w) (jL hs hQ r fuel _ _ w (by simpa using hf) hp.2 hr)
 | (i,false)::r,fuel+1,listed,a,w,hf,hp,h=>by
  obtain⟨o,ho,hw⟩:=h;simp only[planB,Bool.and_eq_true,beq_iff_eq] at hp;refine wpAnyH_all hp.1 (by simp) fun j hj=>?_
  rw[List.mem_singleton] at hj;subst hj;exact wpOp_mono (fun a' w' ⟨he,hr⟩=>⟨he,zby (fun x hx=>he.trans hx) fuel _ a' w' (jL hs hQ r fuel _ a' w' (by simpa using hf) hp.2 hr)⟩) hw
theorem yy{id:Nat}{a:Act}{w:World}(hm:P.follows .mixedOrders=true)(plan:List (Nat × Bool))(hs:Region.noSelect ops=true)
  (hp:planB .any ops plan (Array.replicate ops.size false)=true) (hl:plan.length<=ops.size) (h:wpPlan P ops (NoPanic Q) plan a w.drew):(Code.region id ops true).wp P Q a w :=
 wp_region_noPanic (wp_region_held (S:=Ext w.drew) hm (jL hs (fun _ _ _ hh=>hh) plan _ _ a _ hl hp h))
theorem yE{i:Nat}{r:List (Nat × Bool)}{a:Act}{w:World}{o:Oper}{v:Value}(ho:ops[i]?=some o)(hw:Region.wanted o (yielded ops a.tmps)=true)
  (hy:∀w',Ext w w'->(execOp a.eval o).run P w'=.ok (.value v) w') (h:wpPlan P ops Q r (a.put o.dst v) w):wpPlan P ops Q ((i,true)::r) a w :=
 ⟨o,v,ho,.inl ⟨hw,hy⟩,h⟩
theorem zL{i:Nat}{r:List (Nat × Bool)}{a:Act}{w:World}{o:Oper}(ho:ops[i]?=some o)(hw:Region.wanted o (yielded ops a.tmps)=true)
  (h:∀K:Act->World->Prop,(∀a' w',Ext w w'->wpPlan P ops Q r a' w'->K a' w')->o.wp P a w K Q):wpPlan P ops Q ((i,false)::r) a w:=by
 refine⟨o,ho,?_⟩;unfold wpOp;rw[ho];simp only[hw,if_true];exact .inl (h _ fun a' w' h1 h2=>⟨h1,h2⟩)
theorem j3{a:Act}{w:World}(h:Q .normal a w):wpPlan P ops (NoPanic Q) [] a w:=NoPanic.normal h
end
theorem RB.partR{w:World}{bb off:Nat}{b:List UInt8}(h:RB w (some ⟨bb,off,none⟩) b)(f n:Nat):RB w (some ⟨bb,off+f,none⟩) ((b.drop f).take n):=by
 refine⟨fun hn=>?_⟩;have hf:f<b.length:=by
  simp at hn;omega
 obtain⟨b',off',e,hb,hc⟩:=h.at_ (by omega);injection e with e
 injection e with e1 e2
 subst e1 e2;refine⟨bb,off+f,rfl,hb,fun j x hx=>?_⟩;have:=hc (f+j) x (by
  rw[List.getElem?_take] at hx;split at hx
  ·rw[List.getElem?_drop] at hx;exact hx
  ·cases hx)
 rw[Nat.add_assoc];exact this
theorem zaN(A:Option Addr)(c n:Nat)(l:List UInt8)(hn:l.length=n)(w:World)(h:RB w A l)(hl:n<=210000000000000) :
  Calls Tryz.prog 82 #[.slice A n c] w (NewB w l):=by
 subst hn;exact qc A c l w h (by omega)
theorem zb4{b:List UInt8}{i:Int}(h:(numAt b i).2.2≠0):bytesAt b i=([],0,(numAt b i).2.2):=by rw[bytesAt,if_neg h]
theorem zaL{b:List UInt8}{i:Int}(h:(numAt b i).2.2=0)(hs:(b.length:Int)<(numAt b i).2.1+(numAt b i).1):bytesAt b i=([],0,5):=by rw[bytesAt,if_pos h,if_neg (by omega)]
theorem zb6{b:List UInt8}{i:Int}(h:(numAt b i).2.2=0)(hs:¬(b.length:Int)<(numAt b i).2.1+(numAt b i).1):bytesAt b i=((b.drop (numAt b i).2.1.toNat).take (numAt b i).1.toNat,(numAt b i).2.1+(numAt b i).1,0):=by rw[bytesAt,if_pos h,if_pos (by omega)]
theorem or24(x y:Nat)(hx:x<256)(hy:y<256):bits BinOp.or IntKind.u32 ((x:Int)*16777216) ((y:Int)*65536)=(x:Int)*16777216+(y:Int)*65536:=by
 have h:=u32_or_nat (x*16777216) (y*65536) (by omega) (by omega);have e:=Nat.shiftLeft_add_eq_or_of_lt (a:=x) (b:=y*65536) (i:=24) (by omega);rw[Nat.shiftLeft_eq,show x*2 ^ 24=x*16777216 from rfl] at e;rw[<-e] at h;simpa using h
theorem or_low(m k b i:Nat)(hm:m=k*2 ^ i)(hb:b<2 ^ i):m ||| b=m+b:=by
 subst hm;have:=Nat.shiftLeft_add_eq_or_of_lt (a:=k) (b:=b) (i:=i) hb;rw[Nat.shiftLeft_eq] at this;exact this.symm
theorem or16(x y z:Nat)(hx:x<256)(hy:y<256)(hz:z<256):bits BinOp.or IntKind.u32 ((x:Int)*16777216+(y:Int)*65536) ((z:Int)*256)=(x:Int)*16777216+(y:Int)*65536+(z:Int)*256:=by
 have h:=u32_or_nat (x*16777216+y*65536) (z*256) (by omega) (by omega);rw[or_low (x*16777216+y*65536) (x*256+y) (z*256) 16 (by rw[show 2 ^ 16=65536 from rfl];omega) (by rw[show 2 ^ 16=65536 from rfl];omega)] at h;simpa using h
theorem or8(x y z v:Nat)(hx:x<256)(hy:y<256)(hz:z<256)(hv:v<256):bits BinOp.or IntKind.u32 ((x:Int)*16777216+(y:Int)*65536+(z:Int)*256) (v:Int)=(x:Int)*16777216+(y:Int)*65536+(z:Int)*256+(v:Int):=by
 have h:=u32_or_nat (x*16777216+y*65536+z*256) v (by omega) (by omega);rw[or_low (x*16777216+y*65536+z*256) (x*65536+y*256+z) v 8 (by rw[show 2 ^ 8=256 from rfl];omega) (by rw[show 2 ^ 8=256 from rfl];omega)] at h;simpa using h
theorem unB_four(a b c d:UInt8):((unB [a,b,c,d]:Nat):Int)=(a.toNat:Int)*16777216+(b.toNat:Int)*65536+(c.toNat:Int)*256+(d.toNat:Int):=by
 have e:unB [a,b,c,d]=((a.toNat*256+b.toNat)*256+c.toNat)*256+d.toNat:=by simp[unB]
 rw[e];omega
theorem zbs(A:Option Addr)(n c:Nat)(l:List UInt8)(w:World)(h:RB w A l)(hl:l.length=4)(hn:4<=n)(_hm:n<=210000000000000) :
  Calls Tryz.prog 125 #[.slice A n c] w fun e w'=>e=.returned (.int .u32 (unB l:Nat))/\∃k,w'=w.drewN k:=by
 match l,hl with
 | [x0,x1,x2,x3],_ =>
  obtain⟨bb,off,rfl,hbb,hc⟩:=h.at_ (by simp);have c0:=hc 0 x0 rfl;have c1:=hc 1 x1 rfl;have c2:=hc 2 x2 rfl;have c3:=hc 3 x3 rfl;rw[Nat.add_zero] at c0;have HU:=qh (unB_four x0 x1 x2 x3);have l0:=x0.toNat_lt;have l1:=x1.toNat_lt;have l2:=x2.toNat_lt;have l3:=x3.toNat_lt;clear hc h;have e24:=or24 x0.toNat x1.toNat (by omega) (by omega);have e16:=or16 x0.toNat x1.toNat x2.toNat (by omega) (by omega) (by omega);have e8:=or8 x0.toNat x1.toNat x2.toNat x3.toNat (by omega) (by omega) (by omega) (by omega);generalize x0.toNat=a at *;generalize x1.toNat=b at *;generalize x2.toNat=d at *;generalize x3.toNat=f at *;have g0:(0:Int)<(n:Int):=by omega
  have g1:(1:Int)<(n:Int):=by omega
  have g2:(2:Int)<(n:Int):=by omega
  have g3:(3:Int)<(n:Int):=by omega
  go_enter Tryz.func125,Tryz.ntmps125;go_wp2_with fail
  go_quiet (fail)
  go_wp2_with fail;go_ret;exact⟨j4 HU.out.symm,_,rfl⟩
end Go.Proofs.YtobdmlejabjmiaaGreatDoor
namespace Go.Proofs.YtobdmlejabjmiaaGreatDoor
open Go.ChangeShapes Go.WideShapes Go.ChangeAt Go.RowKit Go.Deep
structure RS(w:World)(X:Option Addr)(k:Nat)(L:List (List Value)):Prop where
 at_:0<L.length->∃b off,X=some ⟨b,off,none⟩/\b<w.heap.size/\∀i cs,L[i]?=some cs->∀j v,cs[j]?=some v->w.cell? ⟨b,off+i*k+j,none⟩=some v
theorem RS.below{w w':World}{X:Option Addr}{k:Nat}{L:List (List Value)}(h:RS w X k L)(hb:Below w.heap.size w w'):RS w' X k L :=
 ⟨fun hn=>by
  obtain⟨b,off,e,hlt,hc⟩:=h.at_ hn;exact⟨b,off,e,Nat.lt_of_lt_of_le hlt hb.size,fun i cs hi j v hj=>(hb.cell (p:=⟨b,_,none⟩) hlt).trans (hc i cs hi j v hj)⟩⟩
theorem RS.row{w:World}{X:Option Addr}{k:Nat}{L:List (List Value)}(h:RS w X k L){i:Nat}(hi:i<L.length):∃b off,X=some ⟨b,off,none⟩/\b<w.heap.size/\∀j v,L[i][j]?=some v->w.cell? ⟨b,off+i*k+j,none⟩=some v:=by
 obtain⟨b,off,e,hlt,hc⟩:=h.at_ (by omega);exact⟨b,off,e,hlt,fun j v hj=>hc i _ (List.getElem?_eq_getElem hi) j v hj⟩
theorem RS.get{w:World}{b off k:Nat}{L:List (List Value)}(h:RS w (some ⟨b,off,none⟩) k L){i:Nat}{cs:List Value}(hi:L[i]?=some cs)(j:Nat){v:Value}(hj:cs[j]?=some v):w.cell? ⟨b,off+i*k+j,none⟩=some v:=by
 obtain⟨b',off',e,_,hc⟩:=h.at_ (by have:=(List.getElem?_eq_some_iff.1 hi).1;omega);injection e with e
 injection e with e1 e2
 subst e1 e2;exact hc i cs hi j v hj
inductive FK where
 | int (k:IntKind) | bool | str | bytes
inductive Fv where
 | int (k:IntKind) (n:Int) | bool (b:Bool) | str (l:List UInt8) | bytes (A:Option Addr) (c:Nat) (l:List UInt8)
instance:Inhabited Fv:=⟨.bool false⟩
def Fv.val:Fv->Value
 | .int k n=>.int k n
 | .bool b=>.bool b
 | .str l=>.string ⟨l.toArray⟩
 | .bytes A c l=>.slice A l.length c
def Fv.ok(w:World):FK->Fv->Prop
 | .int k,.int k' n=>k'=k/\(Lit.int k n).wf=true
 | .bool,.bool _=>True
 | .str,.str l=>l.length<=140737488351232
 | .bytes,.bytes A c l=>RB w A l/\l.length<=c/\c<=9223372036854775807/\l.length<=140737488351232
 | _,_=>False
def rowOk(w:World):List FK->List Fv->Prop
 | [],[]=>True
 | k::ks,v::vs=>v.ok w k/\rowOk w ks vs
 | _,_=>False
def FK.is(P:Program)(t:TypeId):FK->Bool
 | .int k=>match P.underlying t with | some (.int k')=>decide (k'=k) | _=>false
 | .bool=>match P.underlying t with | some .bool=>true | _=>false
 | .str=>match P.underlying t with | some .string=>true | _=>false
 | .bytes=>match P.underlying t with
  | some (.slice e)=>(match P.underlying e with | some (.int .u8)=>true | _=>false) && P.cellsOf e == 1 && P.bytesOf e == 1
  | _=>false
section
variable {H:Type} {enc:TypeId × Value->H} {W:World}
theorem jB{P:Program}{t e:TypeId}{D:Nat->DataW H}{n:Nat}{spare:List (DataW H)}(hu:P.underlying t=some (.slice e))(h:(DataW.weights P t (.slice ((List.range n).map D) spare)).all (·<=reachBytes)=true){i:Nat}(hi:i<n) :
  ((D i).weights P e).all (·<=reachBytes)=true:=by
 rw[DataW.weights] at h;simp only[hu,List.all_cons,List.all_append,Bool.and_eq_true] at h;obtain⟨_,h1,_⟩:=h;have key:∀l:List (DataW H),(DataW.weightsAll P e l).all (·<=reachBytes)=true->∀d∈l,(d.weights P e).all (·<=reachBytes)=true:=by
  intro l
  induction l with
  | nil=>intro _ d hd;cases hd
  | cons x r ih =>
   intro h d hd;rw[DataW.weightsAll,List.all_append,Bool.and_eq_true] at h
   rcases List.mem_cons.1 hd with rfl | hd
   ·exact h.1
   ·exact ih h.2 d hd
 exact key _ h1 _ (List.mem_map.2 ⟨i,by simpa using hi,rfl⟩)
theorem yI{P:Program}:∀{ts:List TypeId} {ds:List (DataW H)},(DataW.weightsEach P ts ds).all (·<=reachBytes)=true->∀{j:Nat} {t:TypeId} {d:DataW H},ts[j]?=some t->ds[j]?=some d->(d.weights P t).all (·<=reachBytes)=true:=by
 intro ts ds h j t d ht hd;rw[List.all_eq_true] at h ⊢;exact fun n hn=>h n (DataW.weights_mem_each ht hd n hn)
theorem yJ{P:Program}{t:TypeId}{fs:Array Field}{ys:List (DataW H)}(hu:P.underlying t=some (.struct fs))(h:(DataW.weights P t (.agg ys)).all (·<=reachBytes)=true){j:Nat}{f:Field}{d:DataW H}(hf:fs[j]?=some f)(hd:ys[j]?=some d) :
  (d.weights P f.type).all (·<=reachBytes)=true:=by
 rw[DataW.weights] at h;simp only[hu] at h;exact yI h (by simpa using ⟨f,by simpa using hf,rfl⟩) hd
theorem jj{t:TypeId}{k:FK}{v:Value}{y:DataW H × List MemPlace}{fuel:Nat}(hk:k.is Tryz.prog t=true)(h:DataW.trod enc Tryz.prog W 0 (fun _=>true) true fuel t [v]=some y)(hw:(y.1.weights Tryz.prog t).all (·<=reachBytes)=true) :
  ∃f:Fv,v=f.val/\f.ok W k:=by
 cases k with
 | int k =>
  simp only[FK.is] at hk;split at hk
  ·rename_i k' hu;have:=of_decide_eq_true hk;subst this;obtain⟨n,hc,_,hwf⟩:=DataW.trod_int hu h;simp only[List.cons.injEq,and_true] at hc;exact⟨.int _ n,hc,rfl,hwf⟩
  ·cases hk
 | bool =>
  simp only[FK.is] at hk;split at hk
  ·rename_i hu;obtain⟨b,hc,_⟩:=DataW.trod_bool hu h;simp only[List.cons.injEq,and_true] at hc;exact⟨.bool b,hc,trivial⟩
  ·cases hk
 | str =>
  simp only[FK.is] at hk;split at hk
  ·rename_i hu;obtain⟨s,hc,hy,_⟩:=DataW.trod_string hu h;simp only[List.cons.injEq,and_true] at hc;refine⟨.str s.data.toList,by simpa [Fv.val] using hc,?_⟩;rw[hy] at hw;simp only[DataW.weights,List.all_cons,List.all_nil,Bool.and_true,decide_eq_true_eq] at hw;show s.data.toList.length<=_;unfold reachBytes at hw;omega
  ·cases hk
 | bytes =>
  simp only[FK.is] at hk;split at hk
  ·rename_i e hu;simp only[Bool.and_eq_true,beq_iff_eq] at hk;obtain⟨⟨he,hc1⟩,hb1⟩:=hk;split at he
   ·rename_i hue;obtain⟨A,c,zs,hcs,hcm⟩:=zbo hu hue hc1 h;simp only[List.cons.injEq,and_true] at hcs;obtain⟨l,hl,hr⟩:=hcm.bytes;refine⟨.bytes A c l,by rw[hcs,Fv.val,hl],hr,by rw[hl];exact hcm.cap,hcm.most,?_⟩
    rcases hcm.datum with⟨_,hz⟩ | ⟨elems,spare,hy,hel⟩
    ·rw[hl,hz];simp
    ·rw[hy] at hw;simp only[DataW.weights,hu,List.all_cons,Bool.and_eq_true,decide_eq_true_eq,hb1] at hw;have:=hw.1;unfold reachBytes at this;omega
   ·cases he
  ·cases hk
def kindsOk(P:Program):List FK->List Field->Bool
 | [],[]=>true
 | k::ks,f::fs=>k.is P f.type && kindsOk P ks fs
 | _,_=>false
theorem zac{ks:List FK}{fs:List Field}:∀(_hk:kindsOk Tryz.prog ks fs=true) (cs:List Value),cs.length=fs.length ->
  (∀(j:Nat) (f:Field),fs[j]?=some f->∀v,cs[j]?=some v->∃(y:DataW H × List MemPlace) (n:Nat),DataW.trod enc Tryz.prog W 0 (fun _=>true) true n f.type [v]=some y/\(y.1.weights Tryz.prog f.type).all (·<=reachBytes)=true)->∃r:List Fv,cs=r.map Fv.val/\rowOk W ks r:=by
 induction ks generalizing fs with
 | nil =>
  intro hk cs hl h;cases fs with
  | nil =>
   have:cs=[]:=List.eq_nil_of_length_eq_zero hl;exact⟨[],by simpa using this,trivial⟩
  | cons f fs=>simp[kindsOk] at hk
 | cons k ks ih =>
  intro hk cs hl h;cases fs with
  | nil=>simp[kindsOk] at hk
  | cons f fs =>
   cases cs with
   | nil=>simp at hl
   | cons c cs =>
    simp only[kindsOk,Bool.and_eq_true] at hk;obtain⟨y,n,h1,h2⟩:=h 0 f rfl c rfl;obtain⟨v,hv,hok⟩:=jj hk.1 h1 h2;obtain⟨r,hr,hro⟩:=ih hk.2 cs (by simpa using hl) (fun j f hj v hv=>h (j+1) f (by simpa using hj) v (by simpa using hv));exact⟨v::r,by rw[hv,hr];rfl,hok,hro⟩
end
end Go.Proofs.YtobdmlejabjmiaaGreatDoor
