/- Made small by a program. -/
import Derived.Test.YtobdmlejabjmiaaGreatDoorZc06
import Derived.Test.YtobdmlejabjmiaaGreatDoorZc14
set_option maxRecDepth 20000
set_option maxHeartbeats 8000000
namespace Go.Proofs.YtobdmlejabjmiaaGreatDoor
open Go.RowKit
section
variable {w w':World}
structure InAt(o:Nat)(w:World)(b:List UInt8)(A:Option Addr)(c:Nat)(s:Int × Bool):Prop where
 blk:Blk w o 236 #[.slice A b.length c,.int .i64 s.1,.bool s.2]
 rb:RB w A b
 ne:0<b.length->∀k,A.map (·.block)=some k->k≠o
 pos:inB b s
 cap:b.length<=c/\c<=9223372036854775807
 len:b.length<=210000000000000
theorem InAt.below{o c:Nat}{b:List UInt8}{A:Option Addr}{s:Int × Bool}(h:InAt o w b A c s)(hb:Below w.heap.size w w'):InAt o w' b A c s:=⟨h.blk.kept hb,h.rb.below hb,h.ne,h.pos,h.cap,h.len⟩
theorem InAt.mods{o c:Nat}{b:List UInt8}{A:Option Addr}{s:Int × Bool}{T:Nat->Prop}(h:InAt o w b A c s)(m:Mods T w w')(h1:¬T o)(h2:0<b.length->∀k,A.map (·.block)=some k->¬T k):InAt o w' b A c s:=⟨h.blk.mods m h1,h.rb.mods m h2,h.ne,h.pos,h.cap,h.len⟩
theorem InAt.set1{o c:Nat}{b:List UInt8}{A:Option Addr}{s:Int × Bool}(h:InAt o w b A c s){n:Int}(hn:inB b (n,s.2)):InAt o (w.setCell ⟨o,1,none⟩ (.int .i64 n)) b A c (n,s.2)/\Mods (·=o) w (w.setCell ⟨o,1,none⟩ (.int .i64 n)):=by
 have m:=Mods.setCell (S:=(·=o)) (Mods.refl (·=o) w) ⟨o,1,none⟩ (.inl rfl) (.int .i64 n);exact⟨⟨h.blk.setCell 1 (.int .i64 n),h.rb.mods m (fun h0 k hk e=>h.ne h0 k hk e),h.ne,hn,h.cap,h.len⟩,m⟩
theorem InAt.set2{o c:Nat}{b:List UInt8}{A:Option Addr}{s:Int × Bool}(h:InAt o w b A c s)(x:Bool):InAt o (w.setCell ⟨o,2,none⟩ (.bool x)) b A c (s.1,x)/\Mods (·=o) w (w.setCell ⟨o,2,none⟩ (.bool x)):=by
 have m:=Mods.setCell (S:=(·=o)) (Mods.refl (·=o) w) ⟨o,2,none⟩ (.inl rfl) (.bool x);exact⟨⟨h.blk.setCell 2 (.bool x),h.rb.mods m (fun h0 k hk e=>h.ne h0 k hk e),h.ne,h.pos,h.cap,h.len⟩,m⟩
theorem zch(o:Nat)(b:List UInt8)(A:Option Addr)(c:Nat)(s:Int × Bool)(w:World)(h:InAt o w b A c s) :
  Calls Tryz.prog 112 #[.pointer (some ⟨o,0,none⟩)] w fun e w'=>e=.returned (.int .u64 (rnum b s).1)/\InAt o w' b A c (rnum b s).2/\Mods (·=o) w w':=by
 obtain⟨p,bad⟩:=s;have c0:=h.blk.cell 0 (v:=.slice A b.length c) rfl;have c1:=h.blk.cell 1 (v:=.int .i64 p) rfl;have c2:=h.blk.cell 2 (v:=.bool bad) rfl;have f1:=h.blk.free 1;have f2:=h.blk.free 2;have H0:=qh h;cases bad with
 | true =>
  have e:rnum b (p,true)=(0,(p,true)):=rfl;rw[e];clear h e;go_enter Tryz.func112,Tryz.ntmps112;go_wp2_with fail;go_ret;exact⟨rfl,H0.out,Mods.refl _ _⟩
 | false =>
  have hp:=h.pos;have hlen:=h.len;have NM:=qh (fun n=>zaO A c b p (w.drewN n) (h.rb.drewN n) h.cap.1 h.cap.2 h.len (by have:=hp.1;have:=hp.2;simp only at *;omega));obtain⟨q,hq⟩:∃q,q=numAt b p:=⟨_,rfl⟩;have HQ:Hid (rnum b (p,false)=if q.2.2=0 then(q.1,(q.2.1,false)) else(0,(p,true))):=qh (by unfold rnum;rw[hq];rfl);have HOK:Hid (q.2.2=0->inB b (q.2.1,false)):=qh (fun h0=>by
   rw[hq] at h0 ⊢;have k:=jr h0;exact⟨by simp only;omega,by simp only;omega⟩)
  unfold NumE at NM;rw[<-hq] at NM;obtain⟨n,nx,er⟩:=q;clear h hq hp;by_cases h0:er=0
  ·subst h0;rw[HQ.out,if_pos rfl];have HP:=HOK.out rfl;clear HQ HOK;go_enter Tryz.func112,Tryz.ntmps112;go_wp2_with fail
   go_quiet ((go_at_call 167;exact Calls.quiet_of_same ((NM.out _).mono fun _ _ h=>⟨h.1,h.2.symm⟩)))
   go_wp2_with fail;go_ret;obtain⟨x1,x2⟩:=H0.out.set1 HP;exact⟨rfl,x1.below (bdN (Below.refl _ _) _),x2.drewN _⟩
  ·rw[HQ.out,if_neg h0];have hb0:(er == 0)=false:=(by simpa using h0);clear HQ HOK;go_enter Tryz.func112,Tryz.ntmps112;go_wp2_with fail
   go_quiet ((go_at_call 167;exact Calls.quiet_of_same ((NM.out _).mono fun _ _ h=>⟨h.1,h.2.symm⟩)))
   go_wp2_with fail;go_ret;obtain⟨x1,x2⟩:=H0.out.set2 true;exact⟨rfl,x1.below (bdN (Below.refl _ _) _),x2.drewN _⟩
theorem zcZ(o:Nat)(b:List UInt8)(A:Option Addr)(c:Nat)(s:Int × Bool)(w:World)(h:InAt o w b A c s)(m:Int)(hm:0<=m)(hm2:m<=1000000) :
  Calls Tryz.prog 151 #[.pointer (some ⟨o,0,none⟩),.int .i64 m] w fun e w'=>e=.returned (.int .i64 (rup b m s).1)/\InAt o w' b A c (rup b m s).2/\Mods (·=o) w w':=by
 have NU:=qh (zch o b A c s w h);obtain⟨hin,hr0,hr1⟩:=zcB h.pos;obtain⟨q,hq⟩:∃q,q=rnum b s:=⟨_,rfl⟩;have HQ:Hid (rup b m s=if m<q.1 then(0,(q.2.1,true)) else q):=qh (by unfold rup;rw[hq]);rw[<-hq] at NU hr0 hr1;have hwm:IntKind.u64.wrap m=m:=by
  rw[show IntKind.u64.wrap m=m % 18446744073709551616 from rfl];omega
 obtain⟨n,s1⟩:=q;clear h hq hin;go_enter Tryz.func151,Tryz.ntmps151;go_wp2_with fail;refine NU.out.mono ?_;rintro e w1 ⟨rfl,h1,m1⟩;have H1:=qh h1;have M1:=qh m1;have c2:=h1.blk.cell 2 (v:=.bool s1.2) rfl;have f2:=h1.blk.free 2;clear h1 m1 NU;simp only at hr0 hr1 ⊢;by_cases hlt:m<n
 ·go_wp2_with fail;go_ret;obtain⟨x1,x2⟩:=H1.out.set2 true;rw[HQ.out,if_pos hlt];exact⟨rfl,x1,M1.out.then x2⟩
 ·have hwn:IntKind.i64.wrap n=n:=IntWalk.i64_in _ (by omega);go_wp2_with fail;go_ret;rw[HQ.out,if_neg (by omega)];exact⟨rfl,H1.out,M1.out⟩
theorem inIds(o:Nat)(b:List UInt8)(A:Option Addr)(c:Nat)(s:Int × Bool)(w:World)(h:InAt o w b A c s) :
  Calls Tryz.prog 165 #[.pointer (some ⟨o,0,none⟩)] w fun e w'=>∃X xc,e=.returned (.slice X (rids b s).1.length xc)/\OV w' w.heap.size 3 X xc (ncells .i64 (rids b s).1)/\InAt o w' b A c (rids b s).2/\Mods (·=o) w w':=by
 obtain⟨i0,hi0,hz0,hz1,hz2⟩:=info_parts xP;have UP:=qh (zcZ o b A c s w h 16 (by decide) (by decide));obtain⟨hin,hr0,hr1⟩:=zdm h.pos (m:=16) (by decide);obtain⟨q,hq⟩:∃q,q=rup b 16 s:=⟨_,rfl⟩;have HQ:Hid (rids b s=ritr b q.1.toNat ([],q.2)):=qh (by unfold rids;rw[hq]);rw[<-hq] at UP hin hr0 hr1;obtain⟨n,s1⟩:=q;obtain⟨k0,rfl⟩:=Int.eq_ofNat_of_zero_le hr0;have HIN:=qh hin;have hlo:=h.blk.lt;have HAB:Hid (0<b.length->∀k,A.map (·.block)=some k->k<w.heap.size):=qh (fun h0=>h.rb.blk_lt h0);clear h hq hin;go_enter Tryz.func165,Tryz.ntmps165;go_wp2_with fail;refine UP.out.mono ?_;rintro e w1 ⟨rfl,h1,m1⟩;have H1:=qh h1;have M1:=qh m1;clear h1 m1 UP;simp only at hr1 ⊢;have hk16:k0<=16:=by omega
 go_wp2_with fail;go_loopw [3,6] (fun s3 s6 wr=>∃(k:Nat) (X:Option Addr) (xc n3:Nat),k<=k0/\s6=.int .i64 (k:Int)/\n3=(ritr b k ([],s1)).1.length/\s3=.slice X n3 xc/\Hid (OV wr w.heap.size 3 X xc (ncells .i64 (ritr b k ([],s1)).1))/\Hid (InAt o wr b A c (ritr b k ([],s1)).2)/\Hid (Mods (·=o) w wr))
  (fun _ s6 _=>k0 - (intOf s6).toNat)
 case atStart=>exact⟨0,none,0,0,Nat.zero_le _,rfl,rfl,rfl,qh (OV.nil _ _ _),H1,M1⟩
 case round =>
  obtain⟨k,X,xc,n3,hk,rfl,hn3,rfl,HO,HI,HM⟩:=hrel;by_cases hlt:k<k0
  ·have UK:=qh (zcZ o b A c _ wr HI.out 16 (by decide) (by decide));have hsz:=HM.out.size;have hnl:n3=k:=(by rw[hn3,(za7 (x:=([],s1)) HIN.out k).2];simp);obtain⟨l,hl⟩:∃l,l=(ritr b k ([],s1)).1:=⟨_,rfl⟩;obtain⟨r,hr⟩:∃r,r=rup b 16 (ritr b k ([],s1)).2:=⟨_,rfl⟩;have HS:Hid (ritr b (k+1) ([],s1)=(l++[r.1],r.2)):=qh (by rw[hl,hr];rfl);rw[<-hr] at UK;rw[<-hl] at HO hn3;have hll:(ncells .i64 l).length=n3:=(by rw[zp,hn3]);rw[<-hll];have HLL:=qh (And.intro hll hnl);clear hl hr HI hll hn3 hnl;go_wp2_with fail;refine UK.out.mono ?_;rintro e w2 ⟨rfl,h2,m2⟩;have hol:=HO.out.blk_lt;have o2:=HO.out.mods m2 (fun x hx e=>by subst e;have:=(hol x hx).1;omega);have H2:=qh h2;have M2:=qh (HM.out.then m2);have hsz2:=m2.size;have O2:=qh o2;clear h2 m2 o2 HO HM UK hol;go_wp2_with (at_builtin;refine jP _ rfl _ _ 31 3 rfl Tryz.underlying31 hi0 hz0 hz1 hz2 rfl w.heap.size X (some ⟨w2.heap.size,0,none⟩) xc 1 (ncells .i64 l) [.int .i64 r.1] rfl rfl (O2.out.below ((Below.refl _ _).alloc (Nat.le_refl _) _)) (RV.one _ _ _) (by simp[Value.oneCell']) (by have:=HLL.out.1;have:=HLL.out.2;simp;omega) (by have:=HLL.out.1;have:=HLL.out.2;simp;omega) (by simp;omega) ?_;intro ys A3 c3 w3 hys hys1 hys2 ho3 hg3 _;have HYS:=qh hys.out;have HO3:=qh ho3;have HG3:=qh hg3;have hyl:ys.length=(ncells .i64 l).length+1:=(by simpa using Nat.le_antisymm hys1 hys2);clear hys ho3 hg3 hys1 hys2);go_roundw
   case rel =>
    have ha:Below w2.heap.size w2 (w2.alloc (.cells #[.int .i64 r.1] 3)):=(Below.refl _ _).alloc (Nat.le_refl _) _;have mg:Mods (fun x=>w.heap.size<=x) w2 w3:=(Mods.of_below ha).trans (Mods.of_grown (S:=fun x=>w.heap.size<=x) HG3.out (fun x e=>by
     rw[yh] at e;exact(O2.out.blk_lt x e).1)) (fun i e=>.inl e)
    refine⟨k+1,A3,c3,(ncells .i64 l).length+1,by omega,by go_num,by rw[HS.out,zp];simp,rfl,qh ?_,qh ?_,qh (M2.out.trans mg (fun i e=>.inr e))⟩
    ·have e:=HO3.out;rw[HYS.out] at e;rw[HS.out];simpa [ncells] using e
    ·rw[HS.out];exact H2.out.mods mg (by omega) (fun h0 x hx e=>by have:=HAB.out h0 x hx;omega)
   case measure=>simp[intOf];omega
  ·obtain rfl:k=k0:=(by omega);go_wp2_with fail;go_ret;have e:=HQ.out;simp only[Int.toNat_natCast] at e;rw[e,<-hn3];exact⟨X,xc,rfl,HO.out,HI.out,HM.out⟩
end
theorem unfr_out{b:List UInt8}{i:Int}(h:¬(0<=i/\i<=(b.length:Int))):unfrAt b i=([],0,1):=by rw[unfrAt,if_neg h]
theorem unfr_8{b:List UInt8}{a:Nat}(h:a<=b.length)(h8:b.length<a+8):unfrAt b (a:Int)=([],0,5):=by rw[unfrAt,if_pos (by omega),if_pos (by omega)]
theorem zeb{b:List UInt8}{a:Nat}(h8:a+8<=b.length)(hn:65536<unB ((b.drop a).take 4)):unfrAt b (a:Int)=([],0,7):=by
 rw[unfrAt,if_pos (by omega),if_neg (by omega),Int.toNat_natCast,if_pos hn]
theorem zec{b:List UInt8}{a:Nat}(h8:a+8<=b.length)(hn:¬65536<unB ((b.drop a).take 4))(hs:b.length<a+8+unB ((b.drop a).take 4)):unfrAt b (a:Int)=([],0,5):=by
 rw[unfrAt,if_pos (by omega),if_neg (by omega),Int.toNat_natCast,if_neg hn,if_pos (by omega)]
theorem unfr_sum{b:List UInt8}{a:Nat}(h8:a+8<=b.length)(hn:¬65536<unB ((b.drop a).take 4))(hs:¬b.length<a+8+unB ((b.drop a).take 4))(hc:crc ((b.drop a).take 4++(b.drop (a+8)).take (unB ((b.drop a).take 4)))≠unB ((b.drop (a+4)).take 4)):unfrAt b (a:Int)=([],0,6):=by
 rw[unfrAt,if_pos (by omega),if_neg (by omega),Int.toNat_natCast,if_neg hn,if_neg (by omega),if_neg hc]
theorem unfr_yes{b:List UInt8}{a:Nat}(h8:a+8<=b.length)(hn:¬65536<unB ((b.drop a).take 4))(hs:¬b.length<a+8+unB ((b.drop a).take 4))(hc:crc ((b.drop a).take 4++(b.drop (a+8)).take (unB ((b.drop a).take 4)))=unB ((b.drop (a+4)).take 4)) :
  unfrAt b (a:Int)=((b.drop (a+8)).take (unB ((b.drop a).take 4)),(a:Int)+8+(unB ((b.drop a).take 4):Int),0):=by
 rw[unfrAt,if_pos (by omega),if_neg (by omega),Int.toNat_natCast,if_neg hn,if_neg (by omega),if_pos hc]
theorem zl{B:Nat}{w w':World}(h:Below B w w')(n:Nat):Below B w (w'.drewN n):=⟨h.os,h.tape,h.output,h.size,h.block⟩
theorem RBB.two_n{w:World}{A B:Option Addr}{l m:List UInt8}(g c d x y:Nat)(hg:g=w.heap.size)(hx:l.length=x)(hy:m.length=y)(h:RB w A l)(k:RB w B m)(hl:x<=140737488355328)(hm:y<=140737488355328) :
  RBB (w.alloc (.cells #[.slice A x c,.slice B y d] 34)) (some ⟨g,0,none⟩) [(A,c,l),(B,d,m)]:=by
 subst hx;subst hy;exact RBB.two_at g c d hg h k hl hm
def DatO(L:Nat)(p:List UInt8 × Int × Int)(w:World)(e:Ending)(w':World):Prop :=
 ∃(k:List UInt8) (A:Option Addr) (c:Nat),Hid (k=p.1)/\k.length<=L/\e=.returned (.tuple #[.slice A k.length c,.int .i64 p.2.1,.int .i64 p.2.2])/\OB w' w.heap.size A c k/\Below w.heap.size w w'
theorem xp{L:Nat}{p:List UInt8 × Int × Int}{er:Int}{w w':World}(h:p=([],0,er))(hb:Below w.heap.size w w'):DatO L p w (.returned (.tuple #[.slice none 0 0,.int .i64 0,.int .i64 er])) w':=by
 subst h;exact⟨[],none,0,qh rfl,Nat.zero_le _,rfl,OB.nil _ _,hb⟩
theorem jV{L:Nat}{p:List UInt8 × Int × Int}{k:List UInt8}{A:Option Addr}{c:Nat}{x y:Int}{w w':World}(h:p=(k,x,y))(hl:k.length<=L)(hr:OB w' w.heap.size A c k)(hb:Below w.heap.size w w'):DatO L p w (.returned (.tuple #[.slice A k.length c,.int .i64 x,.int .i64 y])) w':=by
 subst h;exact⟨k,A,c,qh rfl,hl,rfl,hr,hb⟩
theorem jf(A:Option Addr)(c:Nat)(b:List UInt8)(i:Int)(w:World)(h:RB w A b)(hc:b.length<=c)(hm:c<=9223372036854775807)(hl:b.length<=210000000000000)(hi:-9223372036854775808<=i/\i<=9223372036854775807) :
  Calls Tryz.prog 60 #[.slice A b.length c,.int .i64 i] w (DatO b.length (unfrAt b i) w):=by
 obtain⟨hi0,hi1⟩:=hi;by_cases hin:0<=i/\i<=(b.length:Int)
 ·have HI:=qh (show insB b.length i=true from zaY hin);obtain⟨a,rfl⟩:=Int.eq_ofNat_of_zero_le hin.1;have hab:a<=b.length:=by omega
  clear hin;by_cases h8:b.length<a+8
  ·have HP:=qh (unfr_8 hab h8);by_cases hac:a<c
   ·go_enter Tryz.func60,Tryz.ntmps60;go_wp2_with fail;refine(zv _ _ _ _ _ (by omega)).mono ?_;rintro e w' ⟨rfl,rfl⟩;rw[HI.out];go_wp2_with fail
    go_ret3
    exact xp HP.out (Below.refl _ _)
   ·obtain rfl:a=c:=(by omega);go_enter Tryz.func60,Tryz.ntmps60;go_wp2_with fail;refine(zv _ _ _ _ _ (by omega)).mono ?_;rintro e w' ⟨rfl,rfl⟩;rw[HI.out];go_wp2_with fail
    go_ret3
    exact xp HP.out (Below.refl _ _)
  ·have h8':a+8<=b.length:=(by omega);have hac:a<c:=(by omega);obtain⟨bb,off,rfl,hbb,_⟩:=h.at_ (by omega);have hl0:((b.drop a).take 4).length=4:=(by rw[List.length_take,List.length_drop];omega);have hl4:((b.drop (a+4)).take 4).length=4:=(by rw[List.length_take,List.length_drop];omega);have hp0:=h.partR a 4;have hp4:=h.partR (a+4) 4;have hdl:∀n,a+8+n<=b.length->((b.drop (a+8)).take n).length=n:=fun n hn=>(by rw[List.length_take,List.length_drop];omega);have hpd:=fun n=>h.partR (a+8) n
   have HL:=qh (zeb h8');have HS:=qh (zec h8');have HX:=qh (unfr_sum h8');have HY:=qh (unfr_yes h8');have hn32:unB ((b.drop a).take 4)<4294967296:=Nat.lt_of_lt_of_le (zdq _) (by rw[hl0];decide);have ht32:unB ((b.drop (a+4)).take 4)<4294967296:=Nat.lt_of_lt_of_le (zdq _) (by rw[hl4];decide);have W0:=qh (fun w' c' (hw:RB w' (some ⟨bb,off+a,none⟩) ((b.drop a).take 4))=>zbs _ (b.length - a) c' _ w' hw hl0 (by omega) (by omega));have W4:=qh (fun w' c' (hw:RB w' (some ⟨bb,off+a+4,none⟩) ((b.drop (a+4)).take 4))=>zbs _ (b.length - a - 4) c' _ w' hw hl4 (by omega) (by omega));rw[<-Nat.add_assoc] at hp4;generalize hq0:(b.drop a).take 4=q0 at *;generalize hq4:(b.drop (a+4)).take 4=q4 at *;generalize hn:unB q0=n at *;generalize unB q4=t at *;clear hq0 hq4 hn;by_cases hbig:65536<n
   ·have HP:=qh (HL.out hbig);have C0:=qh (fun c'=>W0.out w c' hp0);clear HL HS HX HY hpd hdl W0 W4 hp0 hp4;go_enter Tryz.func60,Tryz.ntmps60;go_wp2_with fail;refine(zv _ _ _ _ _ (by omega)).mono ?_;rintro e w' ⟨rfl,rfl⟩;rw[HI.out];go_wp2_with fail;refine(C0.out _).mono ?_;rintro e w' ⟨rfl,k1,rfl⟩;have hB:=qh (zl (Below.refl w.heap.size w) k1);go_wp2_with fail
    go_ret3
    exact xp HP.out hB.out
   ·by_cases hs:b.length<a+8+n
    ·have HP:=qh (HS.out hbig hs);have C0:=qh (fun c'=>W0.out w c' hp0);clear HL HS HX HY hpd hdl W0 W4 hp0 hp4;go_enter Tryz.func60,Tryz.ntmps60;go_wp2_with fail;refine(zv _ _ _ _ _ (by omega)).mono ?_;rintro e w' ⟨rfl,rfl⟩;rw[HI.out];go_wp2_with fail;refine(C0.out _).mono ?_;rintro e w' ⟨rfl,k1,rfl⟩;have hB:=qh (zl (Below.refl w.heap.size w) k1);go_wp2_with fail
     go_ret3
     exact xp HP.out hB.out
    ·have HP:=HX.out hbig hs;have HP1:=HY.out hbig hs;have hdn:=hdl n (by omega);have hpn:=hpd n;rw[show off+(a+8)=off+a+8 by omega] at hpn;have hcr:=crc_le (q0++(b.drop (a+8)).take n);have HALL:Hid (∀A1 c1 A2 c2,allB [(A1,c1,q0),(A2,c2,(b.drop (a+8)).take n)]=q0++(b.drop (a+8)).take n):=qh (fun _ _ _ _=>by simp[allB]);generalize hqd:(b.drop (a+8)).take n=qd at *;obtain⟨s,hsv⟩:∃s,s=crc (q0++qd):=⟨_,rfl⟩;rw[<-hsv] at HP HP1 hcr;have HSV:=qh hsv;clear hsv HL HS HX HY hpd hdl hqd;have C0:=qh (fun c'=>W0.out w c' hp0);by_cases hcap:8<c - a
     ·skip
      by_cases hst:s=t
      ·have HQ:=qh (HP1 hst);have hne:((s:Int) != (t:Int))=false:=(by simp[hst]);clear HP HP1 hst;go_enter Tryz.func60,Tryz.ntmps60;go_wp2_with fail;refine(zv _ _ _ _ _ (by omega)).mono ?_;rintro e w' ⟨rfl,rfl⟩;rw[HI.out];go_wp2_with fail;refine(C0.out _).mono ?_;rintro e w' ⟨rfl,k1,rfl⟩;clear C0;obtain⟨w1,hw1⟩:∃w1,w1=w.drewN k1:=⟨_,rfl⟩;rw[<-hw1];have hB1:Below w.heap.size w w1:=(by rw[hw1];exact zl (Below.refl _ _) _);have hq0:=hp0.below hB1;have hq4:=hp4.below hB1;have hqd:=hpn.below hB1;clear hw1;go_wp2_with fail;refine yy (by kernel_rfl) [(0,true),(1,true),(2,true),(5,true),(6,true),(3,false),(4,false),(7,false),(8,true)] (by kernel_rfl) (by kernel_rfl) (by decide) ?_;obtain⟨w2,hw2⟩:∃w2,w2=w1.drew:=⟨_,rfl⟩;rw[<-hw2];have hB2:Below w1.heap.size w1 w2:=(by rw[hw2];exact(Below.refl _ _).drew);have hB2':=hB1.trans (hB2.mono hB1.size);have hr0:=hq0.below hB2;have hr4:=hq4.below hB2;have hrd:=hqd.below hB2;clear hw2 hq0 hq4 hqd hp0 hp4;iterate 5
        (refine yE (v:=?_) rfl (by rfl) (fun w' hw'=>?_) ?_;rotate_left;(focus (simp only[List.getElem_toArray,List.getElem_cons_succ,List.getElem_cons_zero];go_simp;first | with_reducible rfl | (simp (disch:=omega) only [if_pos,if_neg];try with_reducible rfl) | skip));try simp only[List.getElem_toArray,List.getElem_cons_succ,List.getElem_cons_zero,Act.put,List.setIfInBounds_toArray,List.set_cons_zero,List.set_cons_succ])
       refine zL rfl (by rfl) (fun K hK=>?_)
       go_simp
       have hAL:Below w2.heap.size w2 (w2.alloc (.cells #[.slice (some ⟨bb,off+a,none⟩) 4 (c - a),.slice (some ⟨bb,off+a+8,none⟩) n (c - a - 8)] 34)):=(Below.refl _ _).alloc (Nat.le_refl _) _;have hRBB:=RBB.two_n w2.heap.size (c - a) (c - a - 8) 4 n rfl hl0 hdn hr0 hrd (by omega) (by omega);have hr4':=hr4.below hAL;have hrd':=hrd.below hAL;have hB3:=hB2'.trans (hAL.mono hB2'.size);refine hK _ _ hAL ?_;clear hK K hr0 hr4 hrd;try simp only[List.getElem_toArray,List.getElem_cons_succ,List.getElem_cons_zero,Act.put,List.setIfInBounds_toArray,List.set_cons_zero,List.set_cons_succ]
       have CS:=je (some ⟨w2.heap.size,0,none⟩) 2 _ _ hRBB (by simp);rw[HALL.out,<-HSV.out] at CS;generalize (w2.alloc (.cells #[.slice (some ⟨bb,off+a,none⟩) 4 (c - a),.slice (some ⟨bb,off+a+8,none⟩) n (c - a - 8)] 34))=w3 at *;have HCS:=qh CS;clear CS hRBB hAL;refine zL rfl (by rfl) (fun K hK=>?_)
       go_simp
       refine HCS.out.mono ?_;rintro e w4 ⟨rfl,hb4⟩;have hr4:=hr4'.below hb4;have hrd:=hrd'.below hb4;have hB4:=hB3.trans (hb4.mono hB3.size);refine hK _ _ hb4 ?_;clear hK K hr4' hrd' HCS;try simp only[List.getElem_toArray,List.getElem_cons_succ,List.getElem_cons_zero,Act.put,List.setIfInBounds_toArray,List.set_cons_zero,List.set_cons_succ]
       refine zL rfl (by rfl) (fun K hK=>?_)
       go_simp
       refine(W4.out w4 _ hr4).mono ?_;rintro e w5 ⟨rfl,k5,rfl⟩;obtain⟨w5,hw5⟩:∃w5,w5=w4.drewN k5:=⟨_,rfl⟩;rw[<-hw5];have hb5:Below w4.heap.size w4 w5:=(by rw[hw5];exact zl (Below.refl _ _) _);have hB5:=hB4.trans (hb5.mono hB4.size);have hrd5:=hrd.below hb5;refine hK _ _ hb5 ?_;clear hK K hw5;try simp only[List.getElem_toArray,List.getElem_cons_succ,List.getElem_cons_zero,Act.put,List.setIfInBounds_toArray,List.set_cons_zero,List.set_cons_succ]
       iterate 1
        (refine yE (v:=?_) rfl (by rfl) (fun w' hw'=>?_) ?_;rotate_left;(focus (simp only[List.getElem_toArray,List.getElem_cons_succ,List.getElem_cons_zero];go_simp;first | with_reducible rfl | (simp (disch:=omega) only [if_pos,if_neg,Result.andThen_ok];try with_reducible rfl) | skip));try simp only[List.getElem_toArray,List.getElem_cons_succ,List.getElem_cons_zero,Act.put,List.setIfInBounds_toArray,List.set_cons_zero,List.set_cons_succ])
       refine j3 ?_;clear hr4 hrd hB4 hB3 hB2' hB2 hB1 hb4 hb5;go_wp2_with fail;refine(zaN (some ⟨bb,off+a+8,none⟩) (c - a - 8) n qd hdn w5 hrd5 (by omega)).mono ?_;rintro e w6 ⟨k,A6,c6,hk,hk1,hk2,rfl,ho6,hb6⟩;have hB6:=hB5.trans (hb6.mono hB5.size);go_wp2_with fail
       go_ret3
       exact jV (k:=k) (by rw[HQ.out,hk.out]) (by omega) (ho6.base_le hB5.size) hB6
      ·have HQ:=qh (HP (fun e=>hst e));have hne:((s:Int) != (t:Int))=true:=(by simp;omega);clear HP HP1 hst;go_enter Tryz.func60,Tryz.ntmps60;go_wp2_with fail;refine(zv _ _ _ _ _ (by omega)).mono ?_;rintro e w' ⟨rfl,rfl⟩;rw[HI.out];go_wp2_with fail;refine(C0.out _).mono ?_;rintro e w' ⟨rfl,k1,rfl⟩;clear C0;obtain⟨w1,hw1⟩:∃w1,w1=w.drewN k1:=⟨_,rfl⟩;rw[<-hw1];have hB1:Below w.heap.size w w1:=(by rw[hw1];exact zl (Below.refl _ _) _);have hq0:=hp0.below hB1;have hq4:=hp4.below hB1;have hqd:=hpn.below hB1;clear hw1;go_wp2_with fail;refine yy (by kernel_rfl) [(0,true),(1,true),(2,true),(5,true),(6,true),(3,false),(4,false),(7,false),(8,true)] (by kernel_rfl) (by kernel_rfl) (by decide) ?_;obtain⟨w2,hw2⟩:∃w2,w2=w1.drew:=⟨_,rfl⟩;rw[<-hw2];have hB2:Below w1.heap.size w1 w2:=(by rw[hw2];exact(Below.refl _ _).drew);have hB2':=hB1.trans (hB2.mono hB1.size);have hr0:=hq0.below hB2;have hr4:=hq4.below hB2;have hrd:=hqd.below hB2;clear hw2 hq0 hq4 hqd hp0 hp4;iterate 5
        (refine yE (v:=?_) rfl (by rfl) (fun w' hw'=>?_) ?_;rotate_left;(focus (simp only[List.getElem_toArray,List.getElem_cons_succ,List.getElem_cons_zero];go_simp;first | with_reducible rfl | (simp (disch:=omega) only [if_pos,if_neg];try with_reducible rfl) | skip));try simp only[List.getElem_toArray,List.getElem_cons_succ,List.getElem_cons_zero,Act.put,List.setIfInBounds_toArray,List.set_cons_zero,List.set_cons_succ])
       refine zL rfl (by rfl) (fun K hK=>?_)
       go_simp
       have hAL:Below w2.heap.size w2 (w2.alloc (.cells #[.slice (some ⟨bb,off+a,none⟩) 4 (c - a),.slice (some ⟨bb,off+a+8,none⟩) n (c - a - 8)] 34)):=(Below.refl _ _).alloc (Nat.le_refl _) _;have hRBB:=RBB.two_n w2.heap.size (c - a) (c - a - 8) 4 n rfl hl0 hdn hr0 hrd (by omega) (by omega);have hr4':=hr4.below hAL;have hrd':=hrd.below hAL;have hB3:=hB2'.trans (hAL.mono hB2'.size);refine hK _ _ hAL ?_;clear hK K hr0 hr4 hrd;try simp only[List.getElem_toArray,List.getElem_cons_succ,List.getElem_cons_zero,Act.put,List.setIfInBounds_toArray,List.set_cons_zero,List.set_cons_succ]
       have CS:=je (some ⟨w2.heap.size,0,none⟩) 2 _ _ hRBB (by simp);rw[HALL.out,<-HSV.out] at CS;generalize (w2.alloc (.cells #[.slice (some ⟨bb,off+a,none⟩) 4 (c - a),.slice (some ⟨bb,off+a+8,none⟩) n (c - a - 8)] 34))=w3 at *;have HCS:=qh CS;clear CS hRBB hAL;refine zL rfl (by rfl) (fun K hK=>?_)
       go_simp
       refine HCS.out.mono ?_;rintro e w4 ⟨rfl,hb4⟩;have hr4:=hr4'.below hb4;have hrd:=hrd'.below hb4;have hB4:=hB3.trans (hb4.mono hB3.size);refine hK _ _ hb4 ?_;clear hK K hr4' hrd' HCS;try simp only[List.getElem_toArray,List.getElem_cons_succ,List.getElem_cons_zero,Act.put,List.setIfInBounds_toArray,List.set_cons_zero,List.set_cons_succ]
       refine zL rfl (by rfl) (fun K hK=>?_)
       go_simp
       refine(W4.out w4 _ hr4).mono ?_;rintro e w5 ⟨rfl,k5,rfl⟩;obtain⟨w5,hw5⟩:∃w5,w5=w4.drewN k5:=⟨_,rfl⟩;rw[<-hw5];have hb5:Below w4.heap.size w4 w5:=(by rw[hw5];exact zl (Below.refl _ _) _);have hB5:=hB4.trans (hb5.mono hB4.size);have hrd5:=hrd.below hb5;refine hK _ _ hb5 ?_;clear hK K hw5;try simp only[List.getElem_toArray,List.getElem_cons_succ,List.getElem_cons_zero,Act.put,List.setIfInBounds_toArray,List.set_cons_zero,List.set_cons_succ]
       iterate 1
        (refine yE (v:=?_) rfl (by rfl) (fun w' hw'=>?_) ?_;rotate_left;(focus (simp only[List.getElem_toArray,List.getElem_cons_succ,List.getElem_cons_zero];go_simp;first | with_reducible rfl | (simp (disch:=omega) only [if_pos,if_neg,Result.andThen_ok];try with_reducible rfl) | skip));try simp only[List.getElem_toArray,List.getElem_cons_succ,List.getElem_cons_zero,Act.put,List.setIfInBounds_toArray,List.set_cons_zero,List.set_cons_succ])
       refine j3 ?_;clear hr4 hrd hB4 hB3 hB2' hB2 hB1 hb4 hb5;go_wp2_with fail
       go_ret3
       exact xp HQ.out hB5
     ·have h80:c - a=8:=(by omega);have hn0:n=0:=(by omega);subst hn0;have HQD:=qh (List.eq_nil_of_length_eq_zero hdn);by_cases hst:s=t
      ·have HQ:=qh (HP1 hst);have hne:((s:Int) != (t:Int))=false:=(by simp[hst]);clear HP HP1 hst;go_enter Tryz.func60,Tryz.ntmps60;go_wp2_with fail;refine(zv _ _ _ _ _ (by omega)).mono ?_;rintro e w' ⟨rfl,rfl⟩;rw[HI.out];go_wp2_with fail;refine(C0.out _).mono ?_;rintro e w' ⟨rfl,k1,rfl⟩;clear C0;obtain⟨w1,hw1⟩:∃w1,w1=w.drewN k1:=⟨_,rfl⟩;rw[<-hw1];have hB1:Below w.heap.size w w1:=(by rw[hw1];exact zl (Below.refl _ _) _);have hq0:=hp0.below hB1;have hq4:=hp4.below hB1;have hqd:=hpn.below hB1;clear hw1;go_wp2_with fail;refine yy (by kernel_rfl) [(0,true),(1,true),(2,true),(5,true),(6,true),(3,false),(4,false),(7,false),(8,true)] (by kernel_rfl) (by kernel_rfl) (by decide) ?_;obtain⟨w2,hw2⟩:∃w2,w2=w1.drew:=⟨_,rfl⟩;rw[<-hw2];have hB2:Below w1.heap.size w1 w2:=(by rw[hw2];exact(Below.refl _ _).drew);have hB2':=hB1.trans (hB2.mono hB1.size);have hr0:=hq0.below hB2;have hr4:=hq4.below hB2;have hrd:=hqd.below hB2;clear hw2 hq0 hq4 hqd hp0 hp4;iterate 5
        (refine yE (v:=?_) rfl (by rfl) (fun w' hw'=>?_) ?_;rotate_left;(focus (simp only[List.getElem_toArray,List.getElem_cons_succ,List.getElem_cons_zero];go_simp;first | with_reducible rfl | (simp (disch:=omega) only [if_pos];try with_reducible rfl) | skip));try simp only[List.getElem_toArray,List.getElem_cons_succ,List.getElem_cons_zero,Act.put,List.setIfInBounds_toArray,List.set_cons_zero,List.set_cons_succ])
       refine zL rfl (by rfl) (fun K hK=>?_)
       go_simp
       have hAL:Below w2.heap.size w2 (w2.alloc (.cells #[.slice (some ⟨bb,off+a,none⟩) 4 8,.slice (some ⟨bb,off+a,none⟩) 0 0] 34)):=(Below.refl _ _).alloc (Nat.le_refl _) _;have hRBB:=RBB.two_n w2.heap.size 8 0 4 0 rfl hl0 hdn hr0 (show RB w2 (some ⟨bb,off+a,none⟩) qd by rw[HQD.out];exact RB.nil) (by omega) (by omega);have hr4':=hr4.below hAL;have hrd':=hrd.below hAL;have hB3:=hB2'.trans (hAL.mono hB2'.size);refine hK _ _ hAL ?_;clear hK K hr0 hr4 hrd;try simp only[List.getElem_toArray,List.getElem_cons_succ,List.getElem_cons_zero,Act.put,List.setIfInBounds_toArray,List.set_cons_zero,List.set_cons_succ]
       have CS:=je (some ⟨w2.heap.size,0,none⟩) 2 _ _ hRBB (by simp);rw[HALL.out,<-HSV.out] at CS;generalize (w2.alloc (.cells #[.slice (some ⟨bb,off+a,none⟩) 4 8,.slice (some ⟨bb,off+a,none⟩) 0 0] 34))=w3 at *;have HCS:=qh CS;clear CS hRBB hAL;refine zL rfl (by rfl) (fun K hK=>?_)
       go_simp
       refine HCS.out.mono ?_;rintro e w4 ⟨rfl,hb4⟩;have hr4:=hr4'.below hb4;have hrd:=hrd'.below hb4;have hB4:=hB3.trans (hb4.mono hB3.size);refine hK _ _ hb4 ?_;clear hK K hr4' hrd' HCS;try simp only[List.getElem_toArray,List.getElem_cons_succ,List.getElem_cons_zero,Act.put,List.setIfInBounds_toArray,List.set_cons_zero,List.set_cons_succ]
       refine zL rfl (by rfl) (fun K hK=>?_)
       go_simp
       refine(W4.out w4 _ hr4).mono ?_;rintro e w5 ⟨rfl,k5,rfl⟩;obtain⟨w5,hw5⟩:∃w5,w5=w4.drewN k5:=⟨_,rfl⟩;rw[<-hw5];have hb5:Below w4.heap.size w4 w5:=(by rw[hw5];exact zl (Below.refl _ _) _);have hB5:=hB4.trans (hb5.mono hB4.size);have hrd5:=hrd.below hb5;refine hK _ _ hb5 ?_;clear hK K hw5;try simp only[List.getElem_toArray,List.getElem_cons_succ,List.getElem_cons_zero,Act.put,List.setIfInBounds_toArray,List.set_cons_zero,List.set_cons_succ]
       iterate 1
        (refine yE (v:=?_) rfl (by rfl) (fun w' hw'=>?_) ?_;rotate_left;(focus (simp only[List.getElem_toArray,List.getElem_cons_succ,List.getElem_cons_zero];go_simp;first | with_reducible rfl | (simp (disch:=omega) only [if_pos,if_neg,Result.andThen_ok];try with_reducible rfl) | skip));try simp only[List.getElem_toArray,List.getElem_cons_succ,List.getElem_cons_zero,Act.put,List.setIfInBounds_toArray,List.set_cons_zero,List.set_cons_succ])
       refine j3 ?_;clear hr4 hrd hB4 hB3 hB2' hB2 hB1 hb4 hb5;go_wp2_with fail;refine(zaN (some ⟨bb,off+a,none⟩) 0 0 qd hdn w5 (by rw[HQD.out];exact RB.nil) (by omega)).mono ?_;rintro e w6 ⟨k,A6,c6,hk,hk1,hk2,rfl,ho6,hb6⟩;have hB6:=hB5.trans (hb6.mono hB5.size);go_wp2_with fail
       go_ret3
       exact jV (k:=k) (by rw[HQ.out,hk.out];simp) (by omega) (ho6.base_le hB5.size) hB6
      ·have HQ:=qh (HP (fun e=>hst e));have hne:((s:Int) != (t:Int))=true:=(by simp;omega);clear HP HP1 hst;go_enter Tryz.func60,Tryz.ntmps60;go_wp2_with fail;refine(zv _ _ _ _ _ (by omega)).mono ?_;rintro e w' ⟨rfl,rfl⟩;rw[HI.out];go_wp2_with fail;refine(C0.out _).mono ?_;rintro e w' ⟨rfl,k1,rfl⟩;clear C0;obtain⟨w1,hw1⟩:∃w1,w1=w.drewN k1:=⟨_,rfl⟩;rw[<-hw1];have hB1:Below w.heap.size w w1:=(by rw[hw1];exact zl (Below.refl _ _) _);have hq0:=hp0.below hB1;have hq4:=hp4.below hB1;have hqd:=hpn.below hB1;clear hw1;go_wp2_with fail;refine yy (by kernel_rfl) [(0,true),(1,true),(2,true),(5,true),(6,true),(3,false),(4,false),(7,false),(8,true)] (by kernel_rfl) (by kernel_rfl) (by decide) ?_;obtain⟨w2,hw2⟩:∃w2,w2=w1.drew:=⟨_,rfl⟩;rw[<-hw2];have hB2:Below w1.heap.size w1 w2:=(by rw[hw2];exact(Below.refl _ _).drew);have hB2':=hB1.trans (hB2.mono hB1.size);have hr0:=hq0.below hB2;have hr4:=hq4.below hB2;have hrd:=hqd.below hB2;clear hw2 hq0 hq4 hqd hp0 hp4;iterate 5
        (refine yE (v:=?_) rfl (by rfl) (fun w' hw'=>?_) ?_;rotate_left;(focus (simp only[List.getElem_toArray,List.getElem_cons_succ,List.getElem_cons_zero];go_simp;first | with_reducible rfl | (simp (disch:=omega) only [if_pos];try with_reducible rfl) | skip));try simp only[List.getElem_toArray,List.getElem_cons_succ,List.getElem_cons_zero,Act.put,List.setIfInBounds_toArray,List.set_cons_zero,List.set_cons_succ])
       refine zL rfl (by rfl) (fun K hK=>?_)
       go_simp
       have hAL:Below w2.heap.size w2 (w2.alloc (.cells #[.slice (some ⟨bb,off+a,none⟩) 4 8,.slice (some ⟨bb,off+a,none⟩) 0 0] 34)):=(Below.refl _ _).alloc (Nat.le_refl _) _;have hRBB:=RBB.two_n w2.heap.size 8 0 4 0 rfl hl0 hdn hr0 (show RB w2 (some ⟨bb,off+a,none⟩) qd by rw[HQD.out];exact RB.nil) (by omega) (by omega);have hr4':=hr4.below hAL;have hrd':=hrd.below hAL;have hB3:=hB2'.trans (hAL.mono hB2'.size);refine hK _ _ hAL ?_;clear hK K hr0 hr4 hrd;try simp only[List.getElem_toArray,List.getElem_cons_succ,List.getElem_cons_zero,Act.put,List.setIfInBounds_toArray,List.set_cons_zero,List.set_cons_succ]
       have CS:=je (some ⟨w2.heap.size,0,none⟩) 2 _ _ hRBB (by simp);rw[HALL.out,<-HSV.out] at CS;generalize (w2.alloc (.cells #[.slice (some ⟨bb,off+a,none⟩) 4 8,.slice (some ⟨bb,off+a,none⟩) 0 0] 34))=w3 at *;have HCS:=qh CS;clear CS hRBB hAL;refine zL rfl (by rfl) (fun K hK=>?_)
       go_simp
       refine HCS.out.mono ?_;rintro e w4 ⟨rfl,hb4⟩;have hr4:=hr4'.below hb4;have hrd:=hrd'.below hb4;have hB4:=hB3.trans (hb4.mono hB3.size);refine hK _ _ hb4 ?_;clear hK K hr4' hrd' HCS;try simp only[List.getElem_toArray,List.getElem_cons_succ,List.getElem_cons_zero,Act.put,List.setIfInBounds_toArray,List.set_cons_zero,List.set_cons_succ]
       refine zL rfl (by rfl) (fun K hK=>?_)
       go_simp
       refine(W4.out w4 _ hr4).mono ?_;rintro e w5 ⟨rfl,k5,rfl⟩;obtain⟨w5,hw5⟩:∃w5,w5=w4.drewN k5:=⟨_,rfl⟩;rw[<-hw5];have hb5:Below w4.heap.size w4 w5:=(by rw[hw5];exact zl (Below.refl _ _) _);have hB5:=hB4.trans (hb5.mono hB4.size);have hrd5:=hrd.below hb5;refine hK _ _ hb5 ?_;clear hK K hw5;try simp only[List.getElem_toArray,List.getElem_cons_succ,List.getElem_cons_zero,Act.put,List.setIfInBounds_toArray,List.set_cons_zero,List.set_cons_succ]
       iterate 1
        (refine yE (v:=?_) rfl (by rfl) (fun w' hw'=>?_) ?_;rotate_left;(focus (simp only[List.getElem_toArray,List.getElem_cons_succ,List.getElem_cons_zero];go_simp;first | with_reducible rfl | (simp (disch:=omega) only [if_pos,if_neg,Result.andThen_ok];try with_reducible rfl) | skip));try simp only[List.getElem_toArray,List.getElem_cons_succ,List.getElem_cons_zero,Act.put,List.setIfInBounds_toArray,List.set_cons_zero,List.set_cons_succ])
       refine j3 ?_;clear hr4 hrd hB4 hB3 hB2' hB2 hB1 hb4 hb5;go_wp2_with fail
       go_ret3
       exact xp HQ.out hB5
 ·have HI:=qh (show insB b.length i=false from zaX hin);have HP:=qh (unfr_out hin);clear hin;go_enter Tryz.func60,Tryz.ntmps60;go_wp2_with fail;refine(zv _ _ _ _ _ (by omega)).mono ?_;rintro e w' ⟨rfl,rfl⟩;rw[HI.out];go_wp2_with fail
  go_ret3
  exact xp HP.out (Below.refl _ _)
end Go.Proofs.YtobdmlejabjmiaaGreatDoor
