/- Made small by a program. -/
import Derived.Test.YtobdmlejabjmiaaGreatDoorZc23
import Derived.Test.YtobdmlejabjmiaaGreatDoorZc17
set_option maxRecDepth 20000
set_option maxHeartbeats 8000000
namespace Go.Proofs.YtobdmlejabjmiaaGreatDoor
open Go.RowKit
section
variable {B p g m:Nat} {S:Nat->Prop} {w w':World} {b:Nm} {v:Option (List UInt8)} {D:DSt}
end
section
variable {B p g m:Nat} {S:Nat->Prop} {w w':World} {b:Nm} {v:Option (List UInt8)} {D:DSt}
def VS(B:Nat)(S:Nat->Prop)(w:World)(s9 s10:Value)(v:Option (List UInt8)):Prop :=
 ∃Y c l,s9=.slice Y l.length c/\s10=.bool v.isSome/\v.getD []=l/\OB w B Y c l/\∀y,Y.map (·.block)=some y->¬S y
end
/-! ### The acts -/
theorem yZ{P:Program}{ops:Array Oper}{Q:Exit->Act->World->Prop}{a:Act}{w:World}{rest:List Oper}{dst:Option Tmp}{op:Op}{type:TypeId}{pos:String}{after:Array Edge}{guard:Option (Nat × Bool)}
  (hw:Region.wanted { dst,op,type,pos,after,guard } (yielded ops a.tmps)=true) (h:wpList P ops Q ({ dst,op,type,pos,after,guard:=none }::rest) a w):wpList P ops Q ({ dst,op,type,pos,after,guard }::rest) a w:=by
 unfold wpList at h ⊢;rw[if_pos hw];rw[if_pos (by rfl)] at h;exact h
theorem qN{b:Nm}{F:FS}:∀(l:List Nm) (s:Sc),(∀f∈l,numN b f=none)->l.foldl (scan1 b F) s=s:=by
 intro l
 induction l with
 | nil=>intro s _;rfl
 | cons f l ih =>
  intro s h;rw[List.foldl_cons,zbT (h f (List.mem_cons_self ..))];exact ih s fun g hg=>h g (List.mem_cons_of_mem _ hg)
theorem yT{b:Nm}{D:DSt}(h:Rest D)(hn:∀p∈D.sure,numN b p.1=none):scanD b D=Sc.zero/\openD b D=(0,D):=by
 have hs:scanD b D=Sc.zero:=by
  rw[h.scan];exact qN _ _ fun f hf=>by
   obtain⟨p,hp,rfl⟩:=List.mem_map.1 hf;exact hn p hp
 refine⟨hs,?_⟩;unfold openD;rw[hs];exact jD D
theorem zdA{F1 F2:FS}{f:Nm}{X:List UInt8}(h:∀p∈F1,p.1≠f):fget (F1++(f,X)::F2) f=some X:=by
 induction F1 with
 | nil=>rw[List.nil_append,zJ,if_pos rfl]
 | cons p F ih =>
  obtain⟨a,Z⟩:=p;rw[List.cons_append,zJ,if_neg (h _ (List.mem_cons_self ..))];exact ih fun q hq=>h q (List.mem_cons_of_mem _ hq)
theorem zav{b:Nm}{D:DSt}(h:Rest D){n:Nat}{x:List UInt8}(hx:x.length<=65520)(hn:n<18446744073709551616){F1 F2:FS}(hs:D.sure=F1++(fileN b n,frameB x)::F2)(h1:∀p∈F1,numN b p.1=none)(h2:∀p∈F2,numN b p.1=none) :
  scanD b D=⟨n,n,true,x,[fileN b n]⟩/\openD b D=(0,D):=by
 have hg:fget D.sure (fileN b n)=some (frameB x):=by
  rw[hs];refine zdA fun p hp e=>?_
  have:=h1 p hp;rw[e,js b hn] at this;cases this
 have hsc:scanD b D=⟨n,n,true,x,[fileN b n]⟩:=by
  rw[h.scan,show D.sure.map Prod.fst=F1.map Prod.fst++fileN b n::F2.map Prod.fst from by rw[hs];simp,List.foldl_append,List.foldl_cons];rw[qN (F1.map Prod.fst) _ (fun f hf=>by obtain⟨p,hp,rfl⟩:=List.mem_map.1 hf;exact h1 p hp),zff hn hx hg,if_pos (.inl rfl)];rw[qN (F2.map Prod.fst) _ (fun f hf=>by obtain⟨p,hp,rfl⟩:=List.mem_map.1 hf;exact h2 p hp)];simp[Sc.zero]
 refine⟨hsc,?_⟩;unfold openD;rw[hsc,show restN b ⟨n,n,true,x,[fileN b n]⟩=[] from by simp[restN]];exact jD D
theorem zaB{b:Nm}(hb:BaseOk b){s:Sl}{D:DSt}(hbase:s.base=b)(hup:s.down=false)(hold:s.old=[])(hl:s.last=0)(h:Rest D){x:List UInt8}(hx:x.length<=65520)(hfn:fget D.sure (fileN b 1)=none)(hlen:D.sure.length<4096)(hr:(fsize D.sure:Int)+x.length+8<=D.room) :
  saveS s D x=(0,⟨b,1,x,true,[fileN b 1],false⟩,{ D with sure:=fset D.sure (fileN b 1) (frameB x),unsure:=[] }):=by
 have hn:=zcn hb (n:=1) (by decide);have hfs:=h.files;have hf:=h.fu;obtain⟨f,hff⟩:∃f,f=fileN b 1:=⟨_,rfl⟩;rw[<-hff] at hn hfn;have hre:refuseD D ⟨1,f,0,frameB x⟩ 0=0:=by
  unfold refuseD;have hfl:=jk x;rw[if_neg (by rw[h.dd];simp),if_neg (by rw[hn];simp),if_neg (by rw[hfs];omega),if_neg];rintro⟨h1,h2⟩;have e0:((fget D.files f).getD []).length=0:=by rw[hfs,hfn];rfl
  simp only[e0,afterN,if_true] at h2;rw[hfl,hfs] at h2;have:max 0 (0+(x.length+8))=x.length+8:=by omega
  rw[this] at h2;omega
 have e1:putS D f x=(0,{ D with unsure:=[⟨1,f,0,frameB x⟩] }):=by
  unfold putS changeD;rw[if_neg (by rw[hre];simp),qa hf,if_neg (by rw[h.dd];simp),h.un];rfl
 have e2:syncD { D with unsure:=[⟨1,f,0,frameB x⟩] }=(0,{ D with sure:=fset D.sure f (frameB x),unsure:=[] }):=by
  rw[yG (D:={ D with unsure:=[⟨1,f,0,frameB x⟩] }) h.dd hf];simp only[DSt.files,List.foldl_cons,List.foldl_nil,doF,if_true,hfn,Option.getD_none,za5]
 unfold saveS;rw[if_neg (by rw[hup];simp),if_neg (by omega),hbase,hl,Nat.zero_add,<-hff,e1];simp only;rw[if_neg (by simp),e2];simp only;rw[if_neg (by simp),hold,jD];simp
section
variable {B p p' g cv co cv' co':Nat} {S S' T:Nat->Prop} {w w':World} {s s':Sl} {D D':DSt} {V O V' O':Option Addr}
end
theorem srOpen{B g:Nat}{S:Nat->Prop}{w:World}{D:DSt}{b:Nm}(h:DI S w g D)(hsge:∀x,S x->B<=x)(hB:B<=w.heap.size)(hE:SEnv B w)(hb:BaseOk b)(hr:Rest D)(hcnt:D.sure.length<=1000)(hnm:∀p∈D.sure,nameOk p.1=true)(hcan:∀p∈D.sure,numN b p.1=none\/∃k,k<18446744073709551616/\p.1=fileN b k){sc:Sc}(hs:scanD b D=sc/\openD b D=(0,D)) :
  Calls Tryz.prog 26 #[.pointer (some ⟨g,0,none⟩),.string ⟨b.toArray⟩] w (OpenEnd B S w g (openS b sc) D):=by
 have hc:D.cnt<=1000:=by unfold DSt.cnt;rw[hr.un];simpa using hcnt
 have h1:=zbd h hsge hB hE hb hr.dd hc (by rw[hr.files];exact hnm) (fun f hf n hn=>by
  rw[hr.names] at hf;obtain⟨p,hp,rfl⟩:=List.mem_map.1 hf
  rcases hcan p hp with h1 | ⟨k,hk,h1⟩
  ·rw[h1] at hn;cases hn
  ·rw[h1,js b hk] at hn;injection hn with hn
   subst hn;exact⟨h1,hk⟩) (by rw[hs.2])
 rw[hs.1,hs.2] at h1;exact h1
theorem srSave1{B p g cv co:Nat}{S:Nat->Prop}{w:World}{D:DSt}{b:Nm}{V O:Option Addr}(h:SR B S w p g (openS b Sc.zero) D V cv O co)(hB:B<=w.heap.size)(hE:SEnv B w)(hb:BaseOk b)(hr:Rest D)(x:List UInt8)(Y:Option Addr)(cy:Nat)(hY:RB w Y x)(hYS:0<x.length->∀b,Y.map (·.block)=some b->¬S b/\b≠p)(hx:x.length<=65520)(hfn:fget D.sure (fileN b 1)=none)(hlen:D.sure.length<=500)(hroom:(fsize D.sure:Int)+x.length+8<=D.room) :
  Calls Tryz.prog 38 #[.pointer (some ⟨p,0,none⟩),.slice Y x.length cy] w (SDone B S w V p g (.int .i64 0) ⟨b,1,x,true,[fileN b 1],false⟩ { D with sure:=fset D.sure (fileN b 1) (frameB x),unsure:=[] }):=by
 have e:=zaB hb (s:=openS b Sc.zero) rfl rfl rfl rfl hr hx hfn (by omega) hroom;have hc:D.cnt<=1000:=by unfold DSt.cnt;rw[hr.un];simp;omega
 have h1:=zdp h hB hE rfl x Y cy hY hYS hx (by show 0+1<_;omega) hc (by rw[hr.files];omega) (by show([]:List Nm).length<=1000;simp);rw[e] at h1;exact h1
abbrev shotZ:Array Value:=#[.int .u64 0,.int .u64 0,.slice none 0 0,.slice none 0 0,.slice none 0 0]
section
variable {w w':World}
theorem shotRead(o g:Nat)(A:Option Addr)(c:Nat)(i t:Nat)(v l:List Int)(d:List UInt8)(w:World)(hr:shotB i t v l d.length=true)(h:InAt o w (shotBytes i t v l d) A c (0,false))(hg:Blk w g 174 kConf)(hog:o≠g) :
  Calls Tryz.prog 111 #[.pointer (some ⟨o,0,none⟩),.pointer (some ⟨g,0,none⟩)] w fun e w'=>∃V vc L lc X xc,e=.returned (.agg (shotC i t v l d V vc L lc X xc))/\OV w' w.heap.size 3 V vc (ncells .i64 v)/\OV w' w.heap.size 3 L lc (ncells .i64 l)/\OB w' w.heap.size X xc d/\InAt o w' (shotBytes i t v l d) A c ((((shotBytes i t v l d).length:Nat):Int),false)/\Mods (·=o) w w':=by
 obtain⟨s1,s2,s3,e1,e2,e3,e4,e5,e6⟩:=zfk i t v l d hr;have hal:Below w.heap.size w (w.alloc (.cells shotZ 36)):=(Below.refl _ _).alloc (Nat.le_refl _) _;have Z:=qh (Blk.new w shotZ 36);have hlo:=h.blk.lt;have hlg:=hg.lt;have HAB:Hid (0<(shotBytes i t v l d).length->∀k,A.map (·.block)=some k->k<w.heap.size):=qh (fun h0=>h.rb.blk_lt h0);have hws:(w.alloc (.cells shotZ 36)).heap.size=w.heap.size+1:=by simp
 obtain⟨b,hb⟩:∃b,b=shotBytes i t v l d:=⟨_,rfl⟩;rw[<-hb] at h e1 e2 e3 e4 e5 e6 HAB ⊢;have HI:=qh (h.below hal);have HG:=qh (hg.kept hal);have HWS:=qh hws;have HAL:=qh hal;have HE:=qh (And.intro e1 (And.intro e2 (And.intro e3 (And.intro e4 (And.intro e5 e6)))));clear h hg hal hws e1 e2 e3 e4 e5 e6 hr hb;unfold shotZ at *;go_enter Tryz.func111,Tryz.ntmps111;go_upto_region 1 with fail;obtain⟨w0,hw0⟩:∃w0,w0=w.alloc (.cells #[.int .u64 0,.int .u64 0,.slice none 0 0,.slice none 0 0,.slice none 0 0] 36):=⟨_,rfl⟩;rw[<-hw0] at HI HG HWS HAL Z ⊢;clear hw0;refine zf (by kernel_rfl) [(0,none),(2,none),(4,none),(5,none),(6,none),(8,none),(1,some [0]),(3,some [2]),(7,some [5,6]),(9,some [8]),(10,none),(11,some [0,2,4,5,6,8,10])] (by kernel_rfl) (by kernel_rfl) (by decide) ?_;intro wq hwq;have hBq:Below w0.heap.size w0 wq:=by rw[hwq];exact(Below.refl _ _).drew
 have N1:=zch o b A c _ _ (HI.out.below hBq);rw[HE.out.1] at N1;have HN1:=qh N1;have GQ:=qh (HG.out.kept hBq);have ZQ:=qh (Z.out.kept hBq);have MQ:Hid (Mods (·=o) w wq):=qh ((Mods.of_below (S:=(·=o)) HAL.out).below hBq);have hszq:w.heap.size+1<=wq.heap.size:=by have:=hBq.size;rw[HWS.out] at this;exact this
 have g2:=GQ.out.cell 2 (v:=.func (.func 164) #[] #[]) rfl;clear hwq hBq N1 HI HG Z;iterate 3 (refine zd ?_)
 refine ze [(⟨g,2,none⟩,.func (.func 164) #[] #[])] ?_;iterate 2 (refine zd ?_)
 refine zh rfl (by rfl) (fun K hK=>?_)
 go_simp
 refine HN1.out.mono ?_;rintro e w1 ⟨rfl,q1,m1⟩;have N2:=zch o b A c _ w1 q1;rw[HE.out.2.1] at N2;have HN2:=qh N2;have G1:=qh (GQ.out.mods m1 (fun e=>hog e.symm));have Z1:=qh (ZQ.out.mods m1 (by omega));have M1:=qh (MQ.out.then m1);have hsz1:=m1.size;clear q1 m1 N2 HN1 GQ ZQ MQ g2;have g2:=G1.out.cell 2 (v:=.func (.func 164) #[] #[]) rfl;refine zg hK ?_;clear hK K;refine zh rfl (by rfl) (fun K hK=>?_)
 go_simp
 refine HN2.out.mono ?_;rintro e w2 ⟨rfl,q2,m2⟩;have CR:=zcT o b A c _ w2 q2;rw[HE.out.2.2.1,HE.out.2.2.2.1,HE.out.2.2.2.2.1] at CR;have HCR:=qh CR;have G2:=qh (G1.out.mods m2 (fun e=>hog e.symm));have Z2:=qh (Z1.out.mods m2 (by omega));have M2:=qh (M1.out.then m2);have hsz2:=m2.size;clear q2 m2 CR HN2 G1 Z1 M1 g2;have g2:=G2.out.cell 2 (v:=.func (.func 164) #[] #[]) rfl;refine zg hK ?_;clear hK K;refine zh rfl (by rfl) (fun K hK=>?_)
 go_simp
 refine HCR.out.mono ?_;rintro e w3 ⟨V,vc,L,lc,rfl,o1,o2,q3,m3⟩;have N4:=inData o b A c _ w3 q3;rw[HE.out.2.2.2.2.2] at N4;have HN4:=qh N4;have Z3:=qh (Z2.out.mods m3 (by omega));have M3:=qh (M2.out.then m3);have hsz3:=m3.size;have O3:=qh (And.intro o1 o2);clear q3 m3 N4 HCR G2 Z2 M2 g2 o1 o2;refine zg hK ?_;clear hK K;refine zh rfl (by rfl) (fun K hK=>?_)
 go_simp
 refine HN4.out.mono ?_;rintro e w4 ⟨X,xc,rfl,o3,q4,m4⟩;have Z4:=qh (Z3.out.mods m4 (by omega));have M4:=qh (M3.out.then m4);have hsz4:=m4.size;have p1:=O3.out.1.mods m4 (fun k hk e=>by have:=(O3.out.1.blk_lt k hk).1;omega);have p2:=O3.out.2.mods m4 (fun k hk e=>by have:=(O3.out.2.blk_lt k hk).1;omega);have O4:=qh (And.intro (OV.base_le p1 (by omega:w.heap.size+1<=w2.heap.size)) (And.intro (OV.base_le p2 (by omega:w.heap.size+1<=w2.heap.size)) (o3.base_le (by omega:w.heap.size+1<=w3.heap.size))));have Q4:=qh q4;clear q4 m4 o3 p1 p2 HN4 Z3 M3 O3;refine zg hK ?_;clear hK K;iterate 1 (refine zd ?_)
 refine zh rfl (by rfl) (fun K hK=>?_);refine wp_store_row 36 _ _ rfl w.heap.size (shotC i t v l d V vc L lc X xc) rfl rfl _ _ Z4.out zq rfl (by simp[Value.oneCell']) ?_;have Y:=Z4.out.setRow (shotC i t v l d V vc L lc X xc);refine zg hK ?_;clear hK K;refine zk ?_;go_wp2_with fail;refine bodyPost_ret (v:=.agg (shotC i t v l d V vc L lc X xc)) (results_cell_row rfl _ _ w.heap.size 36 (shotC i t v l d V vc L lc X xc) (0,0) _ rfl Y Tryz.underlying36 rfl zq) rfl ?_;have ms:=(Mods.refl (·=w.heap.size) w4).setRow w.heap.size (.inl rfl) (shotC i t v l d V vc L lc X xc);obtain⟨p1,p2,p3⟩:=O4.out;exact⟨V,vc,L,lc,X,xc,rfl,OV.base_le (p1.mods ms (fun k hk e=>by have:=(p1.blk_lt k hk).1;omega)) (by omega),OV.base_le (p2.mods ms (fun k hk e=>by have:=(p2.blk_lt k hk).1;omega)) (by omega),(p3.mods ms (fun k hk e=>by have:=(p3.blk_in k hk).1;omega)).base_le (by omega),Q4.out.mods ms (by omega) (fun h0 k hk e=>by have:=HAB.out h0 k hk;omega),M4.out.trans ms (fun i e=>.inr (by omega))⟩
theorem zfj(g:Nat)(A:Option Addr)(c:Nat)(i t:Nat)(v l:List Int)(d:List UInt8)(w:World)(hr:shotB i t v l d.length=true)(hg:Blk w g 174 kConf)(h:RB w A (shotBytes i t v l d))(hc:(shotBytes i t v l d).length<=c/\c<=9223372036854775807)(hl:(shotBytes i t v l d).length<=210000000000000) :
  Calls Tryz.prog 143 #[.agg (kShot g),.slice A (shotBytes i t v l d).length c] w fun e w'=>∃V vc L lc X xc,e=.returned (.tuple #[.agg (shotC i t v l d V vc L lc X xc),.int .i64 0])/\OV w' w.heap.size 3 V vc (ncells .i64 v)/\OV w' w.heap.size 3 L lc (ncells .i64 l)/\OB w' w.heap.size X xc d/\Below w.heap.size w w':=by
 obtain⟨q1,q2,_,q4,q5⟩:=zI hr;obtain⟨q6,q7,_⟩:=zP q1;have n1:=zD q6;have n2:=zD q7;have hlg:=hg.lt;have SD:=qh (fun(o:Nat) (A:Option Addr) (c:Nat) (w:World) hI hG ho=>shotRead o g A c i t v l d w hr hI hG ho);have SS:=qh (fun(V:Option Addr) (vc:Nat) (L:Option Addr) (lc:Nat) (X:Option Addr) (xc:Nat) (w2:World) (hk:Blk w2 g 174 kConf) (p0:OV w2 (w.heap.size+3) 3 V vc (ncells .i64 v)) (p1:OV w2 (w.heap.size+3) 3 L lc (ncells .i64 l))=>zbE g i t v l d V vc L lc X xc w2 hk p0.rv p1.rv (by omega) (by omega) (by omega) (by omega) (by omega) true hr);obtain⟨b,hb⟩:∃b,b=shotBytes i t v l d:=⟨_,rfl⟩;rw[<-hb] at h hc hl SD ⊢;have hal:Below w.heap.size w (((w.alloc (.cells (kShot g) 104)).alloc (.cells shotZ 36)).alloc (.cells #[.slice A b.length c,.int .i64 0,.bool false] 236)):=(((Below.refl _ _).alloc (Nat.le_refl _) _).alloc (by simp) _).alloc (by first | (simp;done) | (simp;omega)) _;have z1:=(Blk.new w (kShot g) 104).below (((Below.refl (w.heap.size+1) _).alloc (by simp) (.cells shotZ 36)).alloc (by simp) (.cells #[.slice A b.length c,.int .i64 0,.bool false] 236)) (Nat.lt_succ_self _);have hs1:(w.alloc (.cells (kShot g) 104)).heap.size=w.heap.size+1:=by simp
 have hs2:((w.alloc (.cells (kShot g) 104)).alloc (.cells shotZ 36)).heap.size=w.heap.size+2:=by simp
 have hs3:(((w.alloc (.cells (kShot g) 104)).alloc (.cells shotZ 36)).alloc (.cells #[.slice A b.length c,.int .i64 0,.bool false] 236)).heap.size=w.heap.size+3:=by simp
 have z2:=Blk.new (w.alloc (.cells (kShot g) 104)) shotZ 36;rw[hs1] at z2;have z2':=z2.below ((Below.refl (w.heap.size+2) _).alloc (by rw[hs2];exact Nat.le_refl _) (.cells #[.slice A b.length c,.int .i64 0,.bool false] 236)) (by omega);have z3:=Blk.new ((w.alloc (.cells (kShot g) 104)).alloc (.cells shotZ 36)) #[.slice A b.length c,.int .i64 0,.bool false] 236;rw[hs2] at z3;have hI:InAt (w.heap.size+2) _ b A c (0,false):=⟨z3,h.below hal,fun h0 k hk e=>by have:=h.blk_lt h0 k hk;omega,⟨by decide,by simp⟩,hc,hl⟩;have hG:=hg.kept hal;have CR:=qh (SD.out (w.heap.size+2) _ _ _ hI hG (by omega));have k2:=z1.cell 2 rfl;have HZ:=qh (And.intro z1 (And.intro z2' hG));have HAL:=qh hal;have HS3:=qh hs3;clear h hal z1 z2 z2' z3 hI hs1 hs2 hs3 hb SD hg hG q1 q6 q7;unfold kShot at *;unfold shotZ at *;go_enter Tryz.func143,Tryz.ntmps143;go_wp2_with fail;refine CR.out.mono ?_;rintro e w1 ⟨V,vc,L,lc,X,xc,rfl,o1,o2,o3,hI,m1⟩;rw[HS3.out] at o1 o2 o3;have hsz:=m1.size;rw[HS3.out] at hsz;have y1:=HZ.out.1.mods m1 (by omega);have y2:=HZ.out.2.1.mods m1 (by omega);have y3:=HZ.out.2.2.mods m1 (by omega);have hb1:=Mods.old HAL.out m1 HAL.out.size (fun i _ e=>by subst e;omega);have Y2:=qh y2;have X2:=qh (y2.setRow ((shotC i t v l d V vc L lc X xc)));have X1:=qh (y1.setRow_other (k:=w.heap.size+1) ((shotC i t v l d V vc L lc X xc)) (by omega));have X3:=y3.setRow_other (k:=w.heap.size+1) ((shotC i t v l d V vc L lc X xc)) (by omega);have HB:=qh (below_setRow (g:=w.heap.size+1) hb1 (by omega) ((shotC i t v l d V vc L lc X xc)));have ms:=(Mods.refl (·=w.heap.size+1) w1).setRow (w.heap.size+1) (.inl rfl) ((shotC i t v l d V vc L lc X xc));have p1:=o1.mods ms (fun k hk e=>by have:=(o1.blk_lt k hk).1;omega);have p2:=o2.mods ms (fun k hk e=>by have:=(o2.blk_lt k hk).1;omega);have p3:=o3.mods ms (fun k hk e=>by have:=(o3.blk_in k hk).1;omega);have i1:=hI.blk.setRow_other (k:=w.heap.size+1) ((shotC i t v l d V vc L lc X xc)) (by omega);obtain⟨w2,hw2⟩:∃w2,w2=w1.setRow (w.heap.size+1) ((shotC i t v l d V vc L lc X xc)):=⟨_,rfl⟩;rw[<-hw2] at X1 X2 X3 HB i1 p1 p2 p3;have HW2:=qh hw2.symm;have SO:=qh (SS.out V vc L lc X xc w2 X3 p1 p2);have OW:=qh (And.intro p1 (And.intro p2 p3));have c2:=i1.cell 2 (v:=.bool false) rfl;have c1:=i1.cell 1 (v:=.int .i64 (b.length:Int)) rfl;have k0:=X1.out.cell 0 rfl;clear SS hw2 CR o1 o2 o3 hI m1 y1 y2 y3 hb1 ms p1 p2 p3 i1 k2 X3;go_wp2_with (first
  | (refine wpList_store_row rfl 36 (.tmp 4) (.tmp 14) rfl (w.heap.size+1) ((shotC i t v l d V vc L lc X xc)) rfl rfl _ _ Y2.out zq rfl (by simp[Value.oneCell']) ?_;rw[HW2.out])
  | (refine yZ (by rfl) ?_;refine wpList_load_row rfl 36 (.tmp 4) rfl (w.heap.size+1) rfl 36 (shotC i t v l d V vc L lc X xc) (0,0) _ X2.out Tryz.underlying36 rfl zq ?_))
 refine SO.out.mono ?_;rintro e w3 ⟨rfl,b3⟩;have X3:=qh (X2.out.kept b3);have HB3:=qh (HB.out.trans (b3.mono HB.out.size));have B3:=qh b3;clear SO b3 X2 HB;go_wp2_with (first
  | (refine wpList_load_row rfl 36 (.tmp 4) rfl (w.heap.size+1) rfl 36 (shotC i t v l d V vc L lc X xc) (0,0) _ X3.out Tryz.underlying36 rfl zq ?_)
  | (refine wpList_store_row rfl 36 (.tmp 4) (.tmp 36) rfl (w.heap.size+1) ((shotC i t v l d V vc L lc X xc)) rfl rfl _ _ X3.out zq rfl (by simp[Value.oneCell']) ?_))
 have Y:=X3.out.setRow ((shotC i t v l d V vc L lc X xc));have y0:=Y.cell 0 rfl;have y1:=Y.cell 1 rfl;have y2:=Y.cell 2 rfl;have y3:=Y.cell 3 rfl;have y4:=Y.cell 4 rfl;refine bodyPost_ret (v:=.tuple #[.agg ((shotC i t v l d V vc L lc X xc)),.int .i64 0]) (by simp[results,Tryz.results143,go_sem,y0,y1,y2,y3,y4]) rfl ?_;have mt:=(Mods.refl (·=w.heap.size+1) w3).setRow (w.heap.size+1) (.inl rfl) ((shotC i t v l d V vc L lc X xc));obtain⟨p1,p2,p3⟩:=OW.out;have q1:=(p1.below B3.out).mods mt (fun k hk e=>by have:=(p1.blk_lt k hk).1;omega);have q2:=(p2.below B3.out).mods mt (fun k hk e=>by have:=(p2.blk_lt k hk).1;omega);have q3:=(p3.below B3.out).mods mt (fun k hk e=>by have:=(p3.blk_in k hk).1;omega);exact⟨V,vc,L,lc,X,xc,rfl,OV.base_le q1 (by omega),OV.base_le q2 (by omega),q3.base_le (by omega),below_setRow (g:=w.heap.size+1) HB3.out (by omega) _⟩
theorem zeS(A:Option Addr)(c:Nat)(i t:Nat)(v l:List Int)(d:List UInt8)(w:World)(hr:shotB i t v l d.length=true)(h:RB w A (shotBytes i t v l d))(hc:(shotBytes i t v l d).length<=c/\c<=9223372036854775807)(hl:(shotBytes i t v l d).length<=210000000000000) :
  Calls Tryz.prog 78 #[.slice A (shotBytes i t v l d).length c] w fun e w'=>∃V vc L lc X xc,e=.returned (.tuple #[.agg (shotC i t v l d V vc L lc X xc),.int .i64 0])/\OV w' w.heap.size 3 V vc (ncells .i64 v)/\OV w' w.heap.size 3 L lc (ncells .i64 l)/\OB w' w.heap.size X xc d/\Below w.heap.size w w':=by
 have hal:Below w.heap.size w (w.alloc (.cells shotZ 36)):=(Below.refl _ _).alloc (Nat.le_refl _) _;have Z:=qh (Blk.new w shotZ 36);have CF:=qh (zc8 (w.alloc (.cells shotZ 36)));have VV:=qh (fun g wx hg hx=>zfj g A c i t v l d wx hr hg hx hc hl);obtain⟨b,hb⟩:∃b,b=shotBytes i t v l d:=⟨_,rfl⟩;rw[<-hb] at h VV ⊢;have HRB:=qh h;have HAL:=qh hal;clear h hal hb hc hl;unfold shotZ at *;go_enter Tryz.func78,Tryz.ntmps78;go_wp2_with fail;refine CF.out.mono ?_;rintro e w1 ⟨g,rfl,hg,_,b1⟩;have hb1:=zn HAL.out b1;have CV:=qh (VV.out g w1 hg (HRB.out.below hb1));have Z1:=qh (Z.out.kept b1);have HB1:=qh hb1;have HS1:Hid (w.heap.size+1<=w1.heap.size):=qh (by have:=b1.size;simpa using this);clear b1 hb1 CF Z HAL hg;go_wp2_with fail;refine CV.out.mono ?_;rintro e w2 ⟨V,vc,L,lc,X,xc,rfl,o1,o2,o3,b2⟩;have Z2:=qh (Z1.out.kept b2);have HB2:=qh (HB1.out.trans (b2.mono HB1.out.size));have OW:=qh (And.intro o1 (And.intro o2 o3));clear b2 CV Z1 HB1 o1 o2 o3;go_wp2_with (refine wpList_store_row rfl 36 (.tmp 2) (.tmp 7) rfl w.heap.size ((shotC i t v l d V vc L lc X xc)) rfl rfl _ _ Z2.out zq rfl (by simp[Value.oneCell']) ?_);have Y:=Z2.out.setRow ((shotC i t v l d V vc L lc X xc));have y0:=Y.cell 0 rfl;have y1:=Y.cell 1 rfl;have y2:=Y.cell 2 rfl;have y3:=Y.cell 3 rfl;have y4:=Y.cell 4 rfl;refine bodyPost_ret (v:=.tuple #[.agg ((shotC i t v l d V vc L lc X xc)),.int .i64 0]) (by simp[results,Tryz.results78,go_sem,y0,y1,y2,y3,y4]) rfl ?_;have mt:=(Mods.refl (·=w.heap.size) w2).setRow w.heap.size (.inl rfl) ((shotC i t v l d V vc L lc X xc));obtain⟨p1,p2,p3⟩:=OW.out;have hs1:=HS1.out;have q1:=p1.mods mt (fun k hk e=>by have:=(p1.blk_lt k hk).1;omega);have q2:=p2.mods mt (fun k hk e=>by have:=(p2.blk_lt k hk).1;omega);have q3:=p3.mods mt (fun k hk e=>by have:=(p3.blk_in k hk).1;omega);exact⟨V,vc,L,lc,X,xc,rfl,OV.base_le q1 (by omega),OV.base_le q2 (by omega),q3.base_le (by omega),below_setRow HB2.out (Nat.le_refl _) _⟩
end
end Go.Proofs.YtobdmlejabjmiaaGreatDoor
