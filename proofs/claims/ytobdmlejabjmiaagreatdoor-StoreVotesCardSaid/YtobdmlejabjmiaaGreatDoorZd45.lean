/- Made small by a program. -/
import Derived.Test.YtobdmlejabjmiaaGreatDoorZd44
set_option maxRecDepth 20000
set_option maxHeartbeats 8000000
namespace Go.Proofs.YtobdmlejabjmiaaGreatDoor
open Go.RowKit
theorem VoS.cnt{H Z:List UInt8}{x:List (List UInt8)}{F:FS}{us:List Wr}(h:VoS H Z x F us):F.length+us.length<=5:=by
 cases h<;>first | (show(2:Nat)<=5;decide) | (show(3:Nat)<=5;decide) | (show(4:Nat)<=5;decide) | (show(5:Nat)<=5;decide)
section
variable {B g:Nat} {S S' F F' T:Nat->Prop} {w w':World} {z:SP} {x:SV} {D D':DSt} {H Z:List UInt8} {X:List (List UInt8)}
theorem ST.fused(h:ST B S F w g z x D)(hB:B<=w.heap.size)(hd:DI S w' g D')(m:Mods S w w'):ST B S F w' g z x D':=by
 obtain⟨Z1,Y,SA,sc,RA,rc,hx⟩:=h.lr
 exact h.logged hB ⟨_,_,_,_,_,_,hx.mods m hx.lb.dis hd (fun b hb=>.inl hb) hB⟩ (fun b hb=>.inl hb) (fun b hb=>.inl hb) (m.mono (fun b _ e=>.inl e))
theorem diskFuseS(n:Int)(h0:0<=n)(hn:n<=9223372036854775807)(h:DI S w g D):Calls Tryz.prog 24 #[.pointer (some ⟨g,0,none⟩),.int .i64 n] w fun e w'=>e=.returned (.int .i64 0)/\DI S w' g { D with fuse:=n }/\Mods S w w':=by
 obtain⟨mf,ms,A,c,hr⟩:=h
 have c4:=hr.blk.cell 4 rfl
 have f4:=hr.blk.free 4
 have HF:Hid (DI S (w.setCell ⟨g,4,none⟩ (.int .i64 n)) g { D with fuse:=n }/\Mods S w (w.setCell ⟨g,4,none⟩ (.int .i64 n))):=qh
  ⟨⟨mf,ms,A,c,hr.var (w':=w.setCell ⟨g,4,none⟩ (.int .i64 n)) (D':={ D with fuse:=n }) (by simp) (fun b hb=>Below.heap_setCell _ _ _ b hb) (hr.blk.setCell 4 (.int .i64 n)) rfl rfl ⟨hr.ok.1,⟨h0,hn⟩,hr.ok.2.2⟩⟩,(Mods.refl S w).setCell _ (.inl hr.sg) _⟩
 clear hr
 go_enter Tryz.func24,Tryz.ntmps24
 go_wp2_with fail
 go_ret
 exact⟨rfl,HF.out.1,HF.out.2⟩
theorem storeSaveShotDown(hst:ST B S F w g z x D)(hdn:x.dn=true)(hB:B<=w.heap.size)(i t:Nat)(v l:List Int)(d:List UInt8)(V:Option Addr)(vc:Nat)(L:Option Addr)(lc:Nat)(Dd:Option Addr)(dc:Nat) :
  Calls Tryz.prog 22 #[.pointer (some ⟨z.q,0,none⟩),.agg (shotC i t v l d V vc L lc Dd dc)] w fun e w'=>e=.returned (.int .i64 11)/\Below w.heap.size w w':=by
 have hal:Below w.heap.size w (w.alloc (.cells (shotC i t v l d V vc L lc Dd dc) 36)):=(Below.refl _ _).alloc (Nat.le_refl _) _
 have Q1:=(hst.below hB hal).blk
 rw[hdn] at Q1
 obtain⟨q,hq⟩:∃q,q=z.q:=⟨_,rfl⟩
 rw[<-hq] at Q1 ⊢
 have AL:=qh (storeAliveE true Q1 rfl)
 have HAL:=qh hal
 clear hal hst hdn hB Q1 hq
 unfold shotC at *
 go_enter Tryz.func22,Tryz.ntmps22
 go_wp2_with (go_at_call 35;refine AL.out.mono ?_;first | rintro e w1 rfl rfl | rintro e w1 ⟨rfl,rfl⟩)
 go_ret
 exact⟨rfl,HAL.out⟩
def VAt(_t:Nat)(_v:Int)(H Z:List UInt8)(X:List (List UInt8))(r:Int)(es:List ERow)(lg:Lg)(dn:Bool)(D:DSt):Prop :=
 (dn=true/\VoS H Z X D.sure D.unsure)\/(dn=false/\es.length<=50/\∃(y:List (List UInt8)) (k:Int),(y=[]\/y=X)/\lg=lgB y/\D=dK [(hN,H),(wN,recsB 1 y)] [] r k)
def VLogE(B:Nat)(S F:Nat->Prop)(w:World)(g:Nat)(z:SP)(t:Nat)(v:Int)(H Z:List UInt8)(X:List (List UInt8))(r:Int)(e:Ending)(w':World):Prop :=
 ∃(kk:Int) (S' F':Nat->Prop) (E':Option Addr) (ec':Nat) (es':List ERow) (lg:Lg) (D:DSt) (dn:Bool),e=.returned (.int .i64 kk)/\ST B S' F' w' g { z with E:=E',ec:=ec' } ⟨t,v,0,0,[1,2],[],[],es',openS nmShot Sc.zero,lg,dn⟩ D/\(∀b,S' b->S b\/w.heap.size<=b)/\(∀b,F' b->F b\/w.heap.size<=b)/\Mods (fun b=>S b\/F b\/b=z.q\/z.E.map (·.block)=some b) w w'/\VAt t v H Z X r es' lg dn D
theorem voteLog{t:Nat}{v:Int}{r k:Int}(hst:ST B S F w g z ⟨t,v,0,0,[1,2],[],[],[],openS nmShot Sc.zero,lg1,false⟩ (dK [(hN,H),(wN,[])] [] r k))(hB:B<=w.heap.size)(hE:SEnv B w)(E:Option Addr)(c nb:Nat)(es:List ERow)(hEO:EO w nb E c es)(hn:es.length<=50)(hno:∀b,nb<=b->¬S b/\¬F b)(hqn:z.q<nb)(hEn:∀b,z.E.map (·.block)=some b->b<nb)
  (hX:(SoundL 1 (es.map Prod.fst)/\X=(es.map Prod.fst).map En.bytes)\/(¬SoundL 1 (es.map Prod.fst)/\X=[])) (hxl:∀y∈X,y.length<=65520) (hr:(H.length:Int)+(recsB 1 X).length<=r) :
  Calls Tryz.prog 15 #[.pointer (some ⟨z.q,0,none⟩),.int .u64 1,.slice E es.length c] w (VLogE B S F w g z t v H Z X r):=by
 rcases hX with⟨hs,hx⟩ | ⟨hs,hx⟩
 ·have K:=storeSaveLogT hst rfl rfl rfl fine1 (by show(2:Nat)<=1000;decide) hB hE E c nb es hEO (by omega) hno hqn hEn true ⟨fun _=>hs,fun _=>rfl⟩
  rw[if_pos rfl,<-hx] at K
  refine K.mono ?_
  rintro e w' ⟨he,S',F',E',ec',es',hst',hes',h1,h2,m⟩
  refine⟨_,S',F',E',ec',es',_,_,_,he,hst',h1,h2,m,?_⟩
  show VAt t v H Z X r es' (saveLogD lg1 (dK [(hN,H),(wN,[])] [] r k) X).2.1 (decide ((saveLogD lg1 (dK [(hN,H),(wN,[])] [] r k) X).1=11)) (saveLogD lg1 (dK [(hN,H),(wN,[])] [] r k) X).2.2
  have hes:es'.length<=50:=by
   have:=congrArg List.length hes'
   rw[List.length_map] at this
   rw[this]
   split
   ·rw[List.length_map];exact hn
   ·exact Nat.zero_le _
  rcases slD (H:=H) (Z:=Z) (x:=X) r k hxl hr with⟨k',h⟩ | ⟨h3,h4⟩
  ·rw[h]
   exact .inr ⟨rfl,hes,X,k',.inr rfl,rfl,rfl⟩
  ·rw[h3]
   exact .inl ⟨rfl,h4⟩
 ·have K:=storeSaveLogT hst rfl rfl rfl fine1 (by show(2:Nat)<=1000;decide) hB hE E c nb es hEO (by omega) hno hqn hEn false ⟨(fun h=>by cases h),fun h=>absurd h hs⟩
  rw[if_neg (by simp)] at K
  refine K.mono ?_
  rintro e w' ⟨he,S',F',E',ec',es',hst',hes',h1,h2,m⟩
  have hes:es'=[]:=by
   rw[if_neg (by show ¬((2:Int)=0);decide)] at hes'
   exact List.map_eq_nil_iff.1 hes'
  exact⟨_,S',F',E',ec',es',_,_,_,he,hst',h1,h2,m,.inr ⟨rfl,by rw[hes];exact Nat.zero_le _,[],k,.inl rfl,rfl,rfl⟩⟩
theorem voteShot{t:Nat}{v:Int}{r:Int}{es:List ERow}{lg:Lg}{dn:Bool}(hst:ST B S F w g z ⟨t,v,0,0,[1,2],[],[],es,openS nmShot Sc.zero,lg,dn⟩ D)(hat:VAt t v H (frameB (shotBytes 1 1 [1,2] [] [])) X r es lg dn D)(hX:X.length<=1000)(hr:(H.length:Int)+(recsB 1 X).length+1000<=r)(hB:B<=w.heap.size)(hE:SEnv B w)(V:Addr)(hv:RV w (some V) (ncells .i64 [1,2]))(hrow:¬S V.block/\¬F V.block/\V.block≠z.q/\V.block≠z.ps) :
  Calls Tryz.prog 22 #[.pointer (some ⟨z.q,0,none⟩),.agg (shotC 1 1 [1,2] [] [] (some V) 2 none 0 none 0)] w (fun e w'=>∃(kk:Int) (S':Nat->Prop) (D':DSt),e=.returned (.int .i64 kk)/\DI S' w' g D'/\VoS H (frameB (shotBytes 1 1 [1,2] [] [])) X D'.sure D'.unsure/\(∀b,S' b->S b\/w.heap.size<=b)/\Mods (fun b=>S b\/F b\/b=z.q\/b=z.ps) w w'):=by
 rcases hat with⟨hdn,hvs⟩ | ⟨hdn,hel,y,k,hy,hlg,hD⟩
 ·refine(storeSaveShotDown hst hdn hB 1 1 [1,2] [] [] (some V) 2 none 0 none 0).mono ?_
  rintro e w' ⟨he,b⟩
  exact⟨11,S,D,he,hst.ss.di.below b,hvs,fun b hb=>.inl hb,Mods.of_below b⟩
 ·subst hlg hD hdn
  have hlen:=shotBytes_len (d:=[]) shot11
  have hl2:(shotBytes 1 1 [1,2] [] []).length<=400:=by simpa using hlen
  have hyl:y.length<=1000:=by rcases hy with e | e<;>rw[e]<;>first | exact hX | exact Nat.zero_le _
  have hyr:(H.length:Int)+(recsB 1 y).length+(shotBytes 1 1 [1,2] [] []).length+8<=r:=by
   have:(recsB 1 y).length<=(recsB 1 X).length:=by rcases hy with e | e<;>rw[e]<;>first | exact Nat.le_refl _ | exact Nat.zero_le _
   omega
  have hfc:=lgB_fineD (x:=y) hyl
  have hss:=ssD (H:=H) (x:=X) (shotBytes 1 1 [1,2] [] []) (by omega) r k y hy hyr
  have K:=storeSaveShotT hst rfl rfl hB hE 1 1 [1,2] [] [] (some V) 2 none 0 none 0 hv RV.nil RB.nil (fun b hb=>by
    rcases hb with hb | hb | hb
    ·injection hb with hb
     rw[<-hb];exact hrow
    ·cases hb
    ·cases hb) shot11 (Nat.le_refl _) rfl (by show(0:Nat)+1<18446744073709551616;decide) (by show(2:Nat)<=1000;decide) (by show(2:Nat)<=1000;decide) (by show(0:Nat)<=1000;decide) (by show es.length<=1000;omega) hfc.2 hfc.1 (by show(0:Nat)<=_;decide) (fun s hs=>(hfc.1.nm s hs).1) (by show(1:Nat)<=1000;decide) (by
    show(saveS (openS nmShot Sc.zero) (dK [(hN,H),(wN,recsB 1 y)] [] r k) (shotBytes 1 1 [1,2] [] [])).2.2.cnt<=400000
    rcases hss with⟨k',h1,h2⟩ | ⟨h1,h2⟩
    ·rw[h2]
     show(3:Nat)<=400000
     decide
    ·have:=h2.cnt
     unfold DSt.cnt
     omega)
  refine K.mono ?_
  rintro e w' ⟨he,S',hdi,h1,m⟩
  exact⟨_,S',_,he,hdi,sshD (H:=H) (x:=X) (shotBytes 1 1 [1,2] [] []) (by omega) r k y hy hyr _,h1,m⟩
end
theorem state_hard{w:World}{n:Nat}{T:TypeId}{ht i t en:Nat}{hv:Int}{v l:List Int}{d:List UInt8}{V L D E:Option Addr}{vc lc dc ec:Nat}(h:Blk w n T (stateL ht hv i t v l d V vc L lc D dc E en ec)):w.rangeAt n 0 [.int .u64 (ht:Int),.int .i64 hv] :=
 h.range 0 _ (by
  intro j x hj
  match j,hj with
  | 0,hj=>simpa using hj
  | 1,hj=>simpa using hj
  | j+2,hj=>simp at hj)
section
variable {w w':World}
theorem walkStoreVotes(t:Nat)(v:Int)(E:Option Addr)(c:Nat)(es:List ERow)(fz:Nat)(mask:Nat)(torn:Int)(w:World)(ht:t<18446744073709551616)(h:EL w E es)(hn:es.length*56<=140737488351232)(hd:∀x∈es,x.1.dat.length<=140737488351232)(hfz:fz<256)(hm:mask<18446744073709551616)(hto:-9223372036854775808<=torn/\torn<=9223372036854775807)(hE:WEnv w.heap.size w) :
  Calls Tryz.prog 6 #[.agg #[.int .u64 (t:Int),.int .i64 v],.slice E es.length c,.int .u8 (fz:Int),.int .u64 (mask:Int),.int .i64 torn] w fun e w'=>e=.returned (.bool true)/\Below w.heap.size w w':=by
 have hal:Below w.heap.size w (w.alloc (.cells #[.int .u64 (t:Int),.int .i64 v] 25)):=(Below.refl _ _).alloc (Nat.le_refl _) _
 have hz:=Blk.new w #[.int .u64 (t:Int),.int .i64 v] 25
 have hws:(w.alloc (.cells #[.int .u64 (t:Int),.int .i64 v] 25)).heap.size=w.heap.size+1:=by simp
 obtain⟨wA,hwA⟩:∃x,x=w.alloc (.cells #[.int .u64 (t:Int),.int .i64 v] 25):=⟨_,rfl⟩
 rw[<-hwA] at hal hz hws
 have HWA:=qh hwA.symm
 obtain⟨nz,hnz⟩:∃nz,nz=w.heap.size:=⟨_,rfl⟩
 rw[<-hnz] at hz hws
 have HNZ:=qh hnz.symm
 have Z:=qh hz
 have ND:=qh (diskNew 2000000 wA (by decide) (by decide))
 have HAL:=qh hal
 have HL:=qh (h.below hal)
 have HD:=qh hd
 have HE:=qh ((hE.below hal).up (by omega:w.heap.size<=wA.heap.size))
 have HMT:=qh (And.intro hm hto)
 have HNT:=qh (And.intro hn ht)
 clear hal hz h hd hE hm hto hn ht hwA hnz
 go_enter Tryz.func6,Tryz.ntmps6
 go_wp2_with fail
 rw[HWA.out,HNZ.out]
 refine ND.out.mono ?_
 rintro e w1 ⟨g,rfl,hD,b1⟩
 have HB1:=qh b1
 have Z1:=qh (Z.out.kept b1)
 have HNS:Hid (∀b,News wA w1 b->wA.heap.size<=b/\b<w1.heap.size):=qh (fun b e=>⟨e.1,e.2⟩)
 have HDI:=qh hD
 clear hD b1 Z ND
 go_wp2_with fail
 refine lawFirst.mono ?_
 rintro e w2 ⟨V2,rfl,hv2,b2⟩
 have hb2:=HB1.out.trans (b2.mono HB1.out.size)
 have OP:=qh (openFirst 2000000 (by decide) (HDI.out.below b2) hb2.size (fun b e=>by have:=(HNS.out b e).1;omega) (HE.out.below hb2) V2 hv2.rv (fun e=>by have:=(hv2.blk_lt V2.block rfl).1;have:=(HNS.out _ e).2;omega))
 have Z2:=qh (Z1.out.kept b2)
 have HB2:=qh hb2
 clear hv2 b2 hb2 HB1 Z1 HDI
 go_wp2_with fail
 refine OP.out.mono ?_
 rintro e w3 ⟨z,A',ac',B',bc',C',cc',E',ec',es2,nb,S3,rfl,he2,oe,o1,o2,o3,hnb,hdi,hs3,hs3n,m3,hy⟩
 obtain⟨F3,es3,Vh,cvh,Oh,coh,he3,hst,hsh,hpF,hpp⟩:=hy rfl
 have hes3:es3=[]:=List.map_eq_nil_iff.1 he3
 have hes2:es2=[]:=List.map_eq_nil_iff.1 he2
 subst hes3 hes2
 have hb3:Below wA.heap.size wA w3:=Mods.old HB2.out m3 HB2.out.size (fun k _ e=>(HNS.out k e).1)
 have hB3:=hb3.size
 have hb4:Below w3.heap.size w3 (w3.alloc (.cells state0 38)):=(Below.refl _ _).alloc (Nat.le_refl _) _
 have T4:=qh (Blk.new w3 state0 38)
 have hB4:=below_setRow (g:=w3.heap.size) hb4 (Nat.le_refl _) (stateL 0 0 0 0 [1,2] [] [] A' ac' B' bc' C' cc' E' ([]:List ERow).length ec')
 obtain⟨w4,hw4⟩:∃w4,w4=(w3.alloc (.cells state0 38)).setRow w3.heap.size (stateL 0 0 0 0 [1,2] [] [] A' ac' B' bc' C' cc' E' ([]:List ERow).length ec'):=⟨_,rfl⟩
 rw[<-hw4] at hB4
 have HW4:=qh hw4.symm
 have Z4:=qh ((Z2.out.mods m3 (fun e=>by have:=(HNS.out _ e).1;omega)).kept hB4)
 have hbb4:=hb3.trans (hB4.mono hB3)
 have HB4:=qh hbb4
 have ST4:=qh (And.intro (hst.below hB3 hB4) (And.intro (hsh.below hB4) (And.intro hpF hpp)))
 have hSE:=HE.out.se
 have ANS:Hid (∀v,Below w4.heap.size w4 v->Calls Tryz.prog 11 #[] v fun e w'=>e=.returned (.bool true)/\Below v.heap.size v w'):=qh (fun v hv=>lawAnswersS v (((hSE.below (hbb4.trans (hv.mono hbb4.size)))).up (Nat.le_trans hbb4.size hv.size)))
 clear OP hb4 hB4 hw4 hb3 hbb4 oe o1 o2 o3 hdi m3 hy hst hsh hpF hpp HB2 Z2 he2 he3
 obtain⟨hb,hhb⟩:∃hb,hb=hardB v:=⟨_,rfl⟩
 have HHB:=qh hhb
 clear hhb
 unfold stateL state0 at *
 go_wp2_with (first
  | (refine wpList_store_row rfl 38 (.tmp 14) (.tmp 29) rfl w3.heap.size (stateL 0 0 0 0 [1,2] [] [] A' ac' B' bc' C' cc' E' ([]:List ERow).length ec') rfl rfl _ _ T4.out state_size rfl (by simp[Value.oneCell']) ?_;rw[HW4.out])
  | (go_at_call 11;refine(ANS.out _ (Below.refl _ _)).mono ?_))
 first | rintro e w5 rfl b5 | rintro e w5 ⟨rfl,b5⟩
 have HO:=qh (refHardOK t v w5 hb HHB.out.symm)
 have ZH:=qh (Z4.out.kept b5)
 have HB5:=qh b5
 clear b5 T4 HW4
 go_wp2_with (first
  | (refine wpList_bareS (by rfl) ?_;refine wpList_load_row rfl 25 (.tmp 5) rfl nz rfl 25 #[.int .u64 (t:Int),.int .i64 v] (0,0) _ ZH.out Tryz.underlying25 rfl hard_size ?_)
  | (go_at_call 13;refine HO.out.mono ?_))
 first | rintro e w6 rfl b6 | rintro e w6 ⟨rfl,b6⟩
 have HB6:=qh (belowTrans HB5.out b6)
 clear b6 HO HB5 ZH
 cases hb with
 | false =>
  go_wp2_with (go_at_call 11;refine(ANS.out _ HB6.out).mono ?_)
  first | rintro e w7 rfl b7 | rintro e w7 ⟨rfl,b7⟩
  have HB7:=qh (HAL.out.trans ((HB4.out.trans ((belowTrans HB6.out b7).mono HB4.out.size)).mono HAL.out.size))
  clear b7
  go_wp2_with fail
  go_ret
  exact⟨rfl,HB7.out⟩
 | true =>
  have hbw6:=HB4.out.trans (HB6.out.mono HB4.out.size)
  have hw6:=hbw6.size
  have hst6:=ST4.out.1.below HB4.out.size HB6.out
  have hsh6:=ST4.out.2.1.below HB6.out
  have hlx:=hardBytes_len t v
  have hsv:=sh_dskH (hardBytes t v) (by omega) 2000000 (by decide)
  have sv:=storeSaveHardT hst6 hsh6 ST4.out.2.2.1 ST4.out.2.2.2 rfl hw6 (HE.out.se.below hbw6) t v (by have:=HNT.out.2;omega) HHB.out.symm rfl (by decide) (by show(1:Nat)<=1000;decide) (by show(1:Nat)<=1000;decide) (by show(0:Nat)<=1000;decide) (by rw[hsv])
  rw[hsv] at sv
  simp only at sv
  have SV:=qh sv
  have HV5:Hid (hardB v=true):=qh HHB.out.symm
  have Z6:=qh (Z4.out.kept HB6.out)
  have HBW6:=qh hbw6
  have HSH6:Hid (wA.heap.size<=z.ph/\wA.heap.size<=z.q/\∀b,S3 b->wA.heap.size<=b):=qh ⟨hsh6.ge,hst6.qB,hst6.ss.sge⟩
  clear hbw6 hst6 hsh6 hlx hsv sv HHB ANS HB6 ST4 Z4
  go_wp2_with (first
   | (refine wpList_load_row rfl 25 (.tmp 5) rfl nz rfl 25 #[.int .u64 (t:Int),.int .i64 v] (0,0) _ Z6.out Tryz.underlying25 rfl hard_size ?_)
   | (go_at_call 14;refine SV.out.mono ?_))
  rintro e w7 ⟨rfl,S7,hst7,hs7,m7⟩
  have hst7:ST wA.heap.size S7 F3 w7 g z ⟨t,v,0,0,[1,2],[],[],[],openS nmShot Sc.zero,lg1,false⟩ (dskH 2000000 (frameB (hardBytes t v)) []):=hst7
  have hw7:=m7.size
  have hT7:∀b,(S3 b\/b=z.ph\/b=z.q)->wA.heap.size<=b:=fun b e=>by
   have h:=HSH6.out
   rcases e with e | e | e
   ·exact h.2.2 b e
   ·rw[e];exact h.1
   ·rw[e];exact h.2.1
  have hbw7:Below wA.heap.size wA w7:=Mods.old HBW6.out m7 HBW6.out.size (fun b _ e=>hT7 b e)
  have Z7:=qh (Z6.out.mods m7 (fun e=>by have:=hT7 _ e;omega))
  have HST7:=qh (And.intro hst7 hbw7)
  clear SV Z6 HBW6 HSH6 hst7 hs7 m7 hT7 hbw7
  by_cases h50:es.length<=50
  ·have h50i:¬(50:Int)<(es.length:Int):=by omega
   have OE:=qh (refOwnEntries E c es w7 (HL.out.below HST7.out.2) HNT.out.1 HD.out)
   have HE50:=qh h50
   go_wp2_with fail
   refine OE.out.mono ?_
   rintro e w8 ⟨Ea,ca,ea,rfl,hea,hoa,hb8⟩
   have hl8:ea.length=es.length:=by have:=congrArg List.length hea;simpa using this
   have hl50:ea.length<=50:=by omega
   have hw8:=hb8.size
   have HB8:=qh hb8
   have Z8:=qh (Z7.out.kept hb8)
   have HOA:=qh hoa
   have H0:Hid (ea.map Prod.fst=idxK (es.map Prod.fst) 0):=qh (by rw[idxK_zero,hea])
   clear OE hb8 hea hoa hl8 h50i h50
   go_wp2_with fail
   go_loopw [16] (fun s15 wr=>∃(k:Nat) (ek:List ERow),k<=ea.length/\s15=.int .i64 (k:Int)/\Hid (ek.length=ea.length/\ek.map Prod.fst=idxK (es.map Prod.fst) k)/\Hid (EO wr w7.heap.size Ea ca ek)/\Hid (Mods (fun b=>Ea.map (·.block)=some b) w8 wr)) (fun s15 _=>ea.length - (intOf s15).toNat)
   case atStart=>exact⟨0,ea,Nat.zero_le _,rfl,qh ⟨rfl,H0.out⟩,HOA,qh (Mods.refl _ _)⟩
   case round =>
    obtain⟨k,ek,hk,rfl,HK,HO,HM⟩:=hrel
    by_cases hlt:k<ea.length
    ·have hki:(k:Int)<(ea.length:Int):=by omega
     have hke:k<ek.length:=by rw[HK.out.1];exact hlt
     obtain⟨b,rfl,hb0,hb1⟩:=HO.out.row.head' (by rw[List.length_map];omega)
     obtain⟨c0,f0,h1,m1⟩:=HO.out.setIdx hke (k+1)
     have hwk:IntKind.i64.wrap ((k:Int)+1)=((k+1:Nat):Int):=by rw[IntWalk.i64_in _ (by omega)];omega
     have hwu:IntKind.u64.wrap ((k+1:Nat):Int)=((k+1:Nat):Int):=wrap_small (by omega) (by omega)
     have HK1:Hid ((ek.set k ({ ek[k].1 with idx:=k+1 },ek[k].2)).length=ea.length/\(ek.set k ({ ek[k].1 with idx:=k+1 },ek[k].2)).map Prod.fst=idxK (es.map Prod.fst) (k+1)):=qh ⟨by rw[List.length_set,HK.out.1],by
      have h2:k<(es.map Prod.fst).length:=by have:=congrArg List.length HK.out.2;rw[List.length_map,idxK_len] at this;omega
      have h3:(ek.map Prod.fst)[k]?=(idxK (es.map Prod.fst) k)[k]?:=by rw[HK.out.2]
      rw[idxK_get,List.getElem?_map,List.getElem?_eq_getElem hke,List.getElem?_eq_getElem h2] at h3
      simp only[Option.map_some,Option.some.injEq,Nat.lt_irrefl,if_false] at h3
      rw[map_set_fst hke,idxK_step _ _ h2,<-HK.out.2]
      congr 1
      rw[<-h3,List.getElem_map]⟩
     have HO1:=qh h1
     have HM1:Hid (Mods (fun x=>(some (⟨b,0,none⟩:Addr)).map (·.block)=some x) w8 (wr.setCell ⟨b,k*5,none⟩ (.int .u64 ((k+1:Nat):Int)))):=qh (HM.out.then (m1.mono (fun x _ e=>by rw[e];rfl)))
     clear h1 m1 HK HO HM
     go_wp2_with fail
     go_roundw
     case rel=>exact⟨k+1,_,by omega,by go_num,HK1,HO1,HM1⟩
     case measure=>simp[intOf];omega
    ·obtain rfl:k=ea.length:=by omega
     have hs8r:=HM.out.size
     obtain⟨hekl,_⟩:=HK.out
     have hek50:ek.length<=50:=by omega
     have hb7r:Below w7.heap.size w7 wr:=Mods.old HB8.out HM.out HB8.out.size (fun x _ e=>(HOA.out.row.blk_lt x e).1)
     have hstr:=HST7.out.1.below HST7.out.2.size hb7r
     have ZR:=qh (Z7.out.kept hb7r)
     have hbr:=HST7.out.2.trans (hb7r.mono HST7.out.2.size)
     obtain⟨kf,hkf⟩:∃kf:Nat,kf=fz % 6+1:=⟨_,rfl⟩
     have hk6:kf<=6:=by omega
     have hw1:IntKind.i64.wrap ((fz:Int) % 6)=(fz:Int) % 6:=IntWalk.i64_in _ (by omega)
     have hw2:IntKind.i64.wrap ((fz:Int) % 6+1)=(kf:Int):=by rw[IntWalk.i64_in _ (by omega)];omega
     have fu:=diskFuseS (kf:Int) (by omega) (by omega) hstr.ss.di
     have FU:=qh fu
     have HSTR:=qh (And.intro hstr (And.intro hbr hb7r))
     have hs7S:∀b,S7 b->b<w7.heap.size:=HST7.out.1.ss.di.bnd
     have hs7F:∀b,F3 b->b<w7.heap.size:=fun b hb=>by
      obtain⟨_,_,_,_,_,_,hx⟩:=HST7.out.1.lr
      exact(hx.lb.bnd b hb).2
     have HS7:=qh (And.intro hs7S (And.intro hs7F (And.intro HST7.out.1.blk.lt (fun b (hb:z.E.map (·.block)=some b)=>(HST7.out.1.re.row.blk_lt b hb).2))))
     have HEK:=qh hekl
     have HEK50:=qh hek50
     clear HK HM hekl hek50 hb7r hstr hbr fu hs7S hs7F hkf HOA HB8 Z8 HST7 Z7
     go_wp2_with (go_at_call 24;refine FU.out.mono ?_)
     rintro e w9 ⟨rfl,hd9,m9⟩
     have hw9:=m9.size
     have hd9:DI S7 w9 g (dK [(hN,frameB (hardBytes t v)),(wN,[])] [] 2000000 (kf:Int)):=hd9
     have hS7:∀b,S7 b->wA.heap.size<=b:=HSTR.out.1.ss.sge
     have hst9:=HSTR.out.1.fused HSTR.out.2.1.size hd9 m9
     have hbw9:Below wA.heap.size wA w9:=Mods.old HSTR.out.2.1 m9 HSTR.out.2.1.size (fun b _ e=>hS7 b e)
     have Z9:=qh (ZR.out.mods m9 (fun e=>by have:=hS7 _ e;omega))
     have ho9:=HO.out.mods m9 (fun b h1 _ e=>by have:=HS7.out.1 b e;omega)
     obtain⟨X,hX⟩:∃X:List (List UInt8),(SoundL 1 (ek.map Prod.fst)/\X=(ek.map Prod.fst).map En.bytes)\/(¬SoundL 1 (ek.map Prod.fst)/\X=[]):=by
      by_cases hs:SoundL 1 (ek.map Prod.fst)
      ·exact⟨_,.inl ⟨hs,rfl⟩⟩
      ·exact⟨_,.inr ⟨hs,rfl⟩⟩
     obtain⟨ls,hls,hXl,hlsl⟩:∃ls:List En,(∀x∈ls,x.sound)/\X=ls.map En.bytes/\ls.length<=50:=by
      rcases hX with⟨hs,e⟩ | ⟨_,e⟩
      ·exact⟨_,soundL_all hs,e,by rw[List.length_map];exact HEK50.out⟩
      ·exact⟨[],(fun x hx=>by cases hx),e,Nat.zero_le _⟩
     have hrb:=rec_bound hls
     have hrn:=recsB_bound (ls.map En.bytes) 1 hrb
     rw[<-hXl] at hrb hrn
     have hXn:X.length<=50:=by rw[hXl,List.length_map];exact hlsl
     have hfl:(frameB (hardBytes t v)).length<=26:=by
      have:=hardBytes_len t v
      rw[frameB_len];omega
     have hsize:((frameB (hardBytes t v)).length:Int)+(recsB 1 X).length+1000<=2000000:=by omega
     have sl:=voteLog (Z:=frameB (shotBytes 1 1 [1,2] [] [])) (X:=X) hst9 hbw9.size (HE.out.se.below hbw9) Ea ca w7.heap.size ek ho9 HEK50.out (fun b hb=>⟨fun e=>by have:=HS7.out.1 b e;omega,fun e=>by have:=HS7.out.2.1 b e;omega⟩) HS7.out.2.2.1 HS7.out.2.2.2 hX (fun y hy=>by have:=hrb y hy;omega) (by omega)
     rw[HEK.out] at sl
     have SL:=qh sl
     have HXX:=qh (And.intro hls (And.intro hXl (And.intro hlsl (And.intro hXn hsize))))
     have HBW9:=qh hbw9
     have HG9:Hid (∀b,(S7 b\/F3 b\/b=z.q\/z.E.map (·.block)=some b)->wA.heap.size<=b):=qh (fun b e=>by
      obtain⟨_,_,_,_,_,_,hx⟩:=hst9.lr
      rcases e with e | e | e | e
      ·exact hS7 b e
      ·exact(hx.lb.bnd b e).1
      ·rw[e];exact hst9.qB
      ·exact(hst9.re.row.blk_lt b e).1)
     clear FU hd9 m9 hS7 hst9 hbw9 ho9 hX hls hXl hlsl hrb hrn hXn hfl hsize sl HSTR HS7 HO ZR
     go_wp2_with (go_at_call 15;refine SL.out.mono ?_)
     rintro e w10 ⟨kk,S10,F10,E10,ec10,es10,lg10,D10,dn10,rfl,hst10,hs10,hf10,m10,hat⟩
     have hw10:=m10.size
     have hbw10:Below wA.heap.size wA w10:=Mods.old HBW9.out m10 HBW9.out.size (fun b _ e=>HG9.out b e)
     have Z10:=qh (Z9.out.mods m10 (fun e=>by have:=HG9.out _ e;omega))
     have HST10:=qh (And.intro hst10 (And.intro hbw10 hat))
     clear SL hst10 hs10 hf10 m10 hat hbw10 HBW9 HG9 Z9
     go_wp2_with (go_at_call 9;refine lawFirst.mono ?_)
     rintro e w11 ⟨V11,rfl,hv11,b11⟩
     have hw11:=b11.size
     have hst11:=HST10.out.1.below HST10.out.2.1.size b11
     have hbw11:=HST10.out.2.1.trans (b11.mono HST10.out.2.1.size)
     have hvb:=(hv11.blk_lt V11.block rfl).1
     have ss:=voteShot hst11 HST10.out.2.2 (by have:=HXX.out.2.2.2.1;omega) HXX.out.2.2.2.2 hbw11.size (HE.out.se.below hbw11) V11 hv11.rv ⟨fun e=>by have:=HST10.out.1.ss.di.bnd _ e;omega,fun e=>by
      obtain⟨_,_,_,_,_,_,hx⟩:=HST10.out.1.lr
      have:=(hx.lb.bnd _ e).2;omega,fun e=>by
      have h:z.q<w10.heap.size:=HST10.out.1.blk.lt
      have e1:V11.block=z.q:=e
      omega,fun e=>by
      have h:z.ps<w10.heap.size:=HST10.out.1.ss.blk.lt
      have e1:V11.block=z.ps:=e
      omega⟩
     have SS:=qh ss
     have Z11:=qh (Z10.out.kept b11)
     have HBW11:=qh hbw11
     have HG11:Hid ((∀b,S10 b->wA.heap.size<=b)/\∀b,(S10 b\/F10 b\/b=z.q\/b=z.ps)->wA.heap.size<=b):=qh ⟨hst11.ss.sge,fun b e=>by
      obtain⟨_,_,_,_,_,_,hx⟩:=hst11.lr
      rcases e with e | e | e | e
      ·exact hst11.ss.sge b e
      ·exact(hx.lb.bnd b e).1
      ·rw[e];exact hst11.qB
      ·rw[e];exact hst11.ss.ge⟩
     have hfd:=field_conf (.int .u64 0) (.int .u64 0) (.slice (some V11) 2 2) (.slice none 0 0) (.slice none 0 0) w11
     clear hv11 b11 hst11 hbw11 hvb ss HST10 Z10
     unfold shotC at *
     go_wp2_with (go_at_call 22;refine SS.out.mono ?_)
     rintro e w12 ⟨k2,S12,D12,rfl,hd12,hvs,hs12,m12⟩
     have hw12:=m12.size
     have hbw12:Below wA.heap.size wA w12:=Mods.old HBW11.out m12 HBW11.out.size (fun b _ e=>HG11.out.2 b e)
     have Z12:=qh (Z11.out.mods m12 (fun e=>by have:=HG11.out.2 _ e;omega))
     have hg12:∀b,S12 b->wA.heap.size<=b:=fun b hb=>(hs12 b hb).elim (HG11.out.1 b) (fun e=>Nat.le_trans HBW11.out.size e)
     have FA:=diskFallC mask torn hd12 (by have:=hvs.cnt;unfold DSt.cnt;omega) HMT.out.1 HMT.out.2
     have FAH:=qh FA
     have HD12:=qh (And.intro hvs (And.intro hbw12 hg12))
     have hr12:0<=D12.room:=by
      obtain⟨_,_,_,_,hx⟩:=hd12
      exact hx.ok.1.1
     have HR12:=qh hr12
     clear SS hfd hd12 hvs hs12 m12 hbw12 hg12 FA hr12 HBW11 HG11 Z11
     go_wp2_with (go_at_call 17;refine FAH.out.mono ?_)
     rintro e w13 ⟨rfl,hd13,m13⟩
     have hw13:=m13.size
     have hbw13:=Mods.old HD12.out.2.1 m13 HD12.out.2.1.size (fun b _ e=>HD12.out.2.2 b e)
     have Z13:=qh (Z12.out.mods m13 (fun e=>by have:=HD12.out.2.2 _ e;omega))
     have hg13:∀b,Sx S12 w12 w13 b->wA.heap.size<=b:=fun b hb=>hb.elim (HD12.out.2.2 b) (fun e=>Nat.le_trans HD12.out.2.1.size e.1)
     have hvf:=HD12.out.1.fall mask torn
     obtain⟨F13,hF13⟩:∃F13,F13=(fallD D12 mask torn).sure:=⟨_,rfl⟩
     rw[<-hF13] at hvf
     have hd13:DI (Sx S12 w12 w13) w13 g (dF F13 D12.room):=by rw[hF13];exact hd13
     have HD13:=qh (And.intro hd13 (And.intro hvf (And.intro hbw13 hg13)))
     clear FAH hd13 m13 hbw13 hg13 hvf hF13 HD12 Z12
     generalize Sx S12 w12 w13=S13 at *
     go_wp2_with (go_at_call 9;refine lawFirst.mono ?_)
     rintro e w14 ⟨V14,rfl,hv14,b14⟩
     have hw14:=b14.size
     have hbw14:=HD13.out.2.2.1.trans (b14.mono HD13.out.2.2.1.size)
     have hvf:=HD13.out.2.1
     rw[HXX.out.2.1] at hvf
     have op:=openV D12.room HR12.out t v HNT.out.2 HV5.out ls HXX.out.1 (by have:=HXX.out.2.2.1;omega) F13 hvf (HD13.out.1.below b14) hbw14.size HD13.out.2.2.2 (HE.out.below hbw14) V14 hv14.rv (fun e=>by have:=(hv14.blk_lt V14.block rfl).1;have:=HD13.out.1.bnd _ e;omega)
     have OP:=qh op
     have Z14:=qh (Z13.out.kept b14)
     have HB14:=qh (And.intro hbw14 HD13.out.2.2.2)
     clear op hv14 b14 hbw14 hvf HD13 Z13 HR12
     go_wp2_with (go_at_call 8;refine OP.out.mono ?_)
     rintro e w15 ⟨i2,t2,v2,l2,d2,ft2,es2,sh2,ss2,lg2,D2,z2,Ao,aco,Bo,bco,Co,cco,Eo,eco,eso,nbo,So,rfl,heo,oeo,oo1,oo2,oo3,hnbo,hdio,hso,hsno,mo,_⟩
     have hw15:=mo.size
     have hbw15:=Mods.old HB14.out.1 mo HB14.out.1.size (fun b _ e=>HB14.out.2 b e)
     have hb16:Below w15.heap.size w15 (w15.alloc (.cells state0 38)):=(Below.refl _ _).alloc (Nat.le_refl _) _
     have TT:=Blk.new w15 state0 38
     have hB16:=below_setRow (g:=w15.heap.size) hb16 (Nat.le_refl _) (stateL t v i2 t2 v2 l2 d2 Ao aco Bo bco Co cco Eo eso.length eco)
     have KB:=TT.setRow (stateL t v i2 t2 v2 l2 d2 Ao aco Bo bco Co cco Eo eso.length eco)
     obtain⟨w16,hw16⟩:∃x,x=(w15.alloc (.cells state0 38)).setRow w15.heap.size (stateL t v i2 t2 v2 l2 d2 Ao aco Bo bco Co cco Eo eso.length eco):=⟨_,rfl⟩
     rw[<-hw16] at hB16 KB
     have TTH:=qh TT
     have HW16:=qh hw16.symm
     have Z16:=qh ((Z14.out.mods mo (fun e=>by have:=HB14.out.2 _ e;omega)).kept hB16)
     have HBF:=qh (HAL.out.trans ((hbw15.trans (hB16.mono hbw15.size)).mono HAL.out.size))
     obtain⟨nk,hnk⟩:∃nk,nk=w15.heap.size:=⟨_,rfl⟩
     rw[<-hnk] at KB
     have HNK:=qh hnk.symm
     have KR:=qh (state_hard KB)
     have heq:=hard_eq (t:Int) v
     clear OP heo oeo oo1 oo2 oo3 hdio hso hsno mo hbw15 hb16 TT hB16 KB hw16 hnk HB14 Z14
     unfold stateL state0 at *
     go_wp2_with (first
      | (refine wpList_store_row rfl 38 (.tmp 18) (.tmp 93) rfl w15.heap.size (stateL t v i2 t2 v2 l2 d2 Ao aco Bo bco Co cco Eo eso.length eco) rfl rfl _ _ TTH.out state_size rfl (by simp[Value.oneCell']) ?_;rw[HW16.out,HNK.out])
      | (refine wpList_bareS (by rfl) ?_;refine wpList_load_mid rfl 25 (.tmp 102) rfl nk 0 rfl [.int .u64 (t:Int),.int .i64 v] _ KR.out Tryz.underlying25 rfl hard_size ?_)
      | (refine wpList_bareS (by rfl) ?_;refine wpList_load_row rfl 25 (.tmp 5) rfl nz rfl 25 #[.int .u64 (t:Int),.int .i64 v] (0,0) _ Z16.out Tryz.underlying25 rfl hard_size ?_))
     go_ret
     exact⟨rfl,HBF.out⟩
  ·have h50i:(50:Int)<(es.length:Int):=by omega
   have HB7:=qh (HAL.out.trans (HST7.out.2.mono HAL.out.size))
   go_wp2_with fail
   go_ret
   exact⟨rfl,HB7.out⟩
end
end Go.Proofs.YtobdmlejabjmiaaGreatDoor
namespace Go.Proofs.YtobdmlejabjmiaaGreatDoor
open Go.ChangeShapes Go.WideShapes Go.ChangeAt Go.RowKit Go.Deep
section
variable {H:Type} {enc:TypeId × Value->H} {W:World}
end
end Go.Proofs.YtobdmlejabjmiaaGreatDoor
