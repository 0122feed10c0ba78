/- Made small by a program. -/
import Derived.Test.YtobdmlejabjmiaaGreatDoorZd33
set_option maxRecDepth 20000
set_option maxHeartbeats 8000000
namespace Go.Proofs.YtobdmlejabjmiaaGreatDoor
open Go.RowKit
section
variable {B p g cv co:Nat} {S S' F:Nat->Prop} {w w':World} {s:Sl} {D D':DSt} {V O:Option Addr}
abbrev toHardV:Value:=.func (.func 76) #[] #[]
abbrev toShotV:Value:=.func (.func 78) #[] #[]
theorem valueHard1(h:SR B S w p g s D V cv O co)(hh:s.has=true)(hd:s.down=false)(t:Nat)(v:Int)(hv:s.value=hardBytes t v)(ht:t<18446744073709551616)(h0:0<=v)(h1:v<=16) :
  Calls Tryz.prog 75 #[.pointer (some ⟨p,0,none⟩),toHardV] w fun e w'=>e=.returned (.tuple #[.agg #[.int .u64 (t:Int),.int .i64 v],.bool true])/\Below w.heap.size w w':=by
 have hlen:=hardBytes_len t v
 have hal:Below w.heap.size w (w.alloc (.cells #[.int .u64 0,.int .i64 0] 25)):=(Below.refl _ _).alloc (Nat.le_refl _) _
 have HZ:=qh (Blk.new w #[.int .u64 0,.int .i64 0] 25)
 have hle:loadE s=0:=by unfold loadE;rw[if_neg (by rw[hd];simp),if_neg (by rw[hh];simp)]
 have hlb:loadB s=hardBytes t v:=by unfold loadB;rw[hle,if_pos rfl,hv]
 have LD:=slotLoad (h.below hal) (by rw[hv];omega)
 unfold LoadEnd at LD
 rw[hle,hlb] at LD
 have TH:=qh (fun A c wx (hx:RB wx A (hardBytes t v)) hc=>msgToHard A c t v wx ht h0 h1 hx hc (by omega))
 have LDH:=qh LD
 have HAL:=qh hal
 obtain⟨b,hb⟩:∃b,b=hardBytes t v:=⟨_,rfl⟩
 rw[<-hb] at TH LDH
 clear h hal hle hh hd LD hlb hv hb hlen
 go_enter Tryz.func75,Tryz.ntmps75
 go_wp2_with (go_at_call 141;refine LDH.out.mono ?_)
 rintro e w1 ⟨A,c,rfl,ho,b1⟩
 have hz:=HZ.out.kept b1
 have HB:=qh (belowTrans HAL.out b1)
 have HY:=qh hz
 have TC:=qh (TH.out A c w1 ho.rb ho.cap)
 clear LDH ho b1 HZ HAL hz TH
 go_wp2_with fail
 refine TC.out.mono ?_
 rintro e w2 ⟨rfl,b2⟩
 have Y2:=qh (HY.out.kept b2)
 have HB2:=qh (HB.out.trans (b2.mono HB.out.size))
 have Y3:=qh (Y2.out.setRow #[.int .u64 (t:Int),.int .i64 v])
 have HB3:=qh (below_setRow (g:=w.heap.size) HB2.out (Nat.le_refl _) #[.int .u64 (t:Int),.int .i64 v])
 obtain⟨w3,hw3⟩:∃w3,w3=w2.setRow w.heap.size #[.int .u64 (t:Int),.int .i64 v]:=⟨_,rfl⟩
 rw[<-hw3] at Y3 HB3
 have HW3:=qh hw3.symm
 clear TC b2 HY HB HB2 hw3
 go_wp2_with (first
  | (refine wpList_store_row rfl 25 (.tmp 4) (.tmp 20) rfl w.heap.size #[.int .u64 (t:Int),.int .i64 v] rfl rfl _ _ Y2.out hard_size rfl (by simp[Value.oneCell']) ?_;rw[HW3.out])
  | (refine wpList_load_row rfl 25 (.tmp 4) rfl w.heap.size rfl 25 #[.int .u64 (t:Int),.int .i64 v] (0,0) _ Y3.out Tryz.underlying25 rfl hard_size ?_)
  | (refine wpList_store_row rfl 25 (.tmp 4) (.tmp 22) rfl w.heap.size #[.int .u64 (t:Int),.int .i64 v] rfl rfl _ _ Y3.out hard_size rfl (by simp[Value.oneCell']) ?_))
 have Y:=Y3.out.setRow #[.int .u64 (t:Int),.int .i64 v]
 have c0:=Y.cell 0 rfl
 have c1:=Y.cell 1 rfl
 refine bodyPost_ret (v:=.tuple #[.agg #[.int .u64 (t:Int),.int .i64 v],.bool true]) (by simp[results,Tryz.results75,go_sem,c0,c1]) rfl ⟨rfl,below_setRow HB3.out (Nat.le_refl _) _⟩
def HardOf(s:Sl)(t:Nat)(v:Int):Prop:=s.down=false/\((s.has=false/\s.value.length<=100000/\t=0/\v=0)\/(s.has=true/\s.value=hardBytes t v/\t<18446744073709551616/\0<=v/\v<=16))
theorem valueHard(h:SR B S w p g s D V cv O co)(t:Nat)(v:Int)(hh:HardOf s t v) :
  Calls Tryz.prog 75 #[.pointer (some ⟨p,0,none⟩),toHardV] w fun e w'=>∃ok:Bool,e=.returned (.tuple #[.agg #[.int .u64 (t:Int),.int .i64 v],.bool ok])/\Below w.heap.size w w':=by
 rcases hh with⟨hd,⟨h1,h2,rfl,rfl⟩ | ⟨h1,h2,h3,h4,h5⟩⟩
 ·exact(valueHard0 h h1 hd h2 _).mono fun e w' h=>⟨false,h⟩
 ·exact(valueHard1 h h1 hd t v h2 h3 h4 h5).mono fun e w' h=>⟨true,h⟩
theorem valueShot1(h:SR B S w p g s D V cv O co)(hh:s.has=true)(hd:s.down=false)(i t:Nat)(v l:List Int)(d:List UInt8)(hv:s.value=shotBytes i t v l d)(hr:shotB i t v l d.length=true) :
  Calls Tryz.prog 77 #[.pointer (some ⟨p,0,none⟩),toShotV] w fun e w'=>∃V vc L lc X xc,e=.returned (.tuple #[.agg (shotC i t v l d V vc L lc X xc),.bool true])/\OV w' w.heap.size 3 V vc (ncells .i64 v)/\OV w' w.heap.size 3 L lc (ncells .i64 l)/\OB w' w.heap.size X xc d/\Below w.heap.size w w':=by
 have hlen:=shotBytes_len hr
 obtain⟨q1,q2,_,q4,q5⟩:=shotB_parts hr
 have hal:Below w.heap.size w (w.alloc (.cells shot0 36)):=(Below.refl _ _).alloc (Nat.le_refl _) _
 have HZ:=qh (Blk.new w shot0 36)
 have hle:loadE s=0:=by unfold loadE;rw[if_neg (by rw[hd];simp),if_neg (by rw[hh];simp)]
 have hlb:loadB s=shotBytes i t v l d:=by unfold loadB;rw[hle,if_pos rfl,hv]
 have LD:=slotLoad (h.below hal) (by rw[hv];omega)
 unfold LoadEnd at LD
 rw[hle,hlb] at LD
 have TH:=qh (fun A c wx (hx:RB wx A (shotBytes i t v l d)) hc=>msgToShot A c i t v l d wx hr hx hc (by omega))
 have LDH:=qh LD
 have HAL:=qh hal
 have hws:(w.alloc (.cells shot0 36)).heap.size=w.heap.size+1:=by simp
 have HWS:=qh hws
 obtain⟨b,hb⟩:∃b,b=shotBytes i t v l d:=⟨_,rfl⟩
 rw[<-hb] at TH LDH
 clear h hal hle hh hd LD hlb hv hb hlen hr q1 hws
 unfold shot0 at *
 go_enter Tryz.func77,Tryz.ntmps77
 go_wp2_with (go_at_call 141;refine LDH.out.mono ?_)
 rintro e w1 ⟨A,c,rfl,ho,b1⟩
 have hz:=HZ.out.kept b1
 have HB:=qh (belowTrans HAL.out b1)
 have HY:=qh hz
 have TC:=qh (TH.out A c w1 ho.rb ho.cap)
 have hs1:w.heap.size+1<=w1.heap.size:=by have:=b1.size;rw[HWS.out] at this;exact this
 clear LDH ho b1 HZ HAL hz TH HWS
 go_wp2_with fail
 refine TC.out.mono ?_
 rintro e w2 ⟨V,vc,L,lc,X,xc,rfl,o1,o2,o3,b2⟩
 have Y2:=qh (HY.out.kept b2)
 have HB2:=qh (HB.out.trans (b2.mono HB.out.size))
 have Y3:=qh (Y2.out.setRow (shotC i t v l d V vc L lc X xc))
 have HB3:=qh (below_setRow (g:=w.heap.size) HB2.out (Nat.le_refl _) (shotC i t v l d V vc L lc X xc))
 have ms:=(Mods.refl (·=w.heap.size) w2).setRow w.heap.size (.inl rfl) (shotC i t v l d V vc L lc X xc)
 have HO:=qh (And.intro (o1.mods ms (fun k hk e=>by have:=(o1.blk_lt k hk).1;omega)) (And.intro (o2.mods ms (fun k hk e=>by have:=(o2.blk_lt k hk).1;omega)) (o3.mods ms (fun k hk e=>by have:=(o3.blk_in k hk).1;omega))))
 obtain⟨w3,hw3⟩:∃w3,w3=w2.setRow w.heap.size (shotC i t v l d V vc L lc X xc):=⟨_,rfl⟩
 rw[<-hw3] at Y3 HB3 HO
 have HW3:=qh hw3.symm
 clear TC b2 HY HB HB2 hw3 o1 o2 o3 ms
 go_wp2_with (first
  | (refine wpList_store_row rfl 36 (.tmp 4) (.tmp 20) rfl w.heap.size (shotC i t v l d V vc L lc X xc) rfl rfl _ _ Y2.out shot_size rfl (by simp[Value.oneCell']) ?_;rw[HW3.out])
  | (refine wpList_load_row rfl 36 (.tmp 4) rfl w.heap.size rfl 36 (shotC i t v l d V vc L lc X xc) (0,0) _ Y3.out Tryz.underlying36 rfl shot_size ?_)
  | (refine wpList_store_row rfl 36 (.tmp 4) (.tmp 22) rfl w.heap.size (shotC i t v l d V vc L lc X xc) rfl rfl _ _ Y3.out shot_size rfl (by simp[Value.oneCell']) ?_))
 have Y:=Y3.out.setRow (shotC i t v l d V vc L lc X xc)
 have c0:=Y.cell 0 rfl
 have c1:=Y.cell 1 rfl
 have c2:=Y.cell 2 rfl
 have c3:=Y.cell 3 rfl
 have c4:=Y.cell 4 rfl
 have ms:=(Mods.refl (·=w.heap.size) w3).setRow w.heap.size (.inl rfl) (shotC i t v l d V vc L lc X xc)
 obtain⟨o1,o2,o3⟩:=HO.out
 refine bodyPost_ret (v:=.tuple #[.agg (shotC i t v l d V vc L lc X xc),.bool true]) (by simp[results,Tryz.results77,go_sem,c0,c1,c2,c3,c4]) rfl ⟨V,vc,L,lc,X,xc,rfl,OV.base_le (o1.mods ms (fun k hk e=>by have:=(o1.blk_lt k hk).1;omega)) (by omega),OV.base_le (o2.mods ms (fun k hk e=>by have:=(o2.blk_lt k hk).1;omega)) (by omega),(o3.mods ms (fun k hk e=>by have:=(o3.blk_in k hk).1;omega)).base_le (by omega),below_setRow HB3.out (Nat.le_refl _) _⟩
theorem entryYes{q sc rc:Nat}{l:Lg}{Z:List (Sg × Pl)}{Y:List (List UInt8 × Option Addr × Nat)}{SA RA:Option Addr}{cs:Array Value}(hs:Blk w q 72 cs)(h11:cs[11]?=some (.pointer (some ⟨p,0,none⟩)))(h:LX B S F w p g l D Z Y SA sc RA rc)(i:Nat)(hi:i<18446744073709551616)(hn:l.next<9223372036854775808)(hr:∀r∈l.recs,r.length<=100000)
  (ix t:Nat) (k d:Int) (x:List UInt8) (hx:enB ix t k d x=true) (hk:readW l i=(enBytes ix t k d x,0)) :
  Calls Tryz.prog 80 #[.pointer (some ⟨q,0,none⟩),.int .u64 (i:Int)] w fun e w'=>∃X xc,e=.returned (.tuple #[.agg (enC ix t k d x X xc),.int .i64 0])/\OB w' w.heap.size X xc x/\Below w.heap.size w w':=by
 have hxl:=enBytes_len hx
 have hal:Below w.heap.size w (w.alloc (.cells entry0 44)):=(Below.refl _ _).alloc (Nat.le_refl _) _
 have HZ:=qh (Blk.new w entry0 44)
 have c11:=(hs.kept hal).cell 11 h11
 have RD:=walRead (h.below hal) i hi hn hr
 rw[hk] at RD
 have RDH:=qh RD
 have HAL:=qh hal
 have hws:(w.alloc (.cells entry0 44)).heap.size=w.heap.size+1:=by simp
 have HWS:=qh hws
 have TE:=qh (fun A c wx (hw:RB wx A (enBytes ix t k d x)) hc=>msgToEntry A c ix t k d x wx hx hw hc (by omega))
 obtain⟨b,hb⟩:∃b,b=enBytes ix t k d x:=⟨_,rfl⟩
 rw[<-hb] at TE RDH
 clear h hal RD hr hs h11 hb hx hxl hws hk
 unfold entry0 at *
 go_enter Tryz.func80,Tryz.ntmps80
 go_wp2_with (go_at_call 144;refine RDH.out.mono ?_)
 rintro e w1 ⟨A,c,n,rfl,rfl,ho,b1⟩
 have hz:=HZ.out.kept b1
 have HB:=qh (belowTrans HAL.out b1)
 have HY:=qh hz
 have TC:=qh (TE.out A c w1 ho.rb ho.cap)
 have hs1:w.heap.size+1<=w1.heap.size:=by have:=b1.size;rw[HWS.out] at this;exact this
 clear RDH ho b1 HZ HAL hz TE HWS
 go_wp2_with (go_at_call 145;refine TC.out.mono ?_)
 rintro e w2 ⟨X,xc,rfl,o1,b2⟩
 have Y2:=qh (HY.out.kept b2)
 have HB2:=qh (HB.out.trans (b2.mono HB.out.size))
 have HO:=qh o1
 clear TC b2 HY HB o1
 go_wp2_with (refine wpList_store_row rfl 44 (.tmp 4) (.tmp 23) rfl w.heap.size (enC ix t k d x X xc) rfl rfl _ _ Y2.out entry_size rfl (by simp[Value.oneCell']) ?_)
 have Y:=Y2.out.setRow (enC ix t k d x X xc)
 have c0:=Y.cell 0 rfl
 have c1:=Y.cell 1 rfl
 have c2:=Y.cell 2 rfl
 have c3:=Y.cell 3 rfl
 have c4:=Y.cell 4 rfl
 have ms:=(Mods.refl (·=w.heap.size) w2).setRow w.heap.size (.inl rfl) (enC ix t k d x X xc)
 refine bodyPost_ret (v:=.tuple #[.agg (enC ix t k d x X xc),.int .i64 0]) (by simp[results,Tryz.results80,go_sem,c0,c1,c2,c3,c4]) rfl ⟨X,xc,rfl,(HO.out.mods ms (fun k hk e=>by have:=(HO.out.blk_in k hk).1;omega)).base_le (by omega),below_setRow HB2.out (Nat.le_refl _) _⟩
end
theorem walName_okN{n:Nat}(hn:n<18446744073709551616):nameOk (walName 1 n)=true:=by
 have h1:Lib.decDigits 1=[49]:=by rw[Lib.decDigits];simp
 have h2:=dec_le20 hn
 unfold nameOk walName
 rw[h1,Bool.and_eq_true,decide_eq_true_eq,List.all_eq_true]
 refine⟨by simp only[List.length_append,List.length_cons,List.length_nil];omega,fun c hc=>?_⟩
 simp only[List.mem_append,List.mem_cons,List.not_mem_nil,or_false] at hc
 rcases hc with hc | hc
 ·rcases hc with((hc | hc) | hc) | hc
  all_goals (subst hc;decide)
 ·exact set_of_range (.inr (dec_range n c hc))
theorem reset1(n:Nat)(h1:1<=n)(h2:n<18446744073709551616):(resetW lg1 (dsk1 9000) n).1=0:=by
 have hn:=walName_okN h2
 have hne:walName 1 n≠walName 0 1:=by
  intro e
  have h0:Lib.decDigits 1=[49]:=by rw[Lib.decDigits];simp
  rw[walName_01] at e
  unfold walName at e
  rw[h0] at e
  simp at e
 have hn0:nameOk (walName 0 1)=true:=by rw[walName_01];decide
 obtain⟨f,hf⟩:∃f,f=walName 1 n:=⟨_,rfl⟩
 obtain⟨f0,hf0⟩:∃f0,f0=walName 0 1:=⟨_,rfl⟩
 have hp:putW (dsk1 9000) f 0 []=(0,⟨[(f0,[])],[⟨1,f,0,[]⟩],9000,0,false⟩):=by
  rw[<-hf] at hn
  unfold putW changeD
  have hr:refuseD (dsk1 9000) ⟨1,f,0,[]⟩ ((0:Nat):Int)=0:=by
   unfold refuseD
   simp[dsk1,DSt.files,hn,fget,afterN,fsize]
  rw[if_neg (by rw[hr];simp)]
  simp[burnD,dsk1,hf0]
 unfold resetW
 rw[if_neg (by simp[lg1]),if_neg (by omega),show lg1.era+1=1 from rfl,<-hf,hp]
 simp only
 rw[if_neg (by simp)]
 have hs:syncW lg1 ⟨[(f0,[])],[⟨1,f,0,[]⟩],9000,0,false⟩=(0,lg1.fell 0,⟨fset [(f0,[])] f [],[],9000,0,false⟩):=by
  unfold syncW
  rw[if_neg (by simp[lg1])]
  rw[sync_idle rfl rfl]
  simp[DSt.files,doF,putD_new,fget,hf0,hf,hne.symm]
 rw[hs]
 simp only
 rw[if_neg (by simp)]
 have hsegs:lg1.segs.map Sg.name=[f0]:=by rw[hf0];rfl
 rw[hsegs]
 unfold removeW
 have hrm:rmD ⟨fset [(f0,[])] f [],[],9000,0,false⟩ f0=(0,⟨fset [(f0,[])] f [],[⟨3,f0,0,[]⟩],9000,0,false⟩):=by
  rw[rm_idle rfl rfl (by rw[hf0];exact hn0)]
  rfl
 rw[hrm,if_neg (by simp)]
 unfold removeW syncW
 rw[if_neg (by simp[Lg.fell,lg1]),sync_idle rfl rfl]
theorem SR.keepq{B p g cv co q:Nat}{S:Nat->Prop}{w w':World}{s:Sl}{D:DSt}{V O:Option Addr}{cs:Array Value}(h:SR B S w p g s D V cv O co)(m:Mods (·=q) w w')(hq:Blk w q 72 cs)(hS:¬S q):SR B S w' p g s D V cv O co :=
 ⟨h.blk.mods m (fun e=>h.blk.ne hq (by decide) e),h.di.mods m (fun b _ hs e=>hS (by rw[<-e];exact hs)),h.val.mods m (fun k hk e=>h.val.ne_blk hq (by decide) (by rw[hk,e])),h.old.mods m (fun k hk e=>h.old.ne_blk hq (by decide) (by rw[hk,e])),h.ge,h.sge,h.ps,h.vs,h.os,h.bl,h.on⟩
abbrev storeC(g ph ps pl:Nat)(i t:Nat)(v l:List Int)(d:List UInt8)(V:Option Addr)(vc:Nat)(L:Option Addr)(lc:Nat)(D:Option Addr)(dc:Nat):Array Value :=
 #[.pointer (some ⟨g,0,none⟩),.int .u64 0,.int .i64 0,.int .u64 (i:Int),.int .u64 (t:Int),.slice V v.length vc,.slice L l.length lc,.slice D d.length dc,.slice none 0 0,.pointer (some ⟨ph,0,none⟩),.pointer (some ⟨ps,0,none⟩),.pointer (some ⟨pl,0,none⟩),.bool false]
def LoadDone(S F:Nat->Prop)(w:World)(q g ph ps pl:Nat)(i t:Nat)(v l:List Int)(d:List UInt8)(e:Ending)(w':World):Prop :=
 ∃A ac B bc C cc,e=.returned (.int .i64 0)/\Blk w' q 72 (storeC g ph ps pl i t v l d A ac B bc C cc)/\OV w' w.heap.size 3 A ac (ncells .i64 v)/\OV w' w.heap.size 3 B bc (ncells .i64 l)/\OB w' w.heap.size C cc d /\
  Mods (fun b=>b=q\/(i≠0/\(S b\/F b))) w w'
section
variable {B p g q ph ps pl sc rc cv co cv' co':Nat} {S F:Nat->Prop} {w w':World} {s s':Sl} {D:DSt} {V' O' V2 O2:Option Addr} {Z:List (Sg × Pl)} {Y:List (List UInt8 × Option Addr × Nat)} {SA RA:Option Addr}
theorem field_shot(a b c d e f g h:Value)(w:World):(Instr.field 38 (.agg #[a,b,c,d,e,f,g,h]) 1).run Tryz.prog w=.ok (.agg #[c,d,e,f,g]) w:=by kernel_rfl
theorem field_hard(a b c d e f g h:Value)(w:World):(Instr.field 38 (.agg #[a,b,c,d,e,f,g,h]) 0).run Tryz.prog w=.ok (.agg #[a,b]) w:=by kernel_rfl
theorem storeLoad(i t:Nat)(v l:List Int)(d:List UInt8)(V:Option Addr)(vc:Nat)(L:Option Addr)(lc:Nat)(Dd:Option Addr)(dc:Nat)
  (hq:Blk w q 72 (storeC g ph ps pl 0 0 [] [] [] none 0 none 0 none 0)) (hh:SR B S w ph g s (dsk1 9000) V' cv O' co) (hs:SR B S w ps g s' (dsk1 9000) V2 cv' O2 co') (hl:LX B S F w pl g lg1 (dsk1 9000) Z Y SA sc RA rc)
  (h1:s.has=false/\s.down=false/\s.value.length<=100000) (h2:s'.has=false/\s'.down=false/\s'.value.length<=100000) (hqS:¬S q) (hqF:¬F q) (hB:B<=w.heap.size) (hE:SEnv B w) (hBq:B<=q)
  (hv:RV w V (ncells .i64 v)) (hl2:RV w L (ncells .i64 l)) (hd:RB w Dd d) (hVq:0<v.length->∀b,V.map (·.block)=some b->b≠q) (hLq:0<l.length->∀b,L.map (·.block)=some b->b≠q) (hDq:0<d.length->∀b,Dd.map (·.block)=some b->b≠q) (hn:v.length<=1000000) (hm:l.length<=1000000) (hdl:d.length<=1000000) (hi:i<=4611686018427387904) :
  Calls Tryz.prog 32 #[.pointer (some ⟨q,0,none⟩),.agg (shotC i t v l d V vc L lc Dd dc)] w (LoadDone S F w q g ph ps pl i t v l d):=by
 have hal:Below w.heap.size w (w.alloc (.cells (shotC i t v l d V vc L lc Dd dc) 36)):=(Below.refl _ _).alloc (Nat.le_refl _) _
 have hqlt:=hq.lt
 have NN:=qh (Blk.new w (shotC i t v l d V vc L lc Dd dc) 36)
 have Q0:=qh (hq.kept hal)
 have VH:=qh (valueHard0 (hh.below hal) h1.1 h1.2.1 h1.2.2 (.func (.func 76) #[] #[]))
 have HHs:=qh hs
 have HHl:=qh hl
 have H2:=qh h2
 have HAL:=qh hal
 have c9:=Q0.out.cell 9 rfl
 have HSQ:=qh (And.intro hqS hqF)
 have HVQ:=qh (And.intro hv (And.intro hl2 (And.intro hd (And.intro hVq (And.intro hLq hDq)))))
 have HEN:=qh hE
 have HQ:=qh hq
 clear hq hh hs hl h1 h2 hal hqS hqF hv hl2 hd hVq hLq hDq hE
 unfold shotC at *
 go_enter Tryz.func32,Tryz.ntmps32
 go_wp2_with fail
 refine VH.out.mono ?_
 rintro e w1 ⟨rfl,b1⟩
 have Q1:=Q0.out.kept b1
 have hb1:=belowTrans HAL.out b1
 have TH:=qh (there_blk Q1 1 2 (by simp))
 have Q2:Hid (Blk (w1.setCells q 1 [.int .u64 0,.int .i64 0]) q 72 (storeC g ph ps pl 0 0 [] [] [] none 0 none 0 none 0)):=qh (blk_setCells2 Q1 1 (.int .u64 0) (.int .i64 0))
 have M2:=qh (((Mods.of_below (S:=(·=q)) hb1).setCell ⟨q,1,none⟩ (.inl rfl) (.int .u64 0)).setCell ⟨q,1+1,none⟩ (.inl rfl) (.int .i64 0))
 have N2:=qh (blk_setCells2_other (NN.out.kept b1) (k:=q) (by omega) 1 (.int .u64 0) (.int .i64 0))
 obtain⟨w2,hw2⟩:∃w2,w2=w1.setCells q 1 [.int .u64 0,.int .i64 0]:=⟨_,rfl⟩
 rw[show(w1.setCell ⟨q,1,none⟩ (.int .u64 0)).setCell ⟨q,1+1,none⟩ (.int .i64 0)=w1.setCells q 1 [.int .u64 0,.int .i64 0] from rfl] at M2
 rw[<-hw2] at Q2 M2 N2
 have HW2:=qh hw2.symm
 have VS:=qh (valueShot0 (HHs.out.keepq M2.out HQ.out HSQ.out.1) H2.out.1 H2.out.2.1 H2.out.2.2 (.func (.func 78) #[] #[]))
 have d10:=Q2.out.cell 10 rfl
 clear VH b1 Q1 hb1 Q0 c9 hw2 NN HAL
 go_wp2_with (first
  | (refine wpList_store_mid rfl 25 (.tmp 25) (.tmp 21) rfl q 1 #[.int .u64 0,.int .i64 0] rfl rfl TH.out hard_size (by simp[Value.oneCell']) ?_;simp only[];rw[HW2.out])
  | (go_at_call 77;refine VS.out.mono ?_))
 first | rintro e w3 rfl b3 | rintro e w3 ⟨rfl,b3⟩
 obtain⟨n5,hn5⟩:∃n5,n5=w3.heap.size:=⟨_,rfl⟩
 have hb4:Below w3.heap.size w3 (w3.alloc (.cells shot0 36)):=(Below.refl _ _).alloc (Nat.le_refl _) _
 have B5:=Blk.new w3 shot0 36
 have M3:=M2.out.below b3
 have hw3:=M3.size
 have N4:=(N2.out.kept b3).kept hb4
 have Q4:=(Q2.out.kept b3).kept hb4
 have M4:=(M3.below hb4).setRow w3.heap.size (.inr hw3) shot0
 have N4':=N4.setRow_other (k:=w3.heap.size) shot0 (by have:=N4.lt;have:=(N2.out.kept b3).lt;omega)
 have Q4':=Q4.setRow_other (k:=w3.heap.size) shot0 (by omega)
 have B5':=B5.setRow shot0
 obtain⟨w4,hw4⟩:∃w4,w4=(w3.alloc (.cells shot0 36)).setRow w3.heap.size shot0:=⟨_,rfl⟩
 rw[<-hw4] at N4' Q4' M4 B5'
 rw[<-hn5] at B5'
 have HW4:=qh hw4.symm
 have BN5:=qh B5
 have hVw:=HVQ.out
 have CL:=qh (stateClone 0 0 i t v l d V vc L lc Dd dc w4 (rv_mods hVw.1 M4 (fun h0 b hb=>hVw.2.2.2.1 (by rw[ncells_length] at h0;exact h0) b hb)) (rv_mods hVw.2.1 M4 (fun h0 b hb=>hVw.2.2.2.2.1 (by rw[ncells_length] at h0;exact h0) b hb)) (hVw.2.2.1.mods M4 (fun h0 b hb=>hVw.2.2.2.2.2 h0 b hb)) hn hm hdl)
 have N5:=qh N4'
 have Q5:=qh Q4'
 have R5:=qh B5'
 have M5:=qh M4
 have HN5:=qh hn5
 have hn5w:w.heap.size<=n5:=by omega
 have hn5lt:n5<w4.heap.size:=B5'.lt
 clear VS d10 b3 Q2 M2 N2 HW2 TH hb4 B5 M3 N4 Q4 M4 N4' Q4' B5' hw4 hVw HVQ hn5 hw3
 go_wp2_with (first
  | (refine wpList_store_row rfl 36 (.tmp 5) (.tmp 32) rfl w3.heap.size shot0 rfl rfl _ _ BN5.out shot_size rfl (by simp[Value.oneCell']) ?_;rw[HW4.out,<-HN5.out])
  | (refine wpList_load_row rfl 36 (.tmp 3) rfl w.heap.size rfl 36 (shotC i t v l d V vc L lc Dd dc) (0,0) _ N5.out Tryz.underlying36 rfl shot_size ?_))
 refine CL.out.mono ?_
 rintro e w5 ⟨A,ac,Bb,bc,C,cc,rfl,o1,o2,o3,b5⟩
 unfold stateC
 have X6:=(R5.out.kept b5).setRow (shotC i t v l d A ac Bb bc C cc)
 have Q6:=(Q5.out.kept b5).setRow_other (k:=n5) (shotC i t v l d A ac Bb bc C cc) (by omega)
 have M6:=(M5.out.below b5).setRow n5 (.inr hn5w) (shotC i t v l d A ac Bb bc C cc)
 have P1:=ownsRow_setRow (k:=n5) o1 (fun e=>by have:=(o1.own_lt _ e).1;omega) (shotC i t v l d A ac Bb bc C cc)
 have P2:=ownsRow_setRow (k:=n5) o2 (fun e=>by have:=(o2.own_lt _ e).1;omega) (shotC i t v l d A ac Bb bc C cc)
 have P3:=o3.setRow (k:=n5) (fun e=>by have:=(o3.own_lt n5 (by rw[own_blk];exact e)).1;omega) (shotC i t v l d A ac Bb bc C cc)
 have BR5:=qh (R5.out.kept b5)
 obtain⟨w6,hw6⟩:∃w6,w6=w5.setRow n5 (shotC i t v l d A ac Bb bc C cc):=⟨_,rfl⟩
 rw[<-hw6] at X6 Q6 M6 P1 P2 P3
 have HW6:=qh hw6.symm
 have TH7:=qh (there_blk Q6 3 5 (by simp))
 have Q7:Blk (w6.setCells q 3 [.int .u64 (i:Int),.int .u64 (t:Int),.slice A v.length ac,.slice Bb l.length bc,.slice C d.length cc]) q 72 (storeC g ph ps pl i t v l d A ac Bb bc C cc):=((((Q6.setCell 3 (.int .u64 (i:Int))).setCell 4 (.int .u64 (t:Int))).setCell 5 (.slice A v.length ac)).setCell 6 (.slice Bb l.length bc)).setCell 7 (.slice C d.length cc)
 have M7:Mods (·=q) w (w6.setCells q 3 [.int .u64 (i:Int),.int .u64 (t:Int),.slice A v.length ac,.slice Bb l.length bc,.slice C d.length cc]):=((((M6.setCell ⟨q,3,none⟩ (.inl rfl) (.int .u64 (i:Int))).setCell ⟨q,4,none⟩ (.inl rfl) (.int .u64 (t:Int))).setCell ⟨q,5,none⟩ (.inl rfl) (.slice A v.length ac)).setCell ⟨q,6,none⟩ (.inl rfl) (.slice Bb l.length bc)).setCell ⟨q,7,none⟩ (.inl rfl) (.slice C d.length cc)
 have X7:Blk (w6.setCells q 3 [.int .u64 (i:Int),.int .u64 (t:Int),.slice A v.length ac,.slice Bb l.length bc,.slice C d.length cc]) n5 36 (shotC i t v l d A ac Bb bc C cc):=((((X6.setCell_other (a:=⟨q,3,none⟩) (.int .u64 (i:Int)) (by simp only;omega)).setCell_other (a:=⟨q,4,none⟩) (.int .u64 (t:Int)) (by simp only;omega)).setCell_other (a:=⟨q,5,none⟩) (.slice A v.length ac) (by simp only;omega)).setCell_other (a:=⟨q,6,none⟩) (.slice Bb l.length bc) (by simp only;omega)).setCell_other (a:=⟨q,7,none⟩) (.slice C d.length cc) (by simp only;omega)
 have hqb:q<w4.heap.size:=by omega
 have P1':OV (w6.setCells q 3 [.int .u64 (i:Int),.int .u64 (t:Int),.slice A v.length ac,.slice Bb l.length bc,.slice C d.length cc]) w4.heap.size 3 A ac (ncells .i64 v):=ov_setCell (ov_setCell (ov_setCell (ov_setCell (ov_setCell P1 (a:=⟨q,3,none⟩) hqb _) (a:=⟨q,4,none⟩) hqb _) (a:=⟨q,5,none⟩) hqb _) (a:=⟨q,6,none⟩) hqb _) (a:=⟨q,7,none⟩) hqb _
 have P2':OV (w6.setCells q 3 [.int .u64 (i:Int),.int .u64 (t:Int),.slice A v.length ac,.slice Bb l.length bc,.slice C d.length cc]) w4.heap.size 3 Bb bc (ncells .i64 l):=ov_setCell (ov_setCell (ov_setCell (ov_setCell (ov_setCell P2 (a:=⟨q,3,none⟩) hqb _) (a:=⟨q,4,none⟩) hqb _) (a:=⟨q,5,none⟩) hqb _) (a:=⟨q,6,none⟩) hqb _) (a:=⟨q,7,none⟩) hqb _
 have P3':OB (w6.setCells q 3 [.int .u64 (i:Int),.int .u64 (t:Int),.slice A v.length ac,.slice Bb l.length bc,.slice C d.length cc]) w4.heap.size C cc d:=((((P3.setCell (a:=⟨q,3,none⟩) hqb _).setCell (a:=⟨q,4,none⟩) hqb _).setCell (a:=⟨q,5,none⟩) hqb _).setCell (a:=⟨q,6,none⟩) hqb _).setCell (a:=⟨q,7,none⟩) hqb _
 obtain⟨w7,hw7⟩:∃w7,w7=w6.setCells q 3 [.int .u64 (i:Int),.int .u64 (t:Int),.slice A v.length ac,.slice Bb l.length bc,.slice C d.length cc]:=⟨_,rfl⟩
 rw[<-hw7] at Q7 M7 X7 P1' P2' P3'
 have HW7:=qh hw7.symm
 have hsz4:=M5.out.size
 have e0:=X7.cell 0 rfl
 have e11:=Q7.cell 11 rfl
 have L7:=HHl.out.mods M7 (fun b hb e=>HSQ.out.2 (by rw[<-e];exact hb)) (HHl.out.lb.di.mods M7 (fun b _ hs e=>HSQ.out.1 (by rw[<-e];exact hs))) (fun b hb=>.inl hb) hB
 have FI:=qh (walFirst L7.blk 1 rfl)
 have X8:=qh X7
 have X6h:=qh X6
 have H7:=qh (And.intro Q7 (And.intro M7 (And.intro P1' (And.intro P2' P3'))))
 have LH:=qh L7
 have hfd:=field_shot (.int .u64 0) (.int .i64 0) (.int .u64 (i:Int)) (.int .u64 (t:Int)) (.slice A v.length ac) (.slice Bb l.length bc) (.slice C d.length cc) (.slice none 0 0) w5
 clear CL o1 o2 o3 b5 X6 Q6 M6 P1 P2 P3 hw6 Q7 M7 X7 P1' P2' P3' hw7 L7 N5 Q5 R5 M5 HW4 HN5 BN5
 go_wp2_with (first
  | (refine wpList_store_row rfl 36 (.tmp 5) (.tmp 39) rfl n5 (shotC i t v l d A ac Bb bc C cc) rfl rfl _ _ BR5.out shot_size rfl (by simp[Value.oneCell']) ?_;rw[HW6.out])
  | (refine wpList_load_row rfl 36 (.tmp 5) rfl n5 rfl 36 (shotC i t v l d A ac Bb bc C cc) (0,0) _ X6h.out Tryz.underlying36 rfl shot_size ?_)
  | (refine wpList_store_mid rfl 36 (.tmp 44) (.tmp 41) rfl q 3 #[.int .u64 (i:Int),.int .u64 (t:Int),.slice A v.length ac,.slice Bb l.length bc,.slice C d.length cc] rfl rfl TH7.out shot_size (by simp[Value.oneCell']) ?_;simp only[];rw[HW7.out]))
 refine FI.out.mono ?_
 rintro e w8 ⟨rfl,rfl⟩
 by_cases h0:i=0
 ·have hwi:IntKind.u64.wrap ((i:Int)+1)=1:=by rw[h0];rfl
  have NX:=qh (walNext LH.out.blk 1 0 rc RA rfl rfl (by decide))
  rw[show(((1+0:Nat)):Int)=1 from rfl] at NX
  have H0:=qh h0
  clear h0 FI
  go_wp2_with fail
  go_loopw [11] (fun s11 wr=>s11=.int .u64 1/\wr=w7) (fun _ _=>0)
  case atStart=>exact⟨by rfl,rfl⟩
  case round =>
   obtain⟨rfl,rfl⟩:=hrel
   go_wp2_with fail
   refine NX.out.mono ?_
   rintro e w9 ⟨rfl,m,rfl⟩
   go_wp2_with fail
   go_ret
   obtain⟨Q7,M7,P1,P2,P3⟩:=H7.out
   exact⟨A,ac,Bb,bc,C,cc,rfl,Q7.drewN m,OV.base_le (P1.below (bdN (Below.refl _ _) m)) hsz4,OV.base_le (P2.below (bdN (Below.refl _ _) m)) hsz4,(P3.drewN m).base_le hsz4,(M7.drewN m).mono (fun b _ e=>.inl e)⟩
 ·obtain⟨n1,hn1⟩:∃n1,n1=i+1:=⟨_,rfl⟩
  have hwi:IntKind.u64.wrap ((i:Int)+1)=(n1:Int):=by
   rw[show IntKind.u64.wrap ((i:Int)+1)=((i:Int)+1) % 18446744073709551616 from rfl]
   omega
  have hne:((1:Int) == (n1:Int))=false:=beq_eq_false_iff_ne.2 (by omega)
  have hrd:readW lg1 i=([],8):=by
   unfold readW
   rw[if_neg (by simp[lg1]),if_neg (by show ¬i<1;omega),if_pos (by show(1+0:Nat)<=i;omega)]
  have EN:=qh (entryNo H7.out.1 rfl LH.out i (by omega) (by decide) (by intro r hr;cases hr) 8 hrd (by decide))
  have H0:=qh h0
  clear h0 FI hrd
  go_wp2_with fail
  refine EN.out.mono ?_
  rintro e w9 ⟨rfl,b9⟩
  have hb10:Below w9.heap.size w9 (w9.alloc (.cells entry0 44)):=(Below.refl _ _).alloc (Nat.le_refl _) _
  have BN9:=qh (Blk.new w9 entry0 44)
  have hB10:=below_setRow (g:=w9.heap.size) (b9.trans (hb10.mono b9.size)) b9.size entry0
  obtain⟨w10,hw10⟩:∃w10,w10=(w9.alloc (.cells entry0 44)).setRow w9.heap.size entry0:=⟨_,rfl⟩
  rw[<-hw10] at hB10
  have HW10:=qh hw10.symm
  have Q10:=H7.out.1.kept hB10
  have g11:=Q10.cell 11 rfl
  have hM7:=H7.out.2.1
  have hE10:=HEN.out.below ((Mods.old (Below.refl B w) hM7 hB (fun i _ e=>by subst e;exact hBq)).trans (hB10.mono (Nat.le_trans hB hM7.size)))
  have RS:=walReset (LH.out.below hB10) (Nat.le_trans (Nat.le_trans hB hM7.size) hB10.size) hE10 n1 (by omega) (by decide) (fun s hs=>by
   have:s=⟨walName 0 1,1,[0]⟩:=by simpa [lg1] using hs
   subst this
   show(walName 0 1).length<=1000
   rw[walName_01];decide) (by decide) (by decide)
  rw[reset1 n1 (by omega) (by omega),show((n1:Nat):Int)=(i:Int)+1 from by omega] at RS
  have RSH:=qh RS
  have HB10:=qh hB10
  clear RS hE10 Q10 hB10 hb10 b9 hM7 hw10 EN
  go_wp2_with (refine wpList_store_row rfl 44 (.tmp 9) (.tmp 59) rfl w9.heap.size entry0 rfl rfl _ _ BN9.out entry_size rfl (by simp[Value.oneCell']) ?_;rw[HW10.out])
  refine RSH.out.mono ?_
  rintro e w11 ⟨rfl,S',F',hLR,hs',hf',m11⟩
  have HM:=qh m11
  clear hLR hs' hf' m11 RSH g11 BN9 HW10
  go_wp2_with fail
  go_ret
  obtain⟨Q7,M7,P1,P2,P3⟩:=H7.out
  have hno:∀k,w4.heap.size<=k->¬(S k\/F k):=fun k hk e=>by
   rcases e with e | e
   ·have:=HHl.out.lb.di.bnd k e;omega
   ·have:=(HHl.out.lb.bnd k e).2;omega
  have hqn:¬(S q\/F q):=fun e=>e.elim HSQ.out.1 HSQ.out.2
  have P1':=(P1.below HB10.out).mods HM.out (fun k hk=>hno k ((P1.blk_lt k hk).1))
  have P2':=(P2.below HB10.out).mods HM.out (fun k hk=>hno k ((P2.blk_lt k hk).1))
  have P3':=(P3.below HB10.out).mods HM.out (fun k hk=>hno k ((P3.blk_in k hk).1))
  exact⟨A,ac,Bb,bc,C,cc,rfl,(Q7.kept HB10.out).mods HM.out hqn,OV.base_le P1' hsz4,OV.base_le P2' hsz4,P3'.base_le hsz4,((M7.below HB10.out).mono (T:=fun b=>b=q\/(i≠0/\(S b\/F b))) (fun b _ e=>.inl e)).trans HM.out (fun b hb=>.inl (.inr ⟨H0.out,hb⟩))⟩
end
end Go.Proofs.YtobdmlejabjmiaaGreatDoor
