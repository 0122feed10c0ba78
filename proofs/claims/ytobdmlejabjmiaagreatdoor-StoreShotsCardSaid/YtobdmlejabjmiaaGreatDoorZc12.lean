/- Made small by a program. -/
import Derived.Test.YtobdmlejabjmiaaGreatDoorZc11
set_option maxRecDepth 20000
set_option maxHeartbeats 8000000
namespace Go.Proofs.YtobdmlejabjmiaaGreatDoor
open Go.RowKit
structure DSt where
 sure:FS
 unsure:List Wr
 room:Int
 fuse:Int
 down:Bool
def DSt.files(D:DSt):FS:=D.unsure.foldl doF D.sure
def Wr.ok(w:Wr):Prop:=(w.kind=1\/w.kind=2\/w.kind=3)/\w.off+w.data.length<=4194304
def wrRow(p:Wr × Option Addr × Nat):List Value:=[.int .i64 p.1.kind,.string ⟨p.1.name.toArray⟩,.int .i64 (p.1.off:Int),.slice p.2.1 p.1.data.length p.2.2]
def UI(S:Nat->Prop)(w:World)(A:Option Addr)(c:Nat)(us:List Wr):Prop :=
 ∃L:List (Wr × Option Addr × Nat),L.map Prod.fst=us/\OR w 0 94 4 A c (L.map wrRow)/\(∀b,A.map (·.block)=some b->S b)/\∀p∈L,OBS S w p.2.1 p.2.2 p.1.data
def DSt.ok(D:DSt):Prop:=(0<=D.room/\D.room<=4194304)/\(0<=D.fuse/\D.fuse<=9223372036854775807)/\(∀k l,fget D.sure k=some l->l.length<=4194304)/\(∀u∈D.unsure,u.ok)
def DSt.cnt(D:DSt):Nat:=D.sure.length+D.unsure.length
structure DR(S:Nat->Prop)(w:World)(g mf ms:Nat)(A:Option Addr)(c:Nat)(D:DSt):Prop where
 blk:Blk w g 66 #[.map (some mf),.map (some ms),.slice A D.unsure.length c,.int .i64 D.room,.int .i64 D.fuse,.bool D.down]
 fi:FI S w mf D.files
 si:FI S w ms D.sure
 ne:mf≠ms
 ui:UI S w A c D.unsure
 sg:S g
 ok:D.ok
 bnd:∀b,S b->b<w.heap.size
def DI(S:Nat->Prop)(w:World)(g:Nat)(D:DSt):Prop:=∃(mf ms:Nat) (A:Option Addr) (c:Nat),DR S w g mf ms A c D
theorem UI.below{S:Nat->Prop}{w w':World}{A:Option Addr}{c:Nat}{us:List Wr}(h:UI S w A c us)(hb:Below w.heap.size w w'):UI S w' A c us:=by
 obtain⟨L,h1,h2,h3,h4⟩:=h;exact⟨L,h1,h2.below hb,h3,fun p hp=>(h4 p hp).below hb⟩
theorem DR.below{S:Nat->Prop}{w w':World}{g mf ms:Nat}{A:Option Addr}{c:Nat}{D:DSt}(h:DR S w g mf ms A c D)(hb:Below w.heap.size w w'):DR S w' g mf ms A c D :=
 ⟨h.blk.kept hb,h.fi.below hb,h.si.below hb,h.ne,h.ui.below hb,h.sg,h.ok,fun b hs=>Nat.lt_of_lt_of_le (h.bnd b hs) hb.size⟩
theorem DI.below{S:Nat->Prop}{w w':World}{g:Nat}{D:DSt}(h:DI S w g D)(hb:Below w.heap.size w w'):DI S w' g D:=by
 obtain⟨mf,ms,A,c,r⟩:=h;exact⟨mf,ms,A,c,r.below hb⟩
theorem FI.of_blocks{S:Nat->Prop}{w w':World}{m:Nat}{F:FS}(h:FI S w m F)(hk:∀b,b<w.heap.size->S b->w'.heap[b]?=w.heap[b]?):FI S w' m F:=by
 obtain⟨es,h1,h2,h3,h4⟩:=h;exact⟨es,h1.of_block (hk m h1.lt h4),⟨fun k v hv=>by
  obtain⟨A,c,l,e1,e2,e3⟩:=h2.hit k v hv;exact⟨A,c,l,e1,e2.of_block fun b hb=>hk b (e2.1.blk_lt b hb).2 (e2.2 b hb),e3⟩,h2.miss⟩,h3,h4⟩
theorem UI.of_blocks{S:Nat->Prop}{w w':World}{A:Option Addr}{c:Nat}{us:List Wr}(h:UI S w A c us)(hk:∀b,b<w.heap.size->S b->w'.heap[b]?=w.heap[b]?):UI S w' A c us:=by
 obtain⟨L,h1,h2,h3,h4⟩:=h;exact⟨L,h1,h2.of_block fun b hb=>hk b (h2.blk_lt b hb).2 (h3 b hb),h3,fun p hp=>(h4 p hp).of_block fun b hb=>hk b ((h4 p hp).1.blk_lt b hb).2 ((h4 p hp).2 b hb)⟩
theorem DR.of_blocks{S:Nat->Prop}{w w':World}{g mf ms:Nat}{A:Option Addr}{c:Nat}{D:DSt}(h:DR S w g mf ms A c D)(hs:w.heap.size<=w'.heap.size)(hk:∀b,b<w.heap.size->S b->w'.heap[b]?=w.heap[b]?):DR S w' g mf ms A c D :=
 ⟨by unfold Blk;rw[hk g h.blk.lt h.sg];exact h.blk,h.fi.of_blocks hk,h.si.of_blocks hk,h.ne,h.ui.of_blocks hk,h.sg,h.ok,fun b hb=>Nat.lt_of_lt_of_le (h.bnd b hb) hs⟩
theorem DR.mods{S R:Nat->Prop}{w w':World}{g mf ms:Nat}{A:Option Addr}{c:Nat}{D:DSt}(h:DR S w g mf ms A c D)(k:Mods R w w')(hd:∀b,b<w.heap.size->S b->¬R b):DR S w' g mf ms A c D :=
 h.of_blocks k.size fun b hb hs=>k.block b hb (hd b hb hs)
theorem DI.mods{S R:Nat->Prop}{w w':World}{g:Nat}{D:DSt}(h:DI S w g D)(k:Mods R w w')(hd:∀b,b<w.heap.size->S b->¬R b):DI S w' g D:=by
 obtain⟨mf,ms,A,c,r⟩:=h;exact⟨mf,ms,A,c,r.mods k hd⟩
theorem FI.mono{S T:Nat->Prop}{w:World}{m:Nat}{F:FS}(h:FI S w m F)(hs:∀b,b<w.heap.size->S b->T b):FI T w m F:=by
 obtain⟨es,h1,h2,h3,h4⟩:=h;exact⟨es,h1,⟨fun k v hv=>by
  obtain⟨A,c,l,e1,e2,e3⟩:=h2.hit k v hv;exact⟨A,c,l,e1,e2.mono hs,e3⟩,h2.miss⟩,h3,hs m h1.lt h4⟩
theorem UI.mono{S T:Nat->Prop}{w:World}{A:Option Addr}{c:Nat}{us:List Wr}(h:UI S w A c us)(hs:∀b,b<w.heap.size->S b->T b):UI T w A c us:=by
 obtain⟨L,h1,h2,h3,h4⟩:=h;exact⟨L,h1,h2,fun b hb=>hs b (h2.blk_lt b hb).2 (h3 b hb),fun p hp=>(h4 p hp).mono hs⟩
theorem DR.mono{S T:Nat->Prop}{w:World}{g mf ms:Nat}{A:Option Addr}{c:Nat}{D:DSt}(h:DR S w g mf ms A c D)(hs:∀b,S b->T b)(ht:∀b,T b->b<w.heap.size):DR T w g mf ms A c D :=
 ⟨h.blk,h.fi.mono fun b _=>hs b,h.si.mono fun b _=>hs b,h.ne,h.ui.mono fun b _=>hs b,hs g h.sg,h.ok,ht⟩
theorem DI.bnd{S:Nat->Prop}{w:World}{g:Nat}{D:DSt}(h:DI S w g D):∀b,S b->b<w.heap.size:=by
 obtain⟨mf,ms,A,c,r⟩:=h;exact r.bnd
theorem FI.of_map{S:Nat->Prop}{w w':World}{m m2:Nat}{F:FS}{es:List (Nm × Value)}(h:FI S w m F)(h2:MapAt encStr w m2 es)(hne:m≠m2)(hk:Mods (fun b=>b=m2) w w'):FI S w' m F:=by
 obtain⟨es,e1,e2,e3,e4⟩:=h;exact⟨es,e1.mods hk hne,⟨fun k v hv=>by
  obtain⟨A,c,l,e1,e2,e3⟩:=e2.hit k v hv;refine⟨A,c,l,e1,e2.of_block fun b hb=>hk.block b (e2.1.blk_lt b hb).2 ?_,e3⟩;rintro rfl;obtain⟨cs,hc⟩:=e2.1.blk _ hb;exact h2.ne_cells hc rfl,e2.miss⟩,e3,e4⟩
theorem UI.of_map{S:Nat->Prop}{w w':World}{m2:Nat}{es:List (Nm × Value)}{A:Option Addr}{c:Nat}{us:List Wr}(h:UI S w A c us)(h2:MapAt encStr w m2 es)(hk:Mods (fun b=>b=m2) w w'):UI S w' A c us:=by
 obtain⟨L,e1,e2,e3,e4⟩:=h;refine⟨L,e1,e2.of_block fun b hb=>hk.block b (e2.blk_lt b hb).2 ?_,e3,fun p hp=>(e4 p hp).of_block fun b hb=>hk.block b ((e4 p hp).1.blk_lt b hb).2 ?_⟩
 ·rintro rfl;obtain⟨cs,hc⟩:=e2.blk _ hb;exact h2.ne_cells hc rfl
 ·rintro rfl;obtain⟨cs,hc⟩:=(e4 p hp).1.blk _ hb;exact h2.ne_cells hc rfl
theorem zeu{F:FS}(h:∀k l,fget F k=some l->l.length<=4194304){w:Wr}(hw:w.ok):∀k l,fget (doF F w) k=some l->l.length<=4194304:=by
 obtain⟨hk,ho⟩:=hw;have hold:((fget F w.name).getD []).length<=4194304:=by
  cases hg:fget F w.name with
  | none=>simp
  | some l=>exact h _ _ hg
 intro k l hl;unfold doF at hl;split at hl
 ·rw[xC] at hl;split at hl
  ·injection hl with hl
   rw[<-hl,za4];omega
  ·exact h _ _ hl
 ·split at hl
  ·rw[xC] at hl;split at hl
   ·injection hl with hl
    rw[<-hl,xx];omega
   ·exact h _ _ hl
  ·split at hl
   ·rw[ji] at hl;split at hl
    ·cases hl
    ·exact h _ _ hl
   ·exact h _ _ hl
section
variable {S:Nat->Prop} {w:World} {g:Nat} {D:DSt}
theorem y9(h:DI S w g D):Calls Tryz.prog 71 #[.pointer (some ⟨g,0,none⟩)] w fun e w'=>e=.returned (.int .i64 (if D.down=true then 11 else 0))/\w=w':=by
 obtain⟨mf,ms,A,c,r⟩:=h;have h1:=r.blk;have c5:=h1.cell 5 rfl;clear h1 r;cases hd:D.down
 ·rw[hd] at c5;go_enter Tryz.func71,Tryz.ntmps71;go_wp2_with fail;go_ret;exact⟨rfl,rfl⟩
 ·rw[hd] at c5;go_enter Tryz.func71,Tryz.ntmps71;go_wp2_with fail;go_ret;exact⟨rfl,rfl⟩
end
def dsk0(room:Int):DSt:=⟨[],[],room,0,false⟩
theorem FI.empty{S:Nat->Prop}{m:Nat}{w:World}(h:MapAt encStr w m ([]:List (Nm × Value)))(hn:S m):FI S w m [] :=
 ⟨[],h,⟨fun k v hk=>by simp[mget] at hk,fun _ _=>rfl⟩,List.Pairwise.nil,hn⟩
theorem UI.nil(S:Nat->Prop)(w:World):UI S w none 0 []:=⟨[],rfl,OR.nil _ _ _ _,by simp,by simp⟩
theorem zes(room:Int)(w:World)(h0:0<=room)(h1:room<=4194304):Calls Tryz.prog 7 #[.int .i64 room] w fun e w'=>∃g,e=.returned (.tuple #[.pointer (some ⟨g,0,none⟩),.int .i64 0])/\DI (News w w') w' g (dsk0 room)/\Below w.heap.size w w':=by
 have hmk:=ja (P:=Tryz.prog) 63 w;have hmk2:=ja (P:=Tryz.prog) 63 (w.alloc (.map #[] 0));have hm1:MapAt encStr (w.alloc (.map #[] 0)) w.heap.size ([]:List (Nm × Value)):=MapAt.made w;have hm2:MapAt encStr ((w.alloc (.map #[] 0)).alloc (.map #[] 0)) (w.alloc (.map #[] 0)).heap.size ([]:List (Nm × Value)):=MapAt.made _;have hb1:Below w.heap.size w (w.alloc (.map #[] 0)):=(Below.refl _ _).alloc (Nat.le_refl _) _;have hb2:Below (w.alloc (.map #[] 0)).heap.size (w.alloc (.map #[] 0)) ((w.alloc (.map #[] 0)).alloc (.map #[] 0)):=(Below.refl _ _).alloc (Nat.le_refl _) _;have hs1:(w.alloc (.map #[] 0)).heap.size=w.heap.size+1:=by simp
 have hs2:((w.alloc (.map #[] 0)).alloc (.map #[] 0)).heap.size=w.heap.size+1+1:=by simp
 have hm1':=hm1.below hb2;rw[hs1] at hm2 hmk2;have hblk:=Blk.new ((w.alloc (.map #[] 0)).alloc (.map #[] 0)) #[.map (some w.heap.size),.map (some (w.heap.size+1)),.slice none 0 0,.int .i64 room,.int .i64 0,.bool false] 66;have hb3:Below ((w.alloc (.map #[] 0)).alloc (.map #[] 0)).heap.size ((w.alloc (.map #[] 0)).alloc (.map #[] 0)) (((w.alloc (.map #[] 0)).alloc (.map #[] 0)).alloc (.cells #[.map (some w.heap.size),.map (some (w.heap.size+1)),.slice none 0 0,.int .i64 room,.int .i64 0,.bool false] 66)):=(Below.refl _ _).alloc (Nat.le_refl _) _;have HF:Hid (∃g,(Ending.returned (.tuple #[.pointer (some ⟨w.heap.size+1+1,0,none⟩),.int .i64 0]))=.returned (.tuple #[.pointer (some ⟨g,0,none⟩),.int .i64 0])/\DI (News w (((w.alloc (.map #[] 0)).alloc (.map #[] 0)).alloc (.cells #[.map (some w.heap.size),.map (some (w.heap.size+1)),.slice none 0 0,.int .i64 room,.int .i64 0,.bool false] 66))) (((w.alloc (.map #[] 0)).alloc (.map #[] 0)).alloc (.cells #[.map (some w.heap.size),.map (some (w.heap.size+1)),.slice none 0 0,.int .i64 room,.int .i64 0,.bool false] 66)) g (dsk0 room)/\Below w.heap.size w (((w.alloc (.map #[] 0)).alloc (.map #[] 0)).alloc (.cells #[.map (some w.heap.size),.map (some (w.heap.size+1)),.slice none 0 0,.int .i64 room,.int .i64 0,.bool false] 66))):=qh (by
  rw[hs2] at hblk;refine⟨_,rfl,⟨w.heap.size,w.heap.size+1,none,0,⟨hblk,.empty (hm1'.below hb3) ⟨Nat.le_refl _,by simp;omega⟩,.empty (hm2.below hb3) ⟨by omega,by simp⟩,by omega,.nil _ _,⟨by omega,by simp⟩,⟨⟨h0,h1⟩,⟨by simp[dsk0],by simp[dsk0]⟩,fun k l hk=>by simp[dsk0,fget] at hk,by simp[dsk0]⟩,fun b hb=>hb.2⟩⟩,?_⟩;exact(hb1.trans (hb2.mono (by omega))).trans (hb3.mono (by omega)))
 clear hm1 hm2 hb1 hb2 hm1' hblk hb3;go_enter Tryz.func7,Tryz.ntmps7;go_wp2_with fail
 go_ret2
 exact HF.out
def burnD(D:DSt):DSt:=if 0<D.fuse then { D with fuse:=D.fuse - 1,down:=decide (D.fuse - 1=0) } else D
theorem zF(D:DSt):(burnD D).files=D.files:=by unfold burnD;split<;>rfl
theorem zC(D:DSt):(burnD D).sure=D.sure:=by unfold burnD;split<;>rfl
theorem zo(D:DSt):(burnD D).unsure=D.unsure:=by unfold burnD;split<;>rfl
section
variable {S:Nat->Prop} {n m g:Nat} {w w':World} {F:FS} {T:TypeId} {cs:Array Value}
theorem FI.of_var(h:FI S w m F)(hb:Blk w g T cs)(hT:5≠T)(hk:∀b,b≠g->w'.heap[b]?=w.heap[b]?):FI S w' m F:=by
 obtain⟨es,h1,h2,r⟩:=h;exact⟨es,h1.of_block (hk m (h1.ne_cells hb)),⟨fun k v hv=>by
  obtain⟨A,c,l,e1,e2,e3⟩:=h2.hit k v hv;exact⟨A,c,l,e1,e2.of_block fun b hb'=>hk b (by rintro rfl;exact e2.1.ne_var hb hT hb'),e3⟩,h2.miss⟩,r⟩
theorem UI.of_var{A:Option Addr}{c:Nat}{us:List Wr}(h:UI S w A c us)(hb:Blk w g T cs)(hT:5≠T)(hT2:94≠T)(hk:∀b,b≠g->w'.heap[b]?=w.heap[b]?):UI S w' A c us:=by
 obtain⟨L,h1,h2,h3,h4⟩:=h;exact⟨L,h1,h2.of_block fun b hb'=>hk b (by rintro rfl;exact h2.ne_var hb hT2 hb'),h3,fun p hp=>(h4 p hp).of_block fun b hb'=>hk b (by rintro rfl;exact(h4 p hp).1.ne_var hb hT hb')⟩
theorem xq{D:DSt}{mf ms:Nat}{A:Option Addr}{c:Nat}(h:DR S w g mf ms A c D):Calls Tryz.prog 140 #[.pointer (some ⟨g,0,none⟩)] w fun e w'=>e=.returned (.bool (burnD D).down)/\DR S w' g mf ms A c (burnD D)/\Mods (fun b=>b=g) w w':=by
 have H:=qh h;obtain⟨h1,h2,h3,h4,h5,h6,h7,h8⟩:=h;have c4:=h1.cell 4 rfl;have c5:=h1.cell 5 rfl;have f4:=h1.free 4;have f5:=h1.free 5;have hf:=h7.2.1;by_cases hp:0<D.fuse
 ·have hb:burnD D={ D with fuse:=D.fuse - 1,down:=decide (D.fuse - 1=0) }:=by unfold burnD;rw[if_pos hp]
  have HF:Hid (DR S ((w.setCell ⟨g,4,none⟩ (.int .i64 (D.fuse - 1))).setCell ⟨g,5,none⟩ (.bool (decide (D.fuse - 1=0)))) g mf ms A c (burnD D)/\Mods (fun b=>b=g) w ((w.setCell ⟨g,4,none⟩ (.int .i64 (D.fuse - 1))).setCell ⟨g,5,none⟩ (.bool (decide (D.fuse - 1=0))))):=qh (by
   have hk:∀b,b≠g->((w.setCell ⟨g,4,none⟩ (.int .i64 (D.fuse - 1))).setCell ⟨g,5,none⟩ (.bool (decide (D.fuse - 1=0)))).heap[b]?=w.heap[b]?:=fun b hb=>by
    rw[Below.heap_setCell _ _ _ b hb,Below.heap_setCell _ _ _ b hb]
   refine⟨⟨?_,?_,?_,h4,?_,h6,?_,by simpa using h8⟩,((Mods.refl (fun b=>b=g) w).setCell ⟨g,4,none⟩ (.inl rfl) _).setCell ⟨g,5,none⟩ (.inl rfl) _⟩
   ·have:=(h1.setCell 4 (.int .i64 (D.fuse - 1))).setCell 5 (.bool (decide (D.fuse - 1=0)));rw[hb];exact this
   ·rw[zF];exact h2.of_var h1 (by decide) hk
   ·rw[zC];exact h3.of_var h1 (by decide) hk
   ·rw[zo];exact h5.of_var h1 (by decide) (by decide) hk
   ·rw[hb];exact⟨h7.1,⟨by simp only;omega,by simp only;omega⟩,h7.2.2⟩)
  rw[hb] at HF ⊢;clear h1 h2 h3 h5 h7 h8 H hb;generalize D.fuse=fu at *;by_cases h0:fu - 1=0
  ·obtain rfl:fu=1:=(by omega);go_enter Tryz.func140,Tryz.ntmps140;go_wp2_with fail;go_ret;exact⟨rfl,HF.out⟩
  ·rw[decide_eq_false h0] at HF ⊢;have h0b:(fu - 1 == 0)=false:=(by simpa using h0);go_enter Tryz.func140,Tryz.ntmps140;go_wp2_with fail;go_ret;exact⟨rfl,HF.out⟩
 ·have hb:burnD D=D:=by unfold burnD;rw[if_neg hp]
  rw[hb];clear h1 h2 h3 h5 h7 h8 hb f4 f5;go_enter Tryz.func140,Tryz.ntmps140;go_wp2_with fail;go_ret;exact⟨rfl,H.out,Mods.refl _ _⟩
end
def afterN(n:Nat)(w:Wr):Nat:=if w.kind=1 then max n (w.off+w.data.length) else if w.kind=2 then w.off else 0
theorem zeq(n:Nat)(c:Wr)(X:Option Addr)(cx:Nat)(w:World)(hn:n<=140737488355328)(hk:c.kind=1\/c.kind=2\/c.kind=3)(ho:c.off<=4194304)(hd:c.data.length<=140737488355328) :
  Calls Tryz.prog 138 #[.int .i64 (n:Int),.agg (wrV c X cx)] w fun e w'=>e=.returned (.int .i64 (afterN n c:Int))/\Below w.heap.size w w':=by
 have hal:Below w.heap.size w (w.alloc (.cells (wrV c X cx) 94)):=(Below.refl _ _).alloc (Nat.le_refl _) _;have hx:=Blk.new w (wrV c X cx) 94;obtain⟨kind,name,off,data⟩:=c;simp only at *;have y0:=hx.cell 0 rfl;have y2:=hx.cell 2 rfl;have y3:=hx.cell 3 rfl;clear hx;have h1:afterN n ⟨1,name,off,data⟩=max n (off+data.length):=rfl;have h2:afterN n ⟨2,name,off,data⟩=off:=rfl;have h3:afterN n ⟨3,name,off,data⟩=0:=rfl
 rcases hk with rfl | rfl | rfl
 ·rw[h1];by_cases hm:n<=off+data.length
  ·have hmx:(max n (off+data.length):Nat)=off+data.length:=(by omega);rw[hmx];clear h1 h2 h3 hmx;go_enter Tryz.func138,Tryz.ntmps138;go_wp2_with fail;all_goals
    go_ret;exact⟨j4 (by omega),hal⟩
  ·have hmx:(max n (off+data.length):Nat)=n:=(by omega);rw[hmx];clear h1 h2 h3 hmx;go_enter Tryz.func138,Tryz.ntmps138;go_wp2_with fail;all_goals
    go_ret;exact⟨j4 (by omega),hal⟩
 ·rw[h2];clear h1 h2 h3;go_enter Tryz.func138,Tryz.ntmps138;go_wp2_with fail;go_ret;exact⟨rfl,hal⟩
 ·rw[h3];clear h1 h2 h3;go_enter Tryz.func138,Tryz.ntmps138;go_wp2_with fail;go_ret;exact⟨rfl,hal⟩
theorem jX(F:FS)(n:Nm)(b:List UInt8):(fset F n b).length<=F.length+1:=by
 induction F with
 | nil=>simp[fset]
 | cons p r ih =>
  obtain⟨k,c⟩:=p;rw[fset];split
  ·simp only[List.length_cons];omega
  ·split
   ·simp
   ·simp
theorem zet(F:FS)(w:Wr):(doF F w).length<=F.length+1:=by
 unfold doF;split
 ·exact jX _ _ _
 ·split
  ·exact jX _ _ _
  ·split
   ·exact Nat.le_trans (List.length_filter_le _ _) (by omega)
   ·omega
theorem zeF(us:List Wr)(F:FS):(us.foldl doF F).length<=F.length+us.length:=by
 induction us generalizing F with
 | nil=>simp
 | cons u r ih =>
  rw[List.foldl_cons,List.length_cons];have:=ih (doF F u);have:=zet F u;omega
theorem zG{us:List Wr}{F:FS}(h:∀k l,fget F k=some l->l.length<=4194304)(hu:∀u∈us,u.ok):∀k l,fget (us.foldl doF F) k=some l->l.length<=4194304:=by
 induction us generalizing F with
 | nil=>exact h
 | cons u r ih =>
  rw[List.foldl_cons];exact ih (zeu h (hu u (by simp))) (fun v hv=>hu v (List.mem_cons_of_mem _ hv))
theorem zcg{F:FS}(hr:Rising F)(h:∀k l,fget F k=some l->l.length<=4194304):fsize F<=F.length*4194304:=by
 have hm:∀p∈F,p.2.length<=4194304:=fun p hp=>h p.1 p.2 (xY (yF hr) hp)
 clear h hr;unfold fsize
 induction F with
 | nil=>simp
 | cons p r ih =>
  have h1:=hm p (by simp);have h2:=ih (fun q hq=>hm q (List.mem_cons_of_mem _ hq));simp only[List.map_cons,List.sum_cons,List.length_cons];omega
def refuseD(D:DSt)(c:Wr)(off:Int):Int :=
 if D.down=true then 11
 else if nameOk c.name=false\/off<0\/4194304<off then 1
 else if fget D.files c.name=none/\c.kind≠3/\4096<=D.files.length then 7
 else if ((fget D.files c.name).getD []).length<afterN ((fget D.files c.name).getD []).length c/\D.room<(fsize D.files:Int)+((afterN ((fget D.files c.name).getD []).length c:Int) - ((fget D.files c.name).getD []).length) then 10
 else 0
def changeD(D:DSt)(c:Wr)(off:Int):Int × DSt :=
 if refuseD D c off≠0 then(refuseD D c off,D)
 else if (burnD D).down=true then(11,burnD D)
 else(0,{ burnD D with unsure:=(burnD D).unsure++[c] })
section
variable {S:Nat->Prop} {g:Nat} {w:World} {D:DSt}
theorem qf(c:Wr)(off:Int)(X:Option Addr)(cx:Nat)(h:DI S w g D)(hd:D.down=true) :
  Calls Tryz.prog 74 #[.pointer (some ⟨g,0,none⟩),.agg #[.int .i64 c.kind,.string ⟨c.name.toArray⟩,.int .i64 off,.slice X c.data.length cx]] w fun e w'=>e=.returned (.int .i64 11)/\Below w.heap.size w w':=by
 have hal:Below w.heap.size w (w.alloc (.cells #[.int .i64 c.kind,.string ⟨c.name.toArray⟩,.int .i64 off,.slice X c.data.length cx] 94)):=(Below.refl _ _).alloc (Nat.le_refl _) _;have AL:=qh (y9 (h.below hal));rw[if_pos hd] at AL;clear h;go_enter Tryz.func74,Tryz.ntmps74;go_wp2_with fail;refine AL.out.mono ?_;rintro e w' ⟨rfl,rfl⟩;go_wp2_with fail;go_ret;exact⟨rfl,hal⟩
theorem qZ(c:Wr)(off:Int)(X:Option Addr)(cx:Nat)(h:DI S w g D)(hd:D.down=false)(hs:c.name.length<=9223372036854775807)(ho:-9223372036854775808<=off/\off<=9223372036854775807)(hb:nameOk c.name=false\/off<0\/4194304<off) :
  Calls Tryz.prog 74 #[.pointer (some ⟨g,0,none⟩),.agg #[.int .i64 c.kind,.string ⟨c.name.toArray⟩,.int .i64 off,.slice X c.data.length cx]] w fun e w'=>e=.returned (.int .i64 1)/\Below w.heap.size w w':=by
 have hal:Below w.heap.size w (w.alloc (.cells #[.int .i64 c.kind,.string ⟨c.name.toArray⟩,.int .i64 off,.slice X c.data.length cx] 94)):=(Below.refl _ _).alloc (Nat.le_refl _) _;have hx:=Blk.new w #[.int .i64 c.kind,.string ⟨c.name.toArray⟩,.int .i64 off,.slice X c.data.length cx] 94;have AL:=qh (y9 (h.below hal));rw[if_neg (by rw[hd];simp)] at AL;have NM:=qh (qj ⟨c.name.toArray⟩ (w.alloc (.cells #[.int .i64 c.kind,.string ⟨c.name.toArray⟩,.int .i64 off,.slice X c.data.length cx] 94)) (by simpa [ByteArray.size] using hs));have y1:=hx.cell 1 rfl;obtain⟨o1,o2⟩:=ho;have HX:=qh hx;clear h hx
 rcases Bool.eq_false_or_eq_true (nameOk c.name) with hn | hn
 ·have hb':off<0\/4194304<off:=by rcases hb with h | h;rw[hn] at h;cases h;exact h
  rw[show nameOk (⟨c.name.toArray⟩:ByteArray).data.toList=true from hn] at NM;clear hb
  rcases hb' with h0 | h0
  all_goals
   go_enter Tryz.func74,Tryz.ntmps74;go_wp2_with fail;refine AL.out.mono ?_;rintro e w' ⟨rfl,rfl⟩;go_wp2_with fail;refine NM.out.mono ?_;rintro e w2 ⟨rfl,hb2⟩;have hx2:=HX.out.kept hb2;have z2:=hx2.cell 2 rfl;have hB:=hal.trans (hb2.mono hal.size);clear hb2 hx2 y1;go_wp2_with fail;go_ret;exact⟨rfl,hB⟩
 ·rw[show nameOk (⟨c.name.toArray⟩:ByteArray).data.toList=false from hn] at NM;clear hb;go_enter Tryz.func74,Tryz.ntmps74;go_wp2_with fail;refine AL.out.mono ?_;rintro e w' ⟨rfl,rfl⟩;go_wp2_with fail;refine NM.out.mono ?_;rintro e w2 ⟨rfl,hb2⟩;have hB:=hal.trans (hb2.mono hal.size);clear hb2 y1;go_wp2_with fail;go_ret;exact⟨rfl,hB⟩
end
section
variable {S:Nat->Prop} {g:Nat} {w:World} {D:DSt}
theorem Told.look2{m:Nat}{es:List (Nm × Value)}{F:FS}(ht:Told S w es F)(name:Nm):∃A c,RB w A ((fget F name).getD [])/\∀w',MapAt encStr w' m es->(Instr.lookup 63 (.map (some m)) (.string ⟨name.toArray⟩) true).run Tryz.prog w'=.ok (.tuple #[.slice A ((fget F name).getD []).length c,.bool (fget F name).isSome]) w':=by
 cases hk:mget es name with
 | none =>
  have h0:=ht.miss name hk;rw[h0];refine⟨none,0,RB.nil,fun w' hm=>?_⟩;have:=xI (P:=Tryz.prog) jT hm Tryz.underlying63 (zaJ w') hk true;simpa using this
 | some v =>
  obtain⟨A,c,l,rfl,hob,h0⟩:=ht.hit name v hk;rw[h0];refine⟨A,c,hob.1.rb,fun w' hm=>?_⟩;have:=xW (P:=Tryz.prog) jT hm Tryz.underlying63 hk true;simpa using this
end
theorem yv:(Tryz.prog.info? 94).map (fun i=>(i.zero,i.size,i.bytes))=some (some (.agg #[.int .i64 0,.string ⟨#[]⟩,.int .i64 0,.slice none 0 0]),4,56):=by kernel_rfl
theorem zdJ{l:List Nat}{x:Nat}(h:x∈l):x<=l.sum:=by
 induction l with
 | nil=>simp at h
 | cons a r ih =>
  rw[List.sum_cons]
  rcases List.mem_cons.1 h with rfl | h
  ·omega
  ·have:=ih h;omega
theorem fsize_ge(F:FS)(n:Nm):((fget F n).getD []).length<=fsize F:=by
 cases h:fget F n with
 | none=>simp
 | some l =>
  have hm:=zcW h;unfold fsize;exact zdJ (List.mem_map.2 ⟨_,hm,rfl⟩)
theorem zb7(D:DSt)(c:Wr)(off:Int)(h:refuseD D c off=0)(hb:(burnD D).down=false):changeD D c off=(0,{ burnD D with unsure:=D.unsure++[c] }):=by
 unfold changeD;rw[h,if_neg (by simp),if_neg (by rw[hb];simp),zo]
theorem zaM(D:DSt)(c:Wr)(off:Int)(h:refuseD D c off=0)(hb:(burnD D).down=true):changeD D c off=(11,burnD D):=by
 unfold changeD;rw[h,if_neg (by simp),if_pos hb]
theorem xo(D:DSt)(c:Wr)(off:Int){k:Int}(h:refuseD D c off=k)(hk:k≠0):changeD D c off=(k,D):=by
 unfold changeD;rw[h,if_pos hk]
theorem zcw{D:DSt}{c:Wr}{off:Int}(hd:D.down=true):refuseD D c off=11:=by unfold refuseD;rw[if_pos hd]
theorem zdU{D:DSt}{c:Wr}{off:Int}(hd:D.down=false)(h:nameOk c.name=false\/off<0\/4194304<off):refuseD D c off=1:=by unfold refuseD;rw[if_neg (by rw[hd];simp),if_pos h]
theorem zcx{D:DSt}{c:Wr}{off:Int}(hd:D.down=false)(hn:nameOk c.name=true)(h0:0<=off)(h1:off<=4194304)(h:fget D.files c.name=none/\c.kind≠3/\4096<=D.files.length):refuseD D c off=7:=by
 unfold refuseD;rw[if_neg (by rw[hd];simp),if_neg (by rw[hn];simp;omega),if_pos h]
theorem zcy{D:DSt}{c:Wr}{off:Int}(hd:D.down=false)(hn:nameOk c.name=true)(h0:0<=off)(h1:off<=4194304)(h:¬(fget D.files c.name=none/\c.kind≠3/\4096<=D.files.length)) :
  refuseD D c off=if ((fget D.files c.name).getD []).length<afterN ((fget D.files c.name).getD []).length c/\D.room<(fsize D.files:Int)+((afterN ((fget D.files c.name).getD []).length c:Int) - ((fget D.files c.name).getD []).length) then 10 else 0:=by
 unfold refuseD;rw[if_neg (by rw[hd];simp),if_neg (by rw[hn];simp;omega),if_neg h]
theorem okW{D:DSt}{c:Wr}(hk:c.kind=1\/c.kind=2\/c.kind=3)(ho:c.off<=4194304)(hd:c.kind≠1->c.data=[])(hroom:D.room<=4194304)(hsm:∀k l,fget D.files k=some l->l.length<=4194304)
  (h:¬(((fget D.files c.name).getD []).length<afterN ((fget D.files c.name).getD []).length c/\D.room<(fsize D.files:Int)+((afterN ((fget D.files c.name).getD []).length c:Int) - ((fget D.files c.name).getD []).length))):c.ok:=by
 refine⟨hk,?_⟩;by_cases h1:c.kind=1
 ·have hge:=fsize_ge D.files c.name;have hol:((fget D.files c.name).getD []).length<=4194304:=by
   cases hg:fget D.files c.name with
   | none=>simp
   | some l=>exact hsm _ _ hg
  unfold afterN at h;rw[if_pos h1] at h;omega
 ·rw[hd h1];simpa using ho
theorem DSt.ok.changed{D:DSt}{c:Wr}(h:D.ok)(hc:c.ok):({ burnD D with unsure:=D.unsure++[c] }:DSt).ok:=by
 have h':(burnD D).room=D.room/\(0<=(burnD D).fuse/\(burnD D).fuse<=9223372036854775807)/\(burnD D).sure=D.sure:=by
  have:=h.2.1;unfold burnD;split
  ·exact⟨rfl,⟨by simp only;omega,by simp only;omega⟩,rfl⟩
  ·exact⟨rfl,h.2.1,rfl⟩
 refine⟨by simp only;rw[h'.1];exact h.1,h'.2.1,by simp only;rw[h'.2.2];exact h.2.2.1,fun u hu=>?_⟩
 rcases List.mem_append.1 hu with hu | hu
 ·exact h.2.2.2 u hu
 ·rw[List.mem_singleton] at hu;subst hu;exact hc
theorem DSt.ok.files{D:DSt}(h:D.ok):∀k l,fget D.files k=some l->l.length<=4194304:=zG h.2.2.1 h.2.2.2
theorem DSt.files_len(D:DSt):D.files.length<=D.cnt:=zeF D.unsure D.sure
theorem DSt.size_le{D:DSt}(h:D.ok)(hr:Rising D.files)(hc:D.cnt<=1000000):fsize D.files<=4194304000000:=by
 have h1:=zcg hr h.files;have h2:D.files.length*4194304<=1000000*4194304:=Nat.mul_le_mul_right _ (Nat.le_trans (DSt.files_len D) hc);exact Nat.le_trans h1 (Nat.le_trans h2 (by decide))
theorem zeh(n:Nat)(c:Wr):afterN n c<=n+c.off+c.data.length:=by
 unfold afterN;split
 ·omega
 ·split<;>omega
theorem zcP{D:DSt}(h:D.ok):(burnD D).ok:=by
 unfold burnD;split
 ·rename_i hf;exact⟨h.1,⟨by have:=h.2.1.1;simp only;omega,by have:=h.2.1.2;simp only;omega⟩,h.2.2⟩
 ·exact h
def syncD(D:DSt):Int × DSt:=if D.down=true then(11,D) else if (burnD D).down=true then(11,burnD D) else(0,{ burnD D with sure:=D.files,unsure:=[] })
def readE(D:DSt)(name:Nm):Int:=if D.down=true then 11 else if nameOk name=false then 1 else if (fget D.files name).isSome=true then 0 else 8
def readB(D:DSt)(name:Nm):List UInt8:=if readE D name=0 then(fget D.files name).getD [] else []
def ReadEnd(w:World)(D:DSt)(name:Nm)(e:Ending)(w':World):Prop :=
 ∃A c,e=.returned (.tuple #[.slice A (readB D name).length c,.int .i64 (readE D name)])/\OB w' w.heap.size A c (readB D name)/\Below w.heap.size w w'
theorem x8{w w':World}{D:DSt}{name:Nm}{k:Int}(h:readE D name=k)(hk:k≠0)(hb:Below w.heap.size w w'):ReadEnd w D name (.returned (.tuple #[.slice none 0 0,.int .i64 k])) w':=by
 have hB:readB D name=[]:=by unfold readB;rw[h,if_neg hk]
 exact⟨none,0,by rw[hB,h];rfl,by rw[hB];exact OB.nil _ _,hb⟩
def fallD(D:DSt)(mask:Nat)(torn:Int):DSt:={ D with sure:=(fallUs mask torn D.unsure).foldl doF D.sure,unsure:=[],fuse:=0,down:=false }
theorem yw:(Tryz.prog.info? 94).map (·.size)=some 4:=by kernel_rfl
theorem y8(w:World)(cs ds:Array Value)(T:TypeId):Below w.heap.size w ((w.alloc (.cells cs T)).setRow w.heap.size ds)/\Blk ((w.alloc (.cells cs T)).setRow w.heap.size ds) w.heap.size T ds:=by
 have h1:Below w.heap.size w (w.alloc (.cells cs T)):=(Below.refl _ _).alloc (Nat.le_refl _) _;exact⟨⟨h1.os,h1.tape,h1.output,by simp,fun j hj=>(Go.setRow_other _ _ _ _ (by omega)).trans (h1.block j hj)⟩,(Blk.new w cs T).setRow ds⟩
end Go.Proofs.YtobdmlejabjmiaaGreatDoor
