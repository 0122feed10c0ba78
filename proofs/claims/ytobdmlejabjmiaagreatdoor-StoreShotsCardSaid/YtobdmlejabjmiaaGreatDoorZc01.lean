/- Made small by a program. -/
import Derived.Test.YtobdmlejabjmiaaGreatDoorProg
import Derived.WalkKit
import Derived.WalkSpells
import Derived.Lib.Hide
import Derived.WalkSmall
import Derived.Laws.AppendOwnNone
import Derived.Deep.DeepAppendWide
import Derived.Maps.AppendAt
set_option maxRecDepth 20000
set_option maxHeartbeats 8000000
namespace Go.Proofs.YtobdmlejabjmiaaGreatDoor
theorem qh{p:Prop}(h:p):RowKit.Hid p:=Lib.hid h
open Go.RowKit
theorem j4{k:IntKind}{a b:Int}(h:a=b):Ending.returned (.int k a)=.returned (.int k b):=by rw[h]
theorem zM{a b:Bool}(h:a=b):Ending.returned (.bool a)=.returned (.bool b):=by rw[h]
theorem zn{w0 w1 w2:World}(h1:Below w0.heap.size w0 w1)(h2:Below w1.heap.size w1 w2):Below w0.heap.size w0 w2:=h1.trans (h2.mono h1.size)
theorem yh(A:Option Addr)(n c:Nat):(Value.slice A n c).ownBlock=A.map (·.block):=by cases A<;>rfl
def bcells(l:List UInt8):List Value:=l.map fun x=>Value.int .u8 (x.toNat:Int)
theorem zx(l:List UInt8):(bcells l).length=l.length:=by simp[bcells]
theorem ye(l m:List UInt8):bcells (l++m)=bcells l++bcells m:=by simp[bcells]
theorem zX(l:List UInt8)(j:Nat):(bcells l)[j]?=(l[j]?).map fun x=>Value.int .u8 (x.toNat:Int):=by simp[bcells]
theorem jC(l:List UInt8):∀u∈bcells l,u.oneCell'=true:=by
 intro u hu;simp[bcells] at hu;obtain⟨x,_,rfl⟩:=hu;rfl
structure RB(w:World)(A:Option Addr)(l:List UInt8):Prop where
 at_:0<l.length->∃b off,A=some ⟨b,off,none⟩/\b<w.heap.size/\∀j x,l[j]?=some x->w.cell? ⟨b,off+j,none⟩=some (.int .u8 (x.toNat:Int))
def OB(w:World)(base:Nat)(A:Option Addr)(c:Nat)(l:List UInt8):Prop:=w.ownsRow base 5 1 (.slice A l.length c) l.length (bcells l)
section
variable {w w':World} {A:Option Addr} {l:List UInt8} {base c:Nat}
theorem RB.nil:RB w A []:=⟨fun h=>absurd h (by simp)⟩
theorem RB.keep(h:RB w A l)(hs:w.heap.size<=w'.heap.size)(hk:∀b off,0<l.length->A=some ⟨b,off,none⟩->b<w.heap.size->∀j,w'.cell? ⟨b,off+j,none⟩=w.cell? ⟨b,off+j,none⟩):RB w' A l :=
 ⟨fun hn=>by
  obtain⟨b,off,e,hb,hc⟩:=h.at_ hn;exact⟨b,off,e,by omega,fun j x hx=>(hk b off hn e hb j).trans (hc j x hx)⟩⟩
theorem RB.below(h:RB w A l)(hb:Below w.heap.size w w'):RB w' A l:=h.keep hb.size fun b _ _ _ hlt _=>hb.cell (p:=⟨b,_,none⟩) hlt
theorem RB.drewN(h:RB w A l)(n:Nat):RB (w.drewN n) A l:=⟨h.at_⟩
theorem RB.alloc(h:RB w A l)(o:Obj):RB (w.alloc o) A l:=h.below ((Below.refl _ _).alloc (Nat.le_refl _) o)
theorem RB.one(w:World)(x:UInt8){V:Int}(h:V=(x.toNat:Int)):RB (w.alloc (.cells #[.int .u8 V] 5)) (some ⟨w.heap.size,0,none⟩) [x]:=by
 subst h;refine⟨fun _=>⟨_,_,rfl,by simp,fun j y hy=>?_⟩⟩;have hj:j=0:=by
  rcases Nat.eq_zero_or_pos j with h0 | h0
  ·exact h0
  ·obtain⟨k,rfl⟩:∃k,j=k+1:=⟨j - 1,by omega⟩;simp at hy
 subst hj;simp only[List.getElem?_cons_zero,Option.some.injEq] at hy;subst hy;exact cell_of_row _ _ 0 _ _ _ (heap_alloc_new w _)
theorem OB.nil(w:World)(base:Nat):OB w base none 0 []:=World.ownsRow_nil _ _ _ _
theorem OB.form(h:OB w base A c l):(A=none/\c=0/\l=[])\/∃g,A=some ⟨g,0,none⟩/\base<=g/\g<w.heap.size/\l.length<=c/\c<=maxLen:=by
 rcases h.2 with⟨hv,hn⟩ | ⟨g,cap,cur,hv,hb,hg,hc,hm,_⟩
 ·injection hv with h1 h2 h3
  exact .inl ⟨h1,h3,List.eq_nil_of_length_eq_zero hn⟩
 ·injection hv with h1 h2 h3
  subst h3;exact .inr ⟨g,h1,hb,(Array.getElem?_eq_some_iff.1 hg).1,hc,hm⟩
theorem OB.cap(h:OB w base A c l):l.length<=c/\c<=9223372036854775807:=by
 rcases h.form with⟨_,rfl,rfl⟩ | ⟨g,_,_,_,h1,h2⟩
 ·simp
 ·unfold maxLen at h2;omega
theorem OB.none_len(h:OB w base A c l):A=none->l.length=0:=by
 intro e
 rcases h.form with⟨_,rfl,rfl⟩ | ⟨g,e',_⟩
 ·rfl
 ·rw[e] at e';cases e'
theorem OB.of_own{v:Value}{n:Nat}(h:w.ownsRow base 5 1 v n (bcells l)):∃A c,v=.slice A l.length c/\OB w base A c l:=by
 have hl:n=l.length:=by have:=h.1;rw[zx] at this;omega
 subst hl
 rcases h.2 with⟨rfl,hn⟩ | ⟨g,cap,cur,rfl,rest⟩
 ·refine⟨none,0,by rw[hn],?_⟩;unfold OB;rw[hn];exact⟨by simpa [hn] using h.1,.inl ⟨rfl,rfl⟩⟩
 ·exact⟨_,_,rfl,h⟩
theorem OB.rb(h:OB w base A c l):RB w A l:=by
 refine⟨fun hn=>?_⟩
 rcases h.form with⟨_,_,rfl⟩ | ⟨g,rfl,_,hg,_⟩
 ·simp at hn
 ·refine⟨g,0,rfl,hg,fun j x hx=>?_⟩;have hj:j<l.length:=(List.getElem?_eq_some_iff.1 hx).1;have:=World.ownsRow.cellAt h j (by omega);rw[Nat.zero_add,this,zX,hx]
  rfl
theorem OB.below(h:OB w base A c l)(hb:Below w.heap.size w w'):OB w' base A c l :=
 World.ownsRow.kept h (row:=none) ⟨hb.os,hb.tape,hb.output,hb.size,fun k hk _=>hb.block k hk⟩ (by cases (Value.slice A l.length c).ownBlock<;>simp)
theorem OB.base_le{base':Nat}(h:OB w base A c l)(hb:base'<=base):OB w base' A c l:=by
 refine⟨h.1,?_⟩
 rcases h.2 with h1 | ⟨g,cap,cur,hv,hbg,rest⟩
 ·exact .inl h1
 ·exact .inr ⟨g,cap,cur,hv,by omega,rest⟩
theorem OB.drewN(h:OB w base A c l)(n:Nat):OB (w.drewN n) base A c l:=h
theorem OB.alloc(h:OB w base A c l)(o:Obj):OB (w.alloc o) base A c l:=h.below ((Below.refl _ _).alloc (Nat.le_refl _) o)
theorem OB.made0(w:World){base:Nat}(hb:base<=w.heap.size):OB (w.alloc (.cells #[] 5)) base (some ⟨w.heap.size,0,none⟩) 0 [] :=
 World.ownsRow_made w #[] 0 hb (Nat.zero_le _) rfl
theorem RB.cell(h:RB w A l){j:Nat}(hj:j<l.length):∃b off,A=some ⟨b,off,none⟩/\b<w.heap.size/\w.cell? ⟨b,off+j,none⟩=some (.int .u8 (l[j].toNat:Int)):=by
 obtain⟨b,off,e,hb,hc⟩:=h.at_ (by omega);exact⟨b,off,e,hb,hc j _ (List.getElem?_eq_getElem hj)⟩
theorem OB.own_lt(h:OB w base A c l):∀k,(Value.slice A l.length c).ownBlock=some k->base<=k/\k<w.heap.size:=World.ownsRow.lt h
end
structure RV(w:World)(A:Option Addr)(xs:List Value):Prop where
 at_:0<xs.length->∃b off,A=some ⟨b,off,none⟩/\b<w.heap.size/\∀j x,xs[j]?=some x->w.cell? ⟨b,off+j,none⟩=some x
section
variable {w w':World} {A:Option Addr} {xs:List Value}
theorem RV.nil:RV w A []:=⟨fun h=>absurd h (by simp)⟩
theorem RV.below(h:RV w A xs)(hb:Below w.heap.size w w'):RV w' A xs :=
 ⟨fun hn=>by
  obtain⟨b,off,e,hlt,hc⟩:=h.at_ hn;exact⟨b,off,e,Nat.lt_of_lt_of_le hlt hb.size,fun j x hx=>(hb.cell (p:=⟨b,_,none⟩) hlt).trans (hc j x hx)⟩⟩
theorem RV.drewN(h:RV w A xs)(n:Nat):RV (w.drewN n) A xs:=⟨h.at_⟩
theorem RV.cell(h:RV w A xs){j:Nat}(hj:j<xs.length):∃b off,A=some ⟨b,off,none⟩/\b<w.heap.size/\w.cell? ⟨b,off+j,none⟩=some xs[j]:=by
 obtain⟨b,off,e,hb,hc⟩:=h.at_ (by omega);exact⟨b,off,e,hb,hc j _ (List.getElem?_eq_getElem hj)⟩
end
theorem RB.of_rv{w:World}{A:Option Addr}{l:List UInt8}(h:RV w A (bcells l)):RB w A l:=by
 refine⟨fun hn=>?_⟩;obtain⟨b,off,e,hb,hc⟩:=h.at_ (by rw[zx];exact hn);exact⟨b,off,e,hb,fun j x hx=>hc j _ (by rw[zX,hx];rfl)⟩
structure RBB(w:World)(X:Option Addr)(L:List (Option Addr × Nat × List UInt8)):Prop where
 reads:RV w X (L.map fun t=>.slice t.1 t.2.2.length t.2.1)
 each:∀t∈L,RB w t.1 t.2.2/\t.2.2.length<=140737488355328
theorem RBB.below{w w':World}{X:Option Addr}{L:List (Option Addr × Nat × List UInt8)}(h:RBB w X L)(hb:Below w.heap.size w w'):RBB w' X L :=
 ⟨h.reads.below hb,fun t ht=>⟨(h.each t ht).1.below hb,(h.each t ht).2⟩⟩
theorem RBB.cell{w:World}{X:Option Addr}{L:List (Option Addr × Nat × List UInt8)}(h:RBB w X L){k:Nat}(hk:k<L.length) :
  ∃b off,X=some ⟨b,off,none⟩/\b<w.heap.size/\w.cell? ⟨b,off+k,none⟩=some (.slice L[k].1 L[k].2.2.length L[k].2.1):=by
 obtain⟨b,off,e,hb,hc⟩:=h.reads.cell (j:=k) (by simpa using hk);exact⟨b,off,e,hb,by simpa using hc⟩
theorem RV.one(w:World)(v:Value)(T:TypeId):RV (w.alloc (.cells #[v] T)) (some ⟨w.heap.size,0,none⟩) [v]:=by
 refine⟨fun _=>⟨_,_,rfl,by simp,fun j y hy=>?_⟩⟩;have hj:j=0:=by
  rcases Nat.eq_zero_or_pos j with h0 | h0
  ·exact h0
  ·obtain⟨k,rfl⟩:∃k,j=k+1:=⟨j - 1,by omega⟩;simp at hy
 subst hj;simp only[List.getElem?_cons_zero,Option.some.injEq] at hy;subst hy;exact cell_of_row _ _ 0 _ _ _ (heap_alloc_new w _)
theorem RBB.one{w:World}{A:Option Addr}{l:List UInt8}(c:Nat)(h:RB w A l)(hl:l.length<=140737488355328) :
  RBB (w.alloc (.cells #[.slice A l.length c] 34)) (some ⟨w.heap.size,0,none⟩) [(A,c,l)] :=
 ⟨by simpa using RV.one w _ _,fun t ht=>by
  rw[List.mem_singleton] at ht;subst ht;exact⟨h.alloc _,hl⟩⟩
theorem RBB.two_at{w:World}{A B:Option Addr}{l m:List UInt8}(g c d:Nat)(hg:g=w.heap.size)(h:RB w A l)(k:RB w B m)(hl:l.length<=140737488355328)(hm:m.length<=140737488355328) :
  RBB (w.alloc (.cells #[.slice A l.length c,.slice B m.length d] 34)) (some ⟨g,0,none⟩) [(A,c,l),(B,d,m)]:=by
 subst hg;refine⟨⟨fun _=>⟨_,_,rfl,by simp,fun j y hy=>?_⟩⟩,fun t ht=>?_⟩
 ·rw[cell_of_row _ _ _ _ _ _ (heap_alloc_new w _)];simpa using hy
 ·rcases List.mem_cons.1 ht with rfl | ht
  ·exact⟨h.alloc _,hl⟩
  ·rw[List.mem_singleton] at ht;subst ht;exact⟨k.alloc _,hm⟩
theorem RV.lit(w:World)(xs:List Value)(T:TypeId)(fr:Nat × Nat):RV (w.alloc (.cells xs.toArray T fr)) (some ⟨w.heap.size,0,none⟩) xs:=by
 refine⟨fun _=>⟨_,_,rfl,by simp,fun j y hy=>?_⟩⟩;rw[cell_of_row _ _ _ _ _ _ (heap_alloc_new w _)];simpa using hy
theorem zbi:(Tryz.prog.info? 5).map (fun i=>(i.zero,i.size,i.bytes))=some (some (.int .u8 0),1,1):=by kernel_rfl
theorem zO(w:World){ops:Array Oper}{rest:List Oper}{o:Oper}{a:Act}{Q:Exit->Act->World->Prop}(hgd:o.guard=none)(s x:Operand)
  (ho:o.op=.call { callee:=.builtin .append,args:=#[s,x],argTypes:=#[34,34] })
  (base:Nat) (A X:Option Addr) (c d:Nat) (l m:List UInt8) (hs:a.eval s=.slice A l.length c) (hx:a.eval x=.slice X m.length d)
  (hown:OB w base A c l) (hm:RB w X m) (hlen:l.length+m.length<=220000000000000) (hbase:base<=w.heap.size)
  (h:∀(k:List UInt8) (A':Option Addr) (c':Nat) (w':World),Hid (k=l++m)->k.length<=l.length+m.length->l.length+m.length<=k.length->OB w' base A' c' k->w.grownBy w' (Value.slice A l.length c).ownBlock ->
   wpList Tryz.prog ops Q rest (a.put o.dst (.slice A' k.length c')) w'):wpList Tryz.prog ops Q (o::rest) a w:=by
 obtain⟨i0,hi0,hz0,hz1,hz2⟩:=info_parts zbi
 rcases Nat.eq_zero_or_pos m.length with h0 | h0
 ·have hm0:m=[]:=List.eq_nil_of_length_eq_zero h0;subst hm0;refine wpList_plain hgd fun K hK=>?_
  have hrun:(Builtin.append_ #[34,34] o.type #[.slice A l.length c,.slice X 0 d]).run Tryz.prog w=.ok (.slice A l.length c) w:=by
   rcases hown.form with⟨rfl,rfl,rfl⟩ | ⟨g,rfl,_,_,hc,_⟩
   ·rcases X with _ | X
    ·simp[Builtin.append_,run_underlying Tryz.underlying34,sizeOf,typeInfo,hi0,Builtin.lenOf,Builtin.firstCells]
    ·have hf:=run_firstCells_some (P:=Tryz.prog) w i0.size 0 X 0 d [] (by simp) (by simp);simp[Builtin.append_,run_underlying Tryz.underlying34,sizeOf,typeInfo,hi0,Builtin.lenOf,hf]
   ·rcases X with _ | X
    ·simp[Builtin.append_,run_underlying Tryz.underlying34,sizeOf,typeInfo,hi0,Builtin.lenOf,Builtin.firstCells,hc,storeCells]
    ·have hf:=run_firstCells_some (P:=Tryz.prog) w i0.size 0 X 0 d [] (by simp) (by simp);simp[Builtin.append_,run_underlying Tryz.underlying34,sizeOf,typeInfo,hi0,Builtin.lenOf,hf,hc,storeCells]
  unfold Oper.wp;simp only[List.length_nil] at hx;simp only[execOp,ho,resolve,invoke,builtin,Sem.run_bind,Sem.run_pure,Result.andThen_ok,List.map_toArray,List.map_cons,List.map_nil,hs,hx,hrun];exact hK _ _ (h l A c w (qh (by simp)) (by simp) (by simp) hown (World.grownBy.refl w _))
 ·obtain⟨b,off,rfl,hb,hc⟩:=hm.at_ h0;have hadd:∀j,(⟨b,off,none⟩:Addr).add j=⟨b,off+j,none⟩:=by intro j;unfold Addr.add;split<;>simp_all
  refine wpList_append_own_wide w hgd s x 34 ho base 5 i0 _ 1 1 Tryz.underlying34 hi0 hz0 hz1 hz2 rfl (by decide) _ l.length (bcells l) hs hown ⟨b,off,none⟩ m.length d (bcells m) hx (by simp[bcells]) ?_ (jC m) (by unfold maxLen;omega) (by omega) hbase ?_
  ·intro j u hu;rw[zX] at hu;obtain⟨y,hy,rfl⟩:=Option.map_eq_some_iff.1 hu;rw[hadd];exact hc j y hy
  ·intro v' w' hown' hg _;rw[<-ye] at hown';obtain⟨A',c',hv,hob⟩:=OB.of_own hown';subst hv;exact h _ _ _ _ (qh rfl) (by simp) (by simp) hob hg
theorem ob_grown(w:World){base cap:Nat}(l:List UInt8)(hb:base<=w.heap.size)(hc:l.length<=cap)(hm:cap<=maxLen) :
  OB (w.drew.alloc (.cells ((bcells l).toArray++Builtin.zeroCells (Value.int .u8 0).cells (cap - l.length)) 5)) base (some ⟨w.heap.size,0,none⟩) cap l:=by
 refine⟨by simp[bcells],.inr ⟨w.heap.size,cap,_,rfl,hb,heap_alloc_new w.drew _,hc,hm,?_,?_⟩⟩
 ·simp[bcells,size_zeroCells,Value.cells];omega
 ·simp[bcells]
theorem zeg(w:World){ops:Array Oper}{rest:List Oper}{o:Oper}{a:Act}{Q:Exit->Act->World->Prop}(hgd:o.guard=none)(s x:Operand)
  (ho:o.op=.call { callee:=.builtin .append,args:=#[s,x],argTypes:=#[34,34] })
  (base:Nat) (A X:Option Addr) (c d:Nat) (l m:List UInt8) (hs:a.eval s=.slice A l.length c) (hx:a.eval x=.slice X m.length d)
  (hA:A=none->c=0) (hl:RB w A l) (hm:RB w X m) (hm0:0<m.length) (hc:c<l.length+m.length) (hlen:l.length+m.length<=220000000000000) (hbase:base<=w.heap.size)
  (h:∀(k:List UInt8) (A':Option Addr) (c':Nat) (w':World),Hid (k=l++m)->k.length<=l.length+m.length->l.length+m.length<=k.length->OB w' base A' c' k->Below w.heap.size w w' ->
   wpList Tryz.prog ops Q rest (a.put o.dst (.slice A' k.length c')) w'):wpList Tryz.prog ops Q (o::rest) a w:=by
 obtain⟨i0,hi0,hz0,hz1,hz2⟩:=info_parts zbi;have addr:∀b off,(∀j x,m[j]?=some x->w.cell? ⟨b,off+j,none⟩=some (.int .u8 (x.toNat:Int)))->∀j u,(bcells m)[j]?=some u->w.cell? ((⟨b,off,none⟩:Addr).add j)=some u:=by
  intro b off hc j u hu;rw[zX] at hu;obtain⟨y,hy,rfl⟩:=Option.map_eq_some_iff.1 hu;have hadd:(⟨b,off,none⟩:Addr).add j=⟨b,off+j,none⟩:=by unfold Addr.add;split<;>simp_all
  rw[hadd];exact hc j y hy
 have fin:∀cap,l.length+m.length<=cap->cap<=maxLen->∃(w':World),w'=(w.drew.alloc (.cells ((bcells l).toArray++(bcells m).toArray++Builtin.zeroCells (Value.int .u8 0).cells (cap - (l.length+m.length))) 5)) /\
   OB w' base (some ⟨w.heap.size,0,none⟩) cap (l++m)/\Below w.heap.size w w':=by
  intro cap h1 h2;refine⟨_,rfl,?_,(Below.refl _ _).drew.alloc (Nat.le_refl _) _⟩;have:=ob_grown w (base:=base) (cap:=cap) (l++m) hbase (by simpa using h1) h2;rw[ye] at this;simpa using this
 obtain⟨cap,w',hrun,hob,hb⟩:∃cap w',(Builtin.append_ #[34,34] o.type #[.slice A l.length c,.slice X m.length d]).run Tryz.prog w=.ok (.slice (some ⟨w.heap.size,0,none⟩) (l++m).length cap) w' /\
   OB w' base (some ⟨w.heap.size,0,none⟩) cap (l++m)/\Below w.heap.size w w':=by
  rcases A with _ | ad
  ·have hc0:=hA rfl;subst hc0;have hl0:l=[]:=by
    rcases Nat.eq_zero_or_pos l.length with h0 | h0
    ·exact List.eq_nil_of_length_eq_zero h0
    ·obtain⟨b,off,e,_⟩:=hl.at_ h0;cases e
   subst hl0;obtain⟨b,off,rfl,_,hcm⟩:=hm.at_ hm0;have hr:=run_append_nil (P:=Tryz.prog) w 34 o.type 5 i0 _ Tryz.underlying34 hi0 hz0 ⟨b,off,none⟩ m.length d (bcells m) (by simp[bcells,hz1]) (addr b off hcm) hm0 (by simp at hlen;omega) (by rw[hz2];simp at hlen;omega);obtain⟨w',e,ho1,hb1⟩:=fin (grownCap w m.length 0 5) (by simpa using grownCap_ge w _ _ _) (grownCap_le_maxLen w _ _ _ (by simp at hlen;unfold maxLen;omega));refine⟨_,w',?_,ho1,hb1⟩;rw[e];simpa [bcells] using hr
  ·have holds:∀j u,(bcells l)[j]?=some u->w.cell? (ad.add j)=some u:=by
    rcases Nat.eq_zero_or_pos l.length with h0 | h0
    ·have hl0:l=[]:=List.eq_nil_of_length_eq_zero h0;subst hl0;simp[bcells]
    ·obtain⟨b,off,e,_,hcl⟩:=hl.at_ h0;injection e with e
     subst e;intro j u hu;rw[zX] at hu;obtain⟨y,hy,rfl⟩:=Option.map_eq_some_iff.1 hu;have hadd:(⟨b,off,none⟩:Addr).add j=⟨b,off+j,none⟩:=(by unfold Addr.add;split<;>simp_all);rw[hadd];exact hcl j y hy
   obtain⟨b,off,rfl,_,hcm⟩:=hm.at_ hm0;have hr:=run_append_grow (P:=Tryz.prog) w 34 o.type 5 i0 _ Tryz.underlying34 hi0 hz0 ad l.length c (bcells l) (by simp[bcells,hz1]) holds ⟨b,off,none⟩ m.length d (bcells m) (by simp[bcells,hz1]) (addr b off hcm) hc (by omega)
    (growslice_fits_wide hc (by rw[hz2];omega))
   obtain⟨w',e,ho1,hb1⟩:=fin (grownCap w (l.length+m.length) c 5) (grownCap_ge w _ _ _) (grownCap_le_maxLen w _ _ _ (by unfold maxLen;omega));refine⟨_,w',?_,ho1,hb1⟩;rw[e,hr];simp
 refine wpList_plain hgd fun K hK=>?_
 unfold Oper.wp execOp;simp only[ho,resolve,invoke,builtin,Sem.run_bind,Sem.run_pure,Result.andThen_ok,List.map_toArray,List.map_cons,List.map_nil,hs,hx,hrun];exact hK _ _ (h _ _ _ w' (qh rfl) (by simp) (by simp) hob hb)
def OV(w:World)(base:Nat)(e:TypeId)(A:Option Addr)(c:Nat)(xs:List Value):Prop:=w.ownsRow base e 1 (.slice A xs.length c) xs.length xs
section
variable {w w':World} {A:Option Addr} {xs:List Value} {base c:Nat} {e:TypeId}
theorem OV.nil(w:World)(base:Nat)(e:TypeId):OV w base e none 0 []:=World.ownsRow_nil _ _ _ _
theorem OV.form(h:OV w base e A c xs):(A=none/\c=0/\xs=[])\/∃g,A=some ⟨g,0,none⟩/\base<=g/\g<w.heap.size/\xs.length<=c/\c<=maxLen:=by
 rcases h.2 with⟨hv,hn⟩ | ⟨g,cap,cur,hv,hb,hg,hc,hm,_⟩
 ·injection hv with h1 h2 h3
  exact .inl ⟨h1,h3,List.eq_nil_of_length_eq_zero hn⟩
 ·injection hv with h1 h2 h3
  subst h3;exact .inr ⟨g,h1,hb,(Array.getElem?_eq_some_iff.1 hg).1,hc,hm⟩
theorem OV.cap(h:OV w base e A c xs):xs.length<=c/\c<=9223372036854775807:=by
 rcases h.form with⟨_,rfl,rfl⟩ | ⟨g,_,_,_,h1,h2⟩
 ·simp
 ·unfold maxLen at h2;omega
theorem OV.of_own{v:Value}{n:Nat}(h:w.ownsRow base e 1 v n xs):∃A c,v=.slice A xs.length c/\OV w base e A c xs:=by
 have hl:n=xs.length:=by have:=h.1;omega
 subst hl
 rcases h.2 with⟨rfl,hn⟩ | ⟨g,cap,cur,rfl,rest⟩
 ·refine⟨none,0,by rw[hn],?_⟩;unfold OV;rw[hn];exact⟨by simp[hn],.inl ⟨rfl,rfl⟩⟩
 ·exact⟨_,_,rfl,h⟩
theorem OV.rv(h:OV w base e A c xs):RV w A xs:=by
 refine⟨fun hn=>?_⟩
 rcases h.form with⟨_,_,rfl⟩ | ⟨g,rfl,_,hg,_⟩
 ·simp at hn
 ·refine⟨g,0,rfl,hg,fun j x hx=>?_⟩;have hj:j<xs.length:=(List.getElem?_eq_some_iff.1 hx).1;have:=World.ownsRow.cellAt h j (by omega);rw[Nat.zero_add,this,hx]
theorem OV.below(h:OV w base e A c xs)(hb:Below w.heap.size w w'):OV w' base e A c xs :=
 World.ownsRow.kept h (row:=none) ⟨hb.os,hb.tape,hb.output,hb.size,fun k hk _=>hb.block k hk⟩ (by cases (Value.slice A xs.length c).ownBlock<;>simp)
theorem OV.base_le{base':Nat}(h:OV w base e A c xs)(hb:base'<=base):OV w base' e A c xs:=by
 refine⟨h.1,?_⟩
 rcases h.2 with h1 | ⟨g,cap,cur,hv,hbg,rest⟩
 ·exact .inl h1
 ·exact .inr ⟨g,cap,cur,hv,by omega,rest⟩
theorem OV.alloc(h:OV w base e A c xs)(o:Obj):OV (w.alloc o) base e A c xs:=h.below ((Below.refl _ _).alloc (Nat.le_refl _) o)
theorem OV.own_lt(h:OV w base e A c xs):∀k,(Value.slice A xs.length c).ownBlock=some k->base<=k/\k<w.heap.size:=World.ownsRow.lt h
end
end Go.Proofs.YtobdmlejabjmiaaGreatDoor
