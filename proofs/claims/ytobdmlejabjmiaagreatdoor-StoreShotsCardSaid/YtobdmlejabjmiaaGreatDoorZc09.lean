/- Made small by a program. -/
import Derived.Test.YtobdmlejabjmiaaGreatDoorZc08
import Derived.Laws.OwnMore
import Derived.MapKept
import Derived.Maps.RangeWalk
set_option maxRecDepth 20000
set_option maxHeartbeats 8000000
namespace Go.Proofs.YtobdmlejabjmiaaGreatDoor
open Go.RowKit
def OR(w:World)(base:Nat)(e:TypeId)(k:Nat)(A:Option Addr)(c:Nat)(rows:List (List Value)):Prop :=
 w.ownsRow base e k (.slice A rows.length c) rows.length rows.flatten/\∀r∈rows,r.length=k
theorem xZ{α:Type}{k:Nat}:∀{rows:List (List α)},(∀r∈rows,r.length=k)->∀{i:Nat} {r:List α},rows[i]?=some r->∀{j:Nat} {v:α},r[j]?=some v->rows.flatten[i*k+j]?=some v
 | [],_,i,r,hi,_,_,_=>by simp at hi
 | r0::rows,h,0,r,hi,j,v,hj=>by
  simp at hi;subst hi;rw[List.flatten_cons,Nat.zero_mul,Nat.zero_add,List.getElem?_append_left (List.getElem?_eq_some_iff.1 hj).1];exact hj
 | r0::rows,h,i+1,r,hi,j,v,hj=>by
  simp at hi;have h0:=h r0 List.mem_cons_self;rw[List.flatten_cons,List.getElem?_append_right (by rw[h0,Nat.succ_mul];omega),h0,show(i+1)*k+j - k=i*k+j by rw[Nat.succ_mul];omega];exact xZ (fun r hr=>h r (List.mem_cons_of_mem _ hr)) hi hj
theorem yR{α:Type}{k:Nat}:∀{rows:List (List α)},(∀r∈rows,r.length=k)->rows.flatten.length=rows.length*k
 | [],_=>by simp
 | r0::rows,h=>by
  rw[List.flatten_cons,List.length_append,h r0 List.mem_cons_self,yR (fun r hr=>h r (List.mem_cons_of_mem _ hr)),List.length_cons,Nat.succ_mul];omega
section
variable {w w':World} {base c k:Nat} {e:TypeId} {A:Option Addr} {rows:List (List Value)}
theorem OR.nil(w:World)(base:Nat)(e:TypeId)(k:Nat):OR w base e k none 0 []:=⟨by simpa using World.ownsRow_nil w base e k,by simp⟩
theorem OR.form(h:OR w base e k A c rows):(A=none/\c=0/\rows=[])\/∃g,A=some ⟨g,0,none⟩/\base<=g/\g<w.heap.size/\rows.length<=c/\c<=maxLen:=by
 rcases h.1.2 with⟨hv,hn⟩ | ⟨g,cap,cur,hv,hb,hg,hc,hm,_⟩
 ·injection hv with h1 h2 h3
  exact .inl ⟨h1,h3,List.eq_nil_of_length_eq_zero hn⟩
 ·injection hv with h1 h2 h3
  subst h3;exact .inr ⟨g,h1,hb,(Array.getElem?_eq_some_iff.1 hg).1,hc,hm⟩
theorem OR.cap(h:OR w base e k A c rows):rows.length<=c/\c<=9223372036854775807:=by
 rcases h.form with⟨_,rfl,rfl⟩ | ⟨g,_,_,_,h1,h2⟩
 ·simp
 ·unfold maxLen at h2;omega
theorem OR.blk_lt(h:OR w base e k A c rows):∀b,A.map (·.block)=some b->base<=b/\b<w.heap.size:=by
 intro b hb
 rcases h.form with⟨rfl,_⟩ | ⟨g,rfl,h1,h2,_⟩
 ·simp at hb
 ·have:g=b:=by simpa using hb
  subst this;exact⟨h1,h2⟩
theorem OR.blk(h:OR w base e k A c rows):∀b,A.map (·.block)=some b->∃cs,w.heap[b]?=some (.cells cs e (0,0)):=by
 intro b hb
 rcases h.1.2 with⟨hv,_⟩ | ⟨g,cap,cur,hv,_,hg,_⟩
 ·injection hv with h1 h2 h3
  rw[h1] at hb;simp at hb
 ·injection hv with h1 h2 h3
  rw[h1] at hb;have:g=b:=by simpa using hb
  subst this;exact⟨_,hg⟩
theorem OR.of_own{v:Value}{n:Nat}(h:w.ownsRow base e k v n rows.flatten)(hk:∀r∈rows,r.length=k)(k0:0<k):∃A c,v=.slice A rows.length c/\OR w base e k A c rows:=by
 have hl:n=rows.length:=by
  have:=h.1;rw[yR hk] at this;exact(Nat.eq_of_mul_eq_mul_right k0 this).symm
 subst hl
 rcases h.2 with⟨rfl,hn⟩ | ⟨g,cap,cur,rfl,rest⟩
 ·have:rows=[]:=List.eq_nil_of_length_eq_zero hn;subst this;exact⟨none,0,rfl,OR.nil _ _ _ _⟩
 ·exact⟨_,_,rfl,h,hk⟩
theorem OR.rs(h:OR w base e k A c rows):RS w A k rows:=by
 refine⟨fun hn=>?_⟩
 rcases h.form with⟨_,_,rfl⟩ | ⟨g,rfl,_,hg,_⟩
 ·simp at hn
 ·refine⟨g,0,rfl,hg,fun i cs hi j v hj=>?_⟩;have hf:=xZ h.2 hi hj;have hl:=(List.getElem?_eq_some_iff.1 hf).1;rw[yR h.2] at hl;rw[Nat.zero_add,World.ownsRow.cellAt h.1 _ hl];exact hf
theorem OR.of_block(h:OR w base e k A c rows)(hb:∀b,A.map (·.block)=some b->w'.heap[b]?=w.heap[b]?):OR w' base e k A c rows:=by
 refine⟨⟨h.1.1,?_⟩,h.2⟩
 rcases h.1.2 with h2 | ⟨g,cap,cur,hv,hg,hh,r⟩
 ·exact .inl h2
 ·injection hv with hv1 hv2 hv3
  subst hv1 hv3;exact .inr ⟨g,_,cur,rfl,hg,by rw[hb g rfl];exact hh,r⟩
theorem OR.mods{S:Nat->Prop}(h:OR w base e k A c rows)(m:Mods S w w')(hn:∀b,A.map (·.block)=some b->¬S b):OR w' base e k A c rows :=
 h.of_block fun b hb=>m.block b (h.blk_lt b hb).2 (hn b hb)
theorem OR.below(h:OR w base e k A c rows)(hb:Below w.heap.size w w'):OR w' base e k A c rows:=h.of_block fun b hb'=>hb.block b (h.blk_lt b hb').2
theorem OR.mono{base':Nat}(h:OR w base e k A c rows)(hb:base'<=base):OR w base' e k A c rows:=by
 refine⟨⟨h.1.1,?_⟩,h.2⟩
 rcases h.1.2 with h1 | ⟨g,cap,cur,hv,hbg,rest⟩
 ·exact .inl h1
 ·exact .inr ⟨g,cap,cur,hv,by omega,rest⟩
theorem OR.made0(w:World){base:Nat}(e:TypeId)(k:Nat)(hb:base<=w.heap.size):OR (w.alloc (.cells #[] e)) base e k (some ⟨w.heap.size,0,none⟩) 0 [] :=
 ⟨by simpa using World.ownsRow_made (e:=e) (size:=k) w #[] 0 hb (Nat.zero_le _) (by simp),by simp⟩
end
theorem zN{P:Program}(w:World){o:Oper}{a:Act}{K:Act->World->Prop}{Q:Exit->Act->World->Prop}(s x:Operand)(t e:TypeId){i:TypeInfo}{z:Value}{k bytes:Nat}
  (ho:o.op=.call { callee:=.builtin .append,args:=#[s,x],argTypes:=#[t,t] })
  (ht:P.underlying t=some (.slice e)) (hi:P.info? e=some i) (hz0:i.zero=some z) (hz1:i.size=k) (hz2:i.bytes=bytes) (hzs:z.cells.size=k) (k0:0<k)
  (base:Nat) (A X:Option Addr) (c d:Nat) (rows news:List (List Value)) (hs:a.eval s=.slice A rows.length c) (hx:a.eval x=.slice X news.length d)
  (hown:OR w base e k A c rows) (hv:RS w X k news) (hk:∀r∈news,r.length=k) (h1:∀r∈news,∀v∈r,v.oneCell'=true) (hlen:(rows.length+news.length)*bytes<=140737488355328) (hl2:rows.length+news.length<=140737488355328) (hbase:base<=w.heap.size)
  (h:∀(ys:List (List Value)) (A':Option Addr) (c':Nat) (w':World),Hid (ys=rows++news)->ys.length<=rows.length+news.length->rows.length+news.length<=ys.length->OR w' base e k A' c' ys->w.grownBy w' (A.map (·.block))->(A'.map (·.block)=A.map (·.block)\/A'.map (·.block)=some w.heap.size) ->
   K (a.put o.dst (.slice A' ys.length c')) w'):o.wp P a w K Q:=by
 rcases Nat.eq_zero_or_pos news.length with h0 | h0
 ·have hm0:news=[]:=List.eq_nil_of_length_eq_zero h0;subst hm0;have hrun:(Builtin.append_ #[t,t] o.type #[.slice A rows.length c,.slice X 0 d]).run P w=.ok (.slice A rows.length c) w:=by
   rcases hown.form with⟨rfl,rfl,rfl⟩ | ⟨g,rfl,_,_,hc,_⟩
   ·rcases X with _ | X
    ·simp[Builtin.append_,run_underlying ht,sizeOf,typeInfo,hi,Builtin.lenOf,Builtin.firstCells]
    ·have hf:=run_firstCells_some (P:=P) w i.size 0 X 0 d [] (by simp) (by simp);simp[Builtin.append_,run_underlying ht,sizeOf,typeInfo,hi,Builtin.lenOf,hf]
   ·rcases X with _ | X
    ·simp[Builtin.append_,run_underlying ht,sizeOf,typeInfo,hi,Builtin.lenOf,Builtin.firstCells,hc,storeCells]
    ·have hf:=run_firstCells_some (P:=P) w i.size 0 X 0 d [] (by simp) (by simp);simp[Builtin.append_,run_underlying ht,sizeOf,typeInfo,hi,Builtin.lenOf,hf,hc,storeCells]
  unfold Oper.wp execOp;simp only[List.length_nil] at hx;simp only[ho,resolve,invoke,builtin,Sem.run_bind,Sem.run_pure,Result.andThen_ok,List.map_toArray,List.map_cons,List.map_nil,hs,hx,hrun];exact h rows A c w (qh (by simp)) (by simp) (by simp) hown (World.grownBy.refl w _) (.inl rfl)
 ·obtain⟨b,off,rfl,hb,hc⟩:=hv.at_ h0;have hadd:∀j,(⟨b,off,none⟩:Addr).add j=⟨b,off+j,none⟩:=by intro j;unfold Addr.add;split<;>simp_all
  have hget:∀j u,news.flatten[j]?=some u->w.cell? ((⟨b,off,none⟩:Addr).add j)=some u:=by
   intro j u hu;have hjl:=(List.getElem?_eq_some_iff.1 hu).1;rw[yR hk] at hjl;have hq:j / k<news.length:=(Nat.div_lt_iff_lt_mul k0).2 hjl;have hr:j % k<news[j / k].length:=(by rw[hk _ (List.getElem_mem hq)];exact Nat.mod_lt _ k0);have h2:=xZ hk (List.getElem?_eq_getElem hq) (List.getElem?_eq_getElem hr);have hj:j / k*k+j % k=j:=(by rw[Nat.mul_comm];exact Nat.div_add_mod j k);rw[hj,hu] at h2;injection h2 with h2
   have h3:=hc _ _ (List.getElem?_eq_getElem hq) _ _ (List.getElem?_eq_getElem hr);rw[hadd,h2,<-h3];congr 2;omega
  refine zeV w s x t ho base e i z k bytes ht hi hz0 hz1 hz2 hzs k0 _ rows.length rows.flatten hs hown.1 ⟨b,off,none⟩ news.length d news.flatten hx (by rw[yR hk]) hget ?_ (by unfold maxLen;omega) hlen hbase ?_
  ·intro u hu;obtain⟨r,hr,hur⟩:=List.mem_flatten.1 hu;exact h1 r hr u hur
  ·intro v' w' hown' hg hat;rw[<-List.flatten_append] at hown';obtain⟨A',c',hv',hob⟩:=OR.of_own hown' (fun r hr=>by
    rcases List.mem_append.1 hr with hr | hr
    ·exact hown.2 r hr
    ·exact hk r hr) k0
   subst hv';rw[yh] at hg;rw[yh,yh] at hat;exact h _ _ _ _ (qh rfl) (by simp) (by simp) hob hg hat
theorem RS.drop{w:World}{b off k:Nat}{L:List (List Value)}(h:RS w (some ⟨b,off,none⟩) k L)(j:Nat):RS w (some ⟨b,off+j*k,none⟩) k (L.drop j):=by
 refine⟨fun hn=>?_⟩;obtain⟨b',off',e,hb,hc⟩:=h.at_ (by simp at hn;omega);injection e with e
 injection e with e1 e2
 subst e1 e2;refine⟨_,_,rfl,hb,fun i cs hi q v hq=>?_⟩;rw[List.getElem?_drop] at hi;have:=hc _ cs hi q v hq;rw[Nat.add_mul] at this;rw[show off+j*k+i*k+q=off+(j*k+i*k)+q by omega];exact this
theorem RS.nil{w:World}{A:Option Addr}{k:Nat}:RS w A k []:=⟨by simp⟩
theorem ya{P:Program}(w:World){ops:Array Oper}{rest:List Oper}{o:Oper}{a:Act}{Q:Exit->Act->World->Prop}(hgd:o.guard=none)(s x:Operand)(t e:TypeId){i:TypeInfo}{z:Value}{k bytes:Nat}
  (ho:o.op=.call { callee:=.builtin .append,args:=#[s,x],argTypes:=#[t,t] })
  (ht:P.underlying t=some (.slice e)) (hi:P.info? e=some i) (hz0:i.zero=some z) (hz1:i.size=k) (hz2:i.bytes=bytes) (hzs:z.cells.size=k) (k0:0<k)
  (base:Nat) (A X:Option Addr) (c d:Nat) (rows news:List (List Value)) (hs:a.eval s=.slice A rows.length c) (hx:a.eval x=.slice X news.length d)
  (hown:OR w base e k A c rows) (hv:RS w X k news) (hk:∀r∈news,r.length=k) (h1:∀r∈news,∀v∈r,v.oneCell'=true) (hlen:(rows.length+news.length)*bytes<=140737488355328) (hl2:rows.length+news.length<=140737488355328) (hbase:base<=w.heap.size)
  (h:∀(ys:List (List Value)) (A':Option Addr) (c':Nat) (w':World),Hid (ys=rows++news)->ys.length<=rows.length+news.length->rows.length+news.length<=ys.length->OR w' base e k A' c' ys->w.grownBy w' (A.map (·.block))->(A'.map (·.block)=A.map (·.block)\/A'.map (·.block)=some w.heap.size) ->
   wpList P ops Q rest (a.put o.dst (.slice A' ys.length c')) w'):wpList P ops Q (o::rest) a w :=
 wpList_plain hgd fun _K hK=>zN w s x t e ho ht hi hz0 hz1 hz2 hzs k0 base A X c d rows news hs hx hown hv hk h1 hlen hl2 hbase fun ys A' c' w' h1 h2 h3 h4 h5 h6=>hK _ _ (h ys A' c' w' h1 h2 h3 h4 h5 h6)
theorem RS.lit{w:World}{g k:Nat}{T:TypeId}{r:List Value}(h:Blk w g T r.toArray):RS w (some ⟨g,0,none⟩) k [r]:=by
 refine⟨fun _=>⟨g,0,rfl,h.lt,fun i cs hi j v hj=>?_⟩⟩;cases i with
 | succ i=>simp at hi
 | zero =>
  simp at hi;subst hi;have:=h.cell j (v:=v) (by simpa using hj);simpa using this
/-! Blocks of unlike kinds are unlike blocks. -/
theorem OB.blk{w:World}{base c:Nat}{A:Option Addr}{l:List UInt8}(h:OB w base A c l):∀b,A.map (·.block)=some b->∃cs,w.heap[b]?=some (.cells cs 5 (0,0)):=by
 intro b hb
 rcases h.2 with⟨hv,_⟩ | ⟨g,cap,cur,hv,_,hg,_⟩
 ·injection hv with h1 h2 h3
  rw[h1] at hb;simp at hb
 ·injection hv with h1 h2 h3
  rw[h1] at hb;have:g=b:=by simpa using hb
  subst this;exact⟨_,hg⟩
theorem yK{w:World}{b g:Nat}{cs ds:Array Value}{T U:TypeId}{f f':Nat × Nat}(h:w.heap[b]?=some (.cells cs T f))(k:w.heap[g]?=some (.cells ds U f'))(hne:T≠U):b≠g:=by
 rintro rfl;rw[h] at k;injection k with k
 injection k with _ k
 exact hne k
theorem OB.ne_row{w:World}{base c base' c' k:Nat}{A B:Option Addr}{l:List UInt8}{e:TypeId}{rows:List (List Value)}(h:OB w base A c l)(r:OR w base' e k B c' rows)(hne:5≠e):∀b,B.map (·.block)=some b->A.map (·.block)≠some b:=by
 intro b hb ha;obtain⟨cs,h1⟩:=h.blk b ha;obtain⟨ds,h2⟩:=r.blk b hb;exact yK h1 h2 hne rfl
theorem OB.ne_var{w:World}{base c g:Nat}{A:Option Addr}{l:List UInt8}{T:TypeId}{cs:Array Value}(h:OB w base A c l)(k:Blk w g T cs)(hne:5≠T):A.map (·.block)≠some g:=by
 intro ha;obtain⟨ds,h1⟩:=h.blk g ha;exact yK h1 k hne rfl
theorem OR.ne_var{w:World}{base c k g:Nat}{A:Option Addr}{e T:TypeId}{rows:List (List Value)}{cs:Array Value}(h:OR w base e k A c rows)(b:Blk w g T cs)(hne:e≠T):A.map (·.block)≠some g:=by
 intro ha;obtain⟨ds,h1⟩:=h.blk g ha;exact yK h1 b hne rfl
theorem OB.of_block{w w':World}{base c:Nat}{A:Option Addr}{l:List UInt8}(h:OB w base A c l)(hb:∀b,A.map (·.block)=some b->w'.heap[b]?=w.heap[b]?):OB w' base A c l:=by
 refine⟨h.1,?_⟩
 rcases h.2 with h2 | ⟨g,cap,cur,hv,hg,hh,r⟩
 ·exact .inl h2
 ·injection hv with hv1 hv2 hv3
  subst hv1 hv3;exact .inr ⟨g,_,cur,rfl,hg,by rw[hb g rfl];exact hh,r⟩
theorem OB.grown_row{w w':World}{base c:Nat}{A:Option Addr}{l:List UInt8}{row:Option Nat}(h:OB w base A c l)(hg:w.grownBy w' row)(hk:∀k,row=some k->A.map (·.block)≠some k):OB w' base A c l :=
 h.of_block fun b hb=>hg.block b (h.blk_lt b hb).2 fun e=>hk b e.symm hb
end Go.Proofs.YtobdmlejabjmiaaGreatDoor
namespace Go.Proofs.YtobdmlejabjmiaaGreatDoor
open Go.RowKit Go.MapKept
abbrev Ent(K:Type):=K × Value × Nat
def ent{K:Type}(kv:K->Value)(p:Ent K):MapEntry:={ key:=kv p.1,val:=p.2.1,born:=p.2.2 }
structure KeyLaw{K:Type}(P:Program)(T:TypeId)(kv:K->Value):Prop where
 check:∀b k w,(Instr.checkKey b 10000 T (kv k)).run P w=.ok () w
 find:∀(k:K) (L:List (Ent K)) (w:World),
  ((Instr.findKey T (kv k) (L.map (ent kv))).run P w=.ok none w/\k ∉ L.map (·.1))\/∃i p,(Instr.findKey T (kv k) (L.map (ent kv))).run P w=.ok (some (i,p.2.1)) w/\L[i]?=some p/\p.1=k
 stays:∀k w,(Instr.keyThatStays (kv k) (kv k)).run P w=.ok (kv k) w
def MapAt{K:Type}(kv:K->Value)(w:World)(m:Nat)(es:List (K × Value)):Prop :=
 ∃(L:List (Ent K)) (clock:Nat),es=L.map (fun p=>(p.1,p.2.1))/\w.heap[m]?=some (.map (L.map (ent kv)).toArray clock)/\(L.map (·.1)).Nodup/\(L.map (·.2.2)).Nodup/\∀p∈L,p.2.2<clock
def mput{K:Type}[DecidableEq K](es:List (K × Value))(k:K)(v:Value):List (K × Value) :=
 if k∈es.map Prod.fst then es.map (fun p=>if p.1=k then(k,v) else p) else es++[(k,v)]
def mdel{K:Type}[DecidableEq K](es:List (K × Value))(k:K):List (K × Value):=es.filter (fun p=>p.1≠k)
def mget{K:Type}[DecidableEq K](es:List (K × Value))(k:K):Option Value:=(es.find? (fun p=>p.1=k)).map Prod.snd
section
variable {K:Type} {kv:K->Value} {w w':World} {m:Nat} {es:List (K × Value)}
theorem MapAt.lt(h:MapAt kv w m es):m<w.heap.size:=by
 obtain⟨L,clock,_,hm,_⟩:=h;exact lt_of_block hm
theorem MapAt.of_block(h:MapAt kv w m es)(hb:w'.heap[m]?=w.heap[m]?):MapAt kv w' m es:=by
 obtain⟨L,clock,he,hm,r⟩:=h;exact⟨L,clock,he,by rw[hb];exact hm,r⟩
theorem MapAt.mods{S:Nat->Prop}(h:MapAt kv w m es)(k:Mods S w w')(hn:¬S m):MapAt kv w' m es:=h.of_block (k.block m h.lt hn)
theorem MapAt.below(h:MapAt kv w m es)(hb:Below w.heap.size w w'):MapAt kv w' m es:=h.of_block (hb.block m h.lt)
theorem MapAt.made(w:World):MapAt kv (w.alloc (.map #[] 0)) w.heap.size ([]:List (K × Value)):=⟨[],0,rfl,heap_alloc_new w _,by simp,by simp,by simp⟩
theorem MapAt.nodup(h:MapAt kv w m es):(es.map Prod.fst).Nodup:=by
 obtain⟨L,clock,rfl,_,hn,_⟩:=h;rw[List.map_map];exact hn
theorem MapAt.grown{row:Option Nat}(h:MapAt kv w m es)(hg:w.grownBy w' row)(hk:row≠some m):MapAt kv w' m es:=h.of_block (hg.block m h.lt fun e=>hk e.symm)
theorem MapAt.ne_cells(h:MapAt kv w m es){g:Nat}{cs:Array Value}{T:TypeId}{fr:Nat × Nat}(hg:w.heap[g]?=some (.cells cs T fr)):m≠g:=by
 rintro rfl;obtain⟨L,clock,_,hm,_⟩:=h;rw[hm] at hg;cases hg
end
section
variable {K:Type} {P:Program} {M T E:TypeId} {kv:K->Value} {w:World} {m:Nat} {es:List (K × Value)}
theorem zcD(h:MapAt kv w m es)(hM:P.underlying M=some (.map T E))(ty:TypeId):(Builtin.len_ #[M] ty #[.map (some m)]).run P w=.ok (.int .i64 (es.length:Int)) w:=by
 obtain⟨L,clock,rfl,hm,_⟩:=h;simp[Builtin.len_,run_underlying hM,MapKept.run_getObj_map hm,goInt]
end
theorem xu{α β:Type}(f:α->β):∀(L:List α) (i:Nat),(L.map f).eraseIdx i=(L.eraseIdx i).map f
 | [],_=>by simp
 | _::_,0=>rfl
 | a::L,i+1=>by simp[xu f L i]
theorem zbG{α:Type}{l:List α}(h:l.Nodup){i j:Nat}(hij:i≠j){a b:α}(hi:l[i]?=some a)(hj:l[j]?=some b):a≠b:=by
 obtain⟨hi1,hi2⟩:=List.getElem?_eq_some_iff.1 hi;obtain⟨hj1,hj2⟩:=List.getElem?_eq_some_iff.1 hj
 rcases Nat.lt_or_gt_of_ne hij with hl | hl
 ·have:=List.pairwise_iff_getElem.1 h i j hi1 hj1 hl;rw[hi2,hj2] at this;exact this
 ·have:=List.pairwise_iff_getElem.1 h j i hj1 hi1 hl;rw[hi2,hj2] at this;exact this.symm
section
variable {K:Type} [DecidableEq K] {P:Program} {T M E:TypeId} {kv:K->Value} {w:World} {m:Nat} {es:List (K × Value)}
theorem zbA{k:K}:mget es k=none ↔ k ∉ es.map Prod.fst:=by
 unfold mget;simp only[Option.map_eq_none_iff,List.find?_eq_none,decide_eq_true_eq,List.mem_map,not_exists,not_and]
theorem zK(hn:(es.map Prod.fst).Nodup){k:K}{v:Value}(h:(k,v)∈es):mget es k=some v:=by
 induction es with
 | nil=>cases h
 | cons p es ih =>
  rw[List.map_cons,List.nodup_cons] at hn;unfold mget;rw[List.find?_cons]
  rcases List.mem_cons.1 h with rfl | h
  ·simp
  ·have:p.1≠k:=fun e=>hn.1 (by rw[e];exact List.mem_map.2 ⟨_,h,rfl⟩)
   simp only[this,decide_false];exact ih hn.2 h
theorem zc4{k:K}{v:Value}(h:mget es k=some v):(k,v)∈es:=by
 unfold mget at h;obtain⟨p,hp,rfl⟩:=Option.map_eq_some_iff.1 h;have h1:=List.find?_some hp;have h2:=List.mem_of_find?_eq_some hp;simp only[decide_eq_true_eq] at h1;rw[<-h1];exact h2
theorem xW(law:KeyLaw P T kv)(h:MapAt kv w m es)(hM:P.underlying M=some (.map T E)){k:K}{v:Value}(hv:mget es k=some v)(ok:Bool) :
  (Instr.lookup M (.map (some m)) (kv k) ok).run P w=.ok (if ok then .tuple #[v,.bool true] else v) w:=by
 have hnd:=h.nodup;obtain⟨L,clock,rfl,hm,hn,hb,hc⟩:=h
 rcases law.find k L w with⟨_,hk⟩ | ⟨i,p,hr,hi,hp⟩
 ·exfalso;have:=zc4 hv;obtain⟨q,hq,he⟩:=List.mem_map.1 this;injection he with he1 he2
  exact hk (List.mem_map.2 ⟨q,hq,he1⟩)
 ·have hv':p.2.1=v:=by
   have h1:mget (L.map fun p=>(p.1,p.2.1)) k=some p.2.1:=zK hnd (List.mem_map.2 ⟨p,List.mem_of_getElem? hi,by rw[hp]⟩);rw[hv] at h1;injection h1 with h1
   exact h1.symm
  subst hv';have hr':Sem.run P (Instr.findKey T (kv k) (L.map (ent kv)).toArray.toList) w=.ok (some (i,p.2.1)) w:=by simpa using hr
  simp only[Instr.lookup,Sem.run_bind,run_underlying hM,MapKept.run_getObj_map hm,Result.andThen_ok,Sem.run_pure,law.check,hr']
theorem xI(law:KeyLaw P T kv)(h:MapAt kv w m es)(hM:P.underlying M=some (.map T E)){z:Value}(hz:(zeroValue E).run P w=.ok z w){k:K}(hv:mget es k=none)(ok:Bool) :
  (Instr.lookup M (.map (some m)) (kv k) ok).run P w=.ok (if ok then .tuple #[z,.bool false] else z) w:=by
 have hnd:=h.nodup;obtain⟨L,clock,rfl,hm,hn,hb,hc⟩:=h
 rcases law.find k L w with⟨hr,_⟩ | ⟨i,p,hr,hi,hp⟩
 ·have hr':Sem.run P (Instr.findKey T (kv k) (L.map (ent kv)).toArray.toList) w=.ok none w:=by simpa using hr
  simp only[Instr.lookup,Sem.run_bind,run_underlying hM,MapKept.run_getObj_map hm,Result.andThen_ok,Sem.run_pure,law.check,hr',hz]
 ·exfalso;have h1:mget (L.map fun p=>(p.1,p.2.1)) k=some p.2.1:=zK hnd (List.mem_map.2 ⟨p,List.mem_of_getElem? hi,by rw[hp]⟩);rw[hv] at h1;cases h1
theorem xv{w:World}{m:Nat}{o o':Obj}(h:w.heap[m]?=some o'):({ w with heap:=w.heap.setIfInBounds m o }:World).heap[m]?=some o:=(heap_set h).1
theorem za9(law:KeyLaw P T kv)(h:MapAt kv w m es)(hM:P.underlying M=some (.map T E))(k:K)(v:Value) :
  ∃o,(Instr.mapUpdate M (.map (some m)) (kv k) v).run P w=.ok () { w with heap:=w.heap.setIfInBounds m o }/\MapAt kv { w with heap:=w.heap.setIfInBounds m o } m (mput es k v):=by
 have hnd:=h.nodup;obtain⟨L,clock,rfl,hm,hn,hb,hc⟩:=h
 rcases law.find k L w with⟨hr,hk⟩ | ⟨i,p,hr,hi,hp⟩
 ·have hr':Sem.run P (Instr.findKey T (kv k) (L.map (ent kv)).toArray.toList) w=.ok none w:=by simpa using hr
  refine⟨.map ((L.map (ent kv)).toArray.push { key:=kv k,val:=v,born:=clock }) (clock+1),?_,L++[(k,v,clock)],clock+1,?_,?_,?_,?_,?_⟩
  ·simp only[Instr.mapUpdate,Sem.run_bind,run_underlying hM,MapKept.run_getObj_map hm,Result.andThen_ok,law.check,hr',MapKept.run_setObj_map _ hm]
  ·rw[mput,if_neg (by rw[List.map_map];exact hk)];simp
  ·rw[xv hm];simp[ent]
  ·rw[List.map_append];refine List.nodup_append.2 ⟨hn,by simp,?_⟩;intro a ha b hb';simp at hb';subst hb';rintro rfl;exact hk ha
  ·rw[List.map_append];refine List.nodup_append.2 ⟨hb,by simp,?_⟩;intro a ha b hb';simp at hb';subst hb';obtain⟨q,hq,rfl⟩:=List.mem_map.1 ha;exact Nat.ne_of_lt (hc q hq)
  ·intro q hq
   rcases List.mem_append.1 hq with hq | hq
   ·exact Nat.lt_succ_of_lt (hc q hq)
   ·simp at hq;subst hq;exact Nat.lt_succ_self _
 ·have hr':Sem.run P (Instr.findKey T (kv k) (L.map (ent kv)).toArray.toList) w=.ok (some (i,p.2.1)) w:=by simpa using hr
  have hlt:i<L.length:=(List.getElem?_eq_some_iff.1 hi).1;have hgi:L[i]=p:=by rw[List.getElem?_eq_getElem hlt] at hi;injection hi
  have hold:(((L.map (ent kv)).toArray[i]?).map (·.key)).getD (kv k)=kv k:=by simp[hi,ent,hp]
  refine⟨.map ((L.map (ent kv)).toArray.modify i fun e=>{ e with key:=kv k,val:=v }) clock,?_,L.map (fun q=>if q.1=k then(k,v,q.2.2) else q),clock,?_,?_,?_,?_,?_⟩
  ·simp only[Instr.mapUpdate,Sem.run_bind,run_underlying hM,MapKept.run_getObj_map hm,Result.andThen_ok,law.check,hr',hold,law.stays,MapKept.run_setObj_map _ hm]
  ·rw[mput,if_pos (by rw[List.map_map];exact List.mem_map.2 ⟨p,List.mem_of_getElem? hi,hp⟩)];simp only[List.map_map];refine List.map_congr_left fun q _=>?_
   simp only[Function.comp];split<;>rfl
  ·rw[xv hm];congr 2;apply Array.ext_getElem?;intro j;simp only[Array.getElem?_modify,List.getElem?_toArray,List.getElem?_map];by_cases hij:i=j
   ·subst hij;simp[hi,hp,ent]
   ·rw[if_neg hij];cases hj:L[j]? with
    | none=>simp
    | some q =>
     have hjl:j<L.length:=(List.getElem?_eq_some_iff.1 hj).1;have hgj:L[j]=q:=(by rw[List.getElem?_eq_getElem hjl] at hj;injection hj);have hne:q.1≠k:=by
      intro e;exact zbG hn hij (a:=k) (b:=k) (by simp[hi,hp]) (by simp[hj,e]) rfl
     simp[hne]
  ·have:(L.map (fun q=>if q.1=k then(k,v,q.2.2) else q)).map (·.1)=L.map (·.1):=by
    rw[List.map_map];refine List.map_congr_left fun q _=>?_
    simp only[Function.comp];split
    ·rename_i e;exact e.symm
    ·rfl
   rw[this];exact hn
  ·have:(L.map (fun q=>if q.1=k then(k,v,q.2.2) else q)).map (·.2.2)=L.map (·.2.2):=by
    rw[List.map_map];refine List.map_congr_left fun q _=>?_
    simp only[Function.comp];split<;>rfl
   rw[this];exact hb
  ·intro q hq;obtain⟨q',hq',rfl⟩:=List.mem_map.1 hq;split
   ·exact hc q' hq'
   ·exact hc q' hq'
theorem jU{α β:Type}[DecidableEq β](f:α->β)(L:List α)(hn:(L.map f).Nodup)(i:Nat)(p:α)(hi:L[i]?=some p):L.eraseIdx i=L.filter (fun q=>f q≠f p):=by
 induction L generalizing i with
 | nil=>simp at hi
 | cons a L ih =>
  rw[List.map_cons,List.nodup_cons] at hn;cases i with
  | zero =>
   simp at hi;subst hi;simp only[List.eraseIdx_cons_zero];rw[List.filter_cons_of_neg (by simp)];refine(List.filter_eq_self.2 fun q hq=>?_).symm;simp only[ne_eq,decide_not,Bool.not_eq_eq_eq_not,Bool.not_true,decide_eq_false_iff_not];intro e;exact hn.1 (by rw[<-e];exact List.mem_map.2 ⟨q,hq,rfl⟩)
  | succ i =>
   simp at hi;rw[List.eraseIdx_cons_succ,ih hn.2 i hi,List.filter_cons_of_pos];simp only[ne_eq,decide_not,Bool.not_eq_eq_eq_not,Bool.not_true,decide_eq_false_iff_not];intro e;exact hn.1 (by rw[e];exact List.mem_map.2 ⟨p,List.mem_of_getElem? hi,rfl⟩)
theorem za8(law:KeyLaw P T kv)(h:MapAt kv w m es)(hM:P.underlying M=some (.map T E))(k:K)(ty M2:TypeId) :
  ∃o,(Builtin.delete_ #[M,M2] ty #[.map (some m),kv k]).run P w=.ok (.tuple #[]) { w with heap:=w.heap.setIfInBounds m o }/\MapAt kv { w with heap:=w.heap.setIfInBounds m o } m (mdel es k):=by
 obtain⟨L,clock,rfl,hm,hn,hb,hc⟩:=h
 rcases law.find k L w with⟨hr,hk⟩ | ⟨i,p,hr,hi,hp⟩
 ·have hr':Sem.run P (Instr.findKey T (kv k) (L.map (ent kv)).toArray.toList) w=.ok none w:=by simpa using hr
  refine⟨.map (L.map (ent kv)).toArray clock,?_,L,clock,?_,xv hm,hn,hb,hc⟩
  ·simp[Builtin.delete_,run_underlying hM,MapKept.run_getObj_map hm,law.check,hr,MapKept.run_setObj_map _ hm]
  ·rw[mdel,List.filter_eq_self.2];intro q hq;obtain⟨q',hq',rfl⟩:=List.mem_map.1 hq;simp only[ne_eq,decide_not,Bool.not_eq_eq_eq_not,Bool.not_true,decide_eq_false_iff_not];intro e;exact hk (List.mem_map.2 ⟨q',hq',e⟩)
 ·have hlt:i<L.length:=(List.getElem?_eq_some_iff.1 hi).1;have hf:=jU (·.1) L hn i p hi;have hsub:(L.eraseIdx i).Sublist L:=List.eraseIdx_sublist _ _;refine⟨.map ((L.map (ent kv)).toArray.eraseIdxIfInBounds i) clock,?_,L.eraseIdx i,clock,?_,?_,(hsub.map _).nodup hn,(hsub.map _).nodup hb,fun q hq=>hc q (hsub.subset hq)⟩
  ·simp[Builtin.delete_,run_underlying hM,MapKept.run_getObj_map hm,law.check,hr,MapKept.run_setObj_map _ hm]
  ·rw[mdel,hf,List.filter_map];congr 1;refine List.filter_congr fun q _=>?_
   simp[hp]
  ·rw[xv hm];congr 2;simp[Array.eraseIdxIfInBounds,hlt,xu]
end
theorem ja{P:Program}(M:TypeId)(w:World):(Instr.makeMap M none).run P w=.ok (.map (some w.heap.size)) (w.alloc (.map #[] 0)):=by
 simp[Instr.makeMap]
def wset(w:World)(m:Nat)(ob:Obj):World:={ w with heap:=w.heap.setIfInBounds m ob }
theorem xT(w:World)(m:Nat)(ob:Obj)(k:Nat)(h:k≠m):(wset w m ob).heap[k]?=w.heap[k]?:=by simp[wset,Ne.symm h]
theorem qY(w:World)(m:Nat)(ob:Obj):(wset w m ob).heap.size=w.heap.size:=by simp[wset]
theorem Mods.wset{S:Nat->Prop}{w a:World}(h:Mods S w a)(g:Nat)(hp:S g\/w.heap.size<=g)(o:Obj):Mods S w (wset a g o):=h.setObj g hp o
section
variable {K:Type} [DecidableEq K] {P:Program} {T M E:TypeId} {kv:K->Value} {w:World} {m:Nat} {es:List (K × Value)} {o:Oper} {a:Act} {N:Act->World->Prop} {Q:Exit->Act->World->Prop}
theorem xF(law:KeyLaw P T kv)(h:MapAt kv w m es)(mo ko vo:Operand)(ho:o.op=.mapUpdate M mo ko vo)(hM:P.underlying M=some (.map T E))(k:K)(v:Value)(hm:a.eval mo=.map (some m))(hk:a.eval ko=kv k)(hv:a.eval vo=v)
  (hN:∀ob,MapAt kv (wset w m ob) m (mput es k v)->N (a.put o.dst undef) (wset w m ob)):o.wp P a w N Q:=by
 obtain⟨ob,hr,hmap⟩:=za9 law h hM k v;unfold Oper.wp execOp;simp only[ho,hm,hk,hv,Sem.run_bind,hr,Result.andThen_ok,Sem.run_pure];exact hN ob hmap
end
theorem KeyLaw.scalar{K:Type}{P:Program}{T:TypeId}{d:TypeDesc}{kv:K->Value}(ht:P.underlying T=some d)(hk:∀k,IsKey d (kv k))(hinj:∀x y,kv x=kv y->x=y):KeyLaw P T kv:=by
 refine⟨fun b k w=>run_checkKey ht (hk k) b 9999,fun k L w=>?_,fun k w=>run_keyThatStays (hk k)⟩;have hall:∀x∈L.map (ent kv),IsKey d x.key:=by
  intro x hx;obtain⟨p,_,rfl⟩:=List.mem_map.1 hx;exact hk _
 rcases findNow_spec (hk k) (L.map (ent kv)) 0 hall with⟨h1,h2⟩ | ⟨j,e,h1,h2,h3⟩
 ·refine .inl ⟨run_findKey ht h1,fun hmem=>?_⟩;obtain⟨p,hp,rfl⟩:=List.mem_map.1 hmem;exact h2 _ (List.mem_map.2 ⟨p,hp,rfl⟩) rfl
 ·rw[List.getElem?_map] at h2;obtain⟨p,hp,rfl⟩:=Option.map_eq_some_iff.1 h2;rw[Nat.zero_add] at h1;exact .inr ⟨j,p,run_findKey ht h1,hp,hinj _ _ h3⟩
def Ranging{K:Type}(kv:K->Value)(w:World)(m r:Nat)(es todo:List (K × Value)):Prop :=
 ∃(L:List (Ent K)) (clock since:Nat) (seen:Array Nat) (c0:Nat),es=L.map (fun p=>(p.1,p.2.1))/\w.heap[m]?=some (.map (L.map (ent kv)).toArray clock)/\(L.map (·.1)).Nodup/\(L.map (·.2.2)).Nodup/\(∀p∈L,p.2.2<clock) /\
  w.heap[r]?=some (.mapIter (some m) since seen c0)/\(∀p∈L,p.2.2<since)/\since<=c0/\since<=clock/\todo=(L.filter fun p=>!seen.contains p.2.2).map fun p=>(p.1,p.2.1)
section
variable {K:Type} {kv:K->Value} {w w':World} {m r:Nat} {es todo:List (K × Value)}
theorem Ranging.map(h:Ranging kv w m r es todo):MapAt kv w m es:=by
 obtain⟨L,clock,since,seen,c0,he,hm,h1,h2,h3,_⟩:=h;exact⟨L,clock,he,hm,h1,h2,h3⟩
theorem Ranging.lt(h:Ranging kv w m r es todo):r<w.heap.size:=by
 obtain⟨L,clock,since,seen,c0,_,_,_,_,_,hr,_⟩:=h;exact lt_of_block hr
theorem Ranging.ne(h:Ranging kv w m r es todo):r≠m:=by
 obtain⟨L,clock,since,seen,c0,_,hm,_,_,_,hr,_⟩:=h;rintro rfl;rw[hm] at hr;cases hr
theorem Ranging.of_blocks(h:Ranging kv w m r es todo)(hm:w'.heap[m]?=w.heap[m]?)(hr:w'.heap[r]?=w.heap[r]?):Ranging kv w' m r es todo:=by
 obtain⟨L,clock,since,seen,c0,he,h0,h1,h2,h3,h4,rest⟩:=h;exact⟨L,clock,since,seen,c0,he,by rw[hm];exact h0,h1,h2,h3,by rw[hr];exact h4,rest⟩
theorem Ranging.below(h:Ranging kv w m r es todo)(hb:Below w.heap.size w w'):Ranging kv w' m r es todo:=h.of_blocks (hb.block m h.map.lt) (hb.block r h.lt)
theorem Ranging.left_eq(h:Ranging kv w m r es todo):w.rangeLeft m r=todo.length:=by
 obtain⟨L,clock,since,seen,c0,he,hm,h1,h2,h3,hr,h4,h5,h6,rfl⟩:=h;simp only[World.rangeLeft,hm,hr,leftOf];rw[<-Array.length_toList,Array.toList_filter,List.length_map,List.filter_map,List.length_map]
 rfl
theorem Ranging.sub(h:Ranging kv w m r es todo):todo.Sublist es:=by
 obtain⟨L,clock,since,seen,c0,rfl,hm,h1,h2,h3,hr,h4,h5,h6,rfl⟩:=h;exact(List.filter_sublist (l:=L)).map _
theorem Ranging.nodup(h:Ranging kv w m r es todo):(todo.map Prod.fst).Nodup:=(h.sub.map Prod.fst).nodup h.map.nodup
end
theorem zbv{α:Type}(p q:α->Bool)(b:α->Nat)(L:List α)(hn:(L.map b).Nodup)(x:α)(hx:x∈L)(hp:p x=true)(hq:∀y∈L,q y=(p y && !(b y == b x))) :
  ∃i,(L.filter p)[i]?=some x/\L.filter q=(L.filter p).eraseIdx i:=by
 induction L with
 | nil=>cases hx
 | cons a L ih =>
  rw[List.map_cons,List.nodup_cons] at hn
  rcases List.mem_cons.1 hx with rfl | hx'
  ·refine⟨0,by rw[List.filter_cons_of_pos hp];rfl,?_⟩;rw[List.filter_cons_of_pos hp,List.filter_cons_of_neg (by rw[hq x (by simp)];simp),List.eraseIdx_cons_zero];refine List.filter_congr fun y hy=>?_
   rw[hq y (by simp[hy])];have:b y≠b x:=fun e=>hn.1 (by rw[<-e];exact List.mem_map.2 ⟨y,hy,rfl⟩)
   simp[this]
  ·obtain⟨i,h1,h2⟩:=ih hn.2 hx' (fun y hy=>hq y (by simp[hy]));have hne:b a≠b x:=fun e=>hn.1 (by rw[e];exact List.mem_map.2 ⟨x,hx',rfl⟩)
   have hqa:q a=p a:=(by rw[hq a (by simp)];simp[hne]);cases hpa:p a
   ·refine⟨i,by rw[List.filter_cons_of_neg (by simp[hpa])];exact h1,?_⟩;rw[List.filter_cons_of_neg (by simp[hqa,hpa]),List.filter_cons_of_neg (by simp[hpa])];exact h2
   ·refine⟨i+1,by rw[List.filter_cons_of_pos hpa];simpa using h1,?_⟩;rw[List.filter_cons_of_pos (by rw[hqa];exact hpa),List.filter_cons_of_pos hpa,List.eraseIdx_cons_succ,h2]
section
variable {K:Type} {P:Program} {T M E:TypeId} {kv:K->Value} {w:World} {m r:Nat} {es todo:List (K × Value)}
theorem zdW(h:MapAt kv w m es)(hM:P.underlying M=some (.map T E)):∃w',(Instr.range M (.map (some m))).run P w=.ok (.pointer (some ⟨w.heap.size,0,none⟩)) w'/\Ranging kv w' m w.heap.size es es/\Below w.heap.size w w'/\w'.heap.size=w.heap.size+1:=by
 have hlt:=h.lt;obtain⟨L,clock,he,hm,h1,h2,h3⟩:=h;have hb:Below w.heap.size w (w.alloc (.mapIter (some m) clock #[] clock)):=(Below.refl _ _).alloc (Nat.le_refl _) _;refine⟨_,run_range_map w M T E m _ clock hM hm,⟨L,clock,clock,#[],clock,he,(hb.block m hlt).trans hm,h1,h2,h3,heap_alloc_new w _,h3,Nat.le_refl _,Nat.le_refl _,by rw[List.filter_eq_self.2 (by simp)];exact he⟩,hb,by simp⟩
theorem zfb(h:Ranging kv w m r es todo)(ty:TypeId) :
  (todo=[]/\(Instr.next (.pointer (some ⟨r,0,none⟩)) false ty).run P w=.ok (.tuple #[.bool false]) w) \/
  ∃(i:Nat) (k:K) (v:Value) (w':World),todo[i]?=some (k,v)/\(Instr.next (.pointer (some ⟨r,0,none⟩)) false ty).run P w=.ok (.tuple #[.bool true,kv k,v]) w'/\Ranging kv w' m r es (todo.eraseIdx i)/\w.grownBy w' (some r)/\w'.heap.size=w.heap.size /\
   (Instr.entry (.pointer (some ⟨r,0,none⟩))).run P w'=.ok (.tuple #[kv k,v]) w':=by
 have hne:=h.ne;have hleft:=h.left_eq;obtain⟨L,clock,since,seen,c0,he,hm,h1,h2,h3,hr,h4,h5,h6,htodo⟩:=h;have hold:∀x∈(L.map (ent kv)).toArray.toList,x.born<since:=by
  intro x hx;obtain⟨p,hp,rfl⟩:=List.mem_map.1 (show x∈L.map (ent kv) from hx);exact h4 p hp
 rcases run_next_at (P:=P) w ty r m since c0 seen _ clock hr hm hold h5 with⟨h0,hrun⟩ | ⟨e,hel,w1,hal,hrun⟩
 ·refine .inl ⟨?_,hrun⟩;simp only[World.rangeLeft,hm,hr,h0] at hleft;exact List.eq_nil_of_length_eq_zero hleft.symm
 ·have hel':e∈L.map (ent kv)/\seen.contains e.born=false:=by
   simp only[leftOf,Array.toList_filter,List.mem_filter,Bool.not_eq_true'] at hel;exact hel
  obtain⟨x,hx,rfl⟩:=List.mem_map.1 hel'.1;have hxs:seen.contains x.2.2=false:=hel'.2;obtain⟨i,hi1,hi2⟩:=zbv (fun p:Ent K=>!seen.contains p.2.2) (fun p:Ent K=>!(seen.push x.2.2).contains p.2.2) (fun p=>p.2.2) L h2 x hx (by simp only[hxs];rfl) (fun y hy=>by
   simp only[Array.contains_push];cases hc:seen.contains y.2.2<;>by_cases hb:y.2.2=x.2.2<;>simp[hb])
  have hr1:w1.heap[r]?=some (.mapIter (some m) since seen c0):=by rcases hal with rfl | rfl<;>exact hr
  have hm1:w1.heap[m]?=some (.map (L.map (ent kv)).toArray clock):=by rcases hal with rfl | rfl<;>exact hm
  have hset:=heap_set (o':=.mapIter (some m) since (seen.push x.2.2) clock) hr1;have hm':(ChangeMaps.setBlock w1 r (.mapIter (some m) since (seen.push x.2.2) clock)).heap[m]?=some (.map (L.map (ent kv)).toArray clock):=(hset.2 m (fun e1=>hne e1.symm)).trans hm1;refine .inr ⟨i,x.1,x.2.1,_,?_,hrun,⟨L,clock,since,seen.push x.2.2,clock,he,hm',h1,h2,h3,hset.1,h4,h6,h6,?_⟩,?_,?_,run_entry_at _ r m since seen _ clock (ent kv x) hset.1 hm' (by simpa using hel'.1) (by simpa [Function.comp_def,ent] using h2)⟩
  ·rw[htodo,List.getElem?_map,hi1];rfl
  ·rw[htodo,xu,<-hi2]
  ·rcases hal with rfl | rfl<;>exact⟨rfl,rfl,rfl,by simp[ChangeMaps.setBlock],fun i _ hi=>hset.2 i (fun e1=>hi (by rw[e1]))⟩
  ·rcases hal with rfl | rfl<;>simp[ChangeMaps.setBlock]
end
section
variable {K:Type} {P:Program} {T M E:TypeId} {kv:K->Value} (w:World) {m r:Nat} {es todo:List (K × Value)} {ops:Array Oper} {rest:List Oper} {o:Oper} {a:Act} {Q:Exit->Act->World->Prop}
theorem zb1(hg:o.guard=none)(mo:Operand)(ho:o.op=Op.range M mo)(hM:P.underlying M=some (.map T E))(hm:a.eval mo=.map (some m))(h:MapAt kv w m es)
  (hK:∀w',Ranging kv w' m w.heap.size es es->Below w.heap.size w w'->w'.heap.size=w.heap.size+1->wpList P ops Q rest (a.put o.dst (.pointer (some ⟨w.heap.size,0,none⟩))) w'):wpList P ops Q (o::rest) a w:=by
 refine wpList_plain hg fun K' hK'=>?_
 obtain⟨w',hrun,h1,h2,h3⟩:=zdW h hM;unfold Oper.wp;simp[execOp,ho,hm,hrun,Result.andThen];exact hK' _ _ (hK w' h1 h2 h3)
theorem zdu{V:Type}(mkV:V->Value)(hg:o.guard=none)(it:Operand)(ho:o.op=Op.next it false)(hit:a.eval it=.pointer (some ⟨r,0,none⟩))(h:Ranging kv w m r es todo)(hv:∀p∈es,∃c,p.2=mkV c)
  (hDone:todo=[]->wpList P ops Q rest (a.put o.dst (.tuple #[.bool false])) w)
  (hMore:∀(i:Nat) (k:K) (c:V) (w':World),todo[i]?=some (k,mkV c)->Ranging kv w' m r es (todo.eraseIdx i)->w.grownBy w' (some r)->w'.heap.size=w.heap.size ->
   (Instr.entry (.pointer (some ⟨r,0,none⟩))).run P w'=.ok (.tuple #[kv k,mkV c]) w'->wpList P ops Q rest (a.put o.dst (.tuple #[.bool true,kv k,mkV c])) w'):wpList P ops Q (o::rest) a w:=by
 refine wpList_plain hg fun K' hK'=>?_
 unfold Oper.wp
 rcases zfb (P:=P) h o.type with⟨h0,hrun⟩ | ⟨i,k,v,w',hi,hrun,h1,h2,h3,h4⟩
 ·simp[execOp,ho,hit,hrun,Result.andThen];exact hK' _ _ (hDone h0)
 ·obtain⟨c,hc⟩:=hv (k,v) (h.sub.subset (List.mem_of_getElem? hi));simp only at hc;subst hc;simp[execOp,ho,hit,hrun,Result.andThen];exact hK' _ _ (hMore i k c w' hi h1 h2 h3 h4)
end
end Go.Proofs.YtobdmlejabjmiaaGreatDoor
