/- Made small by a program. -/
import Derived.Test.YtobdmlejabjmiaaGreatDoorZc04
import Derived.Deep.QuietTactic
import Derived.BigQuiet
import Derived.Deep.MidRow
set_option maxRecDepth 20000
set_option maxHeartbeats 8000000
namespace Go.Proofs.YtobdmlejabjmiaaGreatDoor
open Go.RowKit
inductive PT where
 | fin (p:List (Nat × Option (List Nat)))
 | pure (i:Nat) (r:PT)
 | eff (i:Nat) (d:List Nat) (r:PT)
 | two (i:Nat) (d:List Nat) (r:PT) (j:Nat) (e:List Nat) (s:PT)
def PT.len:PT->Nat
 | .fin p=>p.length
 | .pure _ r=>r.len+1
 | .eff _ _ r=>r.len+1
 | .two _ _ r _ _ s=>max r.len s.len+1
def planP(md:Region.Mode)(ops:Array Oper):PT->Array Bool->Bool
 | .fin p,l=>planC md ops p l
 | .pure i r,l=>Region.free md ops l i && (Region.ready md ops l).contains i && planP md ops r (l.setIfInBounds i true)
 | .eff i d r,l=>(Region.ready md ops l == [i]) && (d.all (fun k=>depB md ops i k) && planP md ops r (l.setIfInBounds i true))
 | .two i d r j e s,l=>(Region.ready md ops l == [i,j]) && ((d.all (fun k=>depB md ops i k) && planP md ops r (l.setIfInBounds i true)) && (e.all (fun k=>depB md ops j k) && planP md ops s (l.setIfInBounds j true)))
section
variable {P:Program} {ops:Array Oper} {Q:Exit->Act->World->Prop} {md:Region.Mode}
def wpPT(P:Program)(ops:Array Oper)(Q:Exit->Act->World->Prop):Obl->PT->Act->World->Prop
 | obl,.fin p,a,w=>wpPlanE P ops Q obl p a w
 | obl,.pure i r,a,w=>∃o v S,ops[i]?=some o/\YieldsIf P ops S o v a/\S w/\wpPT P ops Q ((i,S)::obl) r (a.put o.dst v) w
 | obl,.eff i d r,a,w=>∃o,ops[i]?=some o/\wpOp P ops Q i (fun a' w'=>owed d obl w'/\wpPT P ops Q (left d obl) r a' w') a w
 | obl,.two i d r j e s,a,w=>(∃o,ops[i]?=some o/\wpOp P ops Q i (fun a' w'=>owed d obl w'/\wpPT P ops Q (left d obl) r a' w') a w) /\
   (∃o,ops[j]?=some o/\wpOp P ops Q j (fun a' w'=>owed e obl w'/\wpPT P ops Q (left e obl) s a' w') a w)
theorem effP{i:Nat}{d:List Nat}{fuel:Nat}{obl:Obl}{listed:Array Bool}{a:Act}{w:World}{R:Act->World->Prop}(hp:d.all (fun k=>depB md ops i k)=true)
  (h:∃o,ops[i]?=some o/\wpOp P ops Q i (fun a' w'=>owed d obl w'/\R a' w') a w) (hR:∀a' w',(∀p∈left d obl,p.2 w')->R a' w'->wpAnyO P md ops Q fuel (left d obl) (listed.setIfInBounds i true) a' w') :
  wpOp P ops Q i (fun a' w'=>(∀p∈obl,depB md ops i p.1=false->p.2 w')/\wpAnyO P md ops Q fuel (obl.filter fun p=>!depB md ops i p.1) (listed.setIfInBounds i true) a' w') a w:=by
 obtain⟨o,ho,hw⟩:=h;have hd:∀k,d.contains k=true->depB md ops i k=true:=fun k hk=>by
  have:=List.all_eq_true.1 hp k (by simpa using hk);exact this
 have hnd:∀k,depB md ops i k=false->d.contains k=false:=fun k hk=>by
  cases hc:d.contains k with
  | false=>rfl
  | true=>rw[hd k hc] at hk;cases hk
 refine wpOp_mono (fun a' w' ⟨he,hr⟩=>⟨fun p hp' hdd=>yU he p hp' (hnd _ hdd),?_⟩) hw;refine jt fuel (left d obl) _ _ a' w' (fun p hp'=>?_) (hR a' w' (fun p hp'=>?_) hr)
 ·rw[List.mem_filter] at hp';exact yX.2 ⟨hp'.1,hnd _ (by simpa using hp'.2)⟩
 ·obtain⟨h1,h2⟩:=yX.1 hp';exact yU he p h1 h2
theorem yW(hs:Region.noSelect ops=true)(hQ:∀c a w,¬Q (.panic c) a w):∀(t:PT) (fuel:Nat) (obl:Obl) (listed:Array Bool) (a:Act) (w:World),
  t.len<=fuel->planP md ops t listed=true->(∀p∈obl,p.2 w)->wpPT P ops Q obl t a w->wpAnyO P md ops Q fuel obl listed a w
 | .fin p,fuel,obl,listed,a,w,hf,hp,hO,h=>yV hs hQ p fuel obl listed a w hf hp hO h
 | .pure i r,0,_,_,_,_,hf,_,_,_=>by simp[PT.len] at hf
 | .eff i d r,0,_,_,_,_,hf,_,_,_=>by simp[PT.len] at hf
 | .two i d r j e s,0,_,_,_,_,hf,_,_,_=>by simp[PT.len] at hf
 | .pure i r,fuel+1,obl,listed,a,w,hf,hp,hO,h=>by
  obtain⟨o,v,S,ho,hy,hS,hr⟩:=h;simp only[planP,Bool.and_eq_true] at hp;refine xN ho (Region.noSelect_spec hs) (fun c a w hh=>absurd hh (hQ _ _ _)) fuel obl listed a w (Region.free_spec ho hp.1.1) (by simpa using hp.1.2) hy hS hO
   (yW hs hQ r fuel _ _ _ w (by simp only[PT.len] at hf;omega) hp.2 ?_ hr)
  intro p hp'
  rcases List.mem_cons.1 hp' with rfl | hp'
  ·exact hS
  ·exact hO p hp'
 | .eff i d r,fuel+1,obl,listed,a,w,hf,hp,hO,h=>by
  simp only[planP,Bool.and_eq_true,beq_iff_eq] at hp;refine⟨fun h0=>(by rw[h0] at hp;simp at hp),fun j hj=>?_⟩;rw[hp.1,List.mem_singleton] at hj;subst hj;exact effP hp.2.1 h fun a' w' h1 h2=>yW hs hQ r fuel _ _ a' w' (by simp only[PT.len] at hf;omega) hp.2.2 h1 h2
 | .two i d r j e s,fuel+1,obl,listed,a,w,hf,hp,hO,h=>by
  simp only[planP,Bool.and_eq_true,beq_iff_eq] at hp;refine⟨fun h0=>(by rw[h0] at hp;simp at hp),fun k hk=>?_⟩;rw[hp.1] at hk;simp only[List.mem_cons,List.not_mem_nil,or_false] at hk
  rcases hk with rfl | rfl
  ·exact effP hp.2.1.1 h.1 fun a' w' h1 h2=>yW hs hQ r fuel _ _ a' w' (by simp only[PT.len] at hf;omega) hp.2.1.2 h1 h2
  ·exact effP hp.2.2.1 h.2 fun a' w' h1 h2=>yW hs hQ s fuel _ _ a' w' (by simp only[PT.len] at hf;omega) hp.2.2.2 h1 h2
theorem zW{id:Nat}{a:Act}{w:World}(hm:P.follows .mixedOrders=true)(t:PT)(hs:Region.noSelect ops=true)
  (hp:planP .any ops t (Array.replicate ops.size false)=true) (hl:t.len<=ops.size) (h:∀wq,wq=w.drew->wpPT P ops (NoPanic Q) [] t a wq):(Code.region id ops true).wp P Q a w :=
 wp_region_noPanic (wp_region_any hm (yY _ _ _ _ _ (yW hs (fun _ _ _ hh=>hh) t _ _ _ a _ hl hp (by simp) (h _ rfl))))
theorem pt_pure{obl:Obl}{i:Nat}{r:PT}{a:Act}{w:World}{o:Oper}{v:Value}(ho:ops[i]?=some o)(hw:Region.wanted o (yielded ops a.tmps)=true)
  (hy:∀w',(execOp a.eval o).run P w'=.ok (.value v) w') (h:wpPT P ops Q ((i,fun _=>True)::obl) r (a.put o.dst v) w):wpPT P ops Q obl (.pure i r) a w :=
 ⟨o,v,fun _=>True,ho,.inl ⟨hw,fun w' _=>hy w'⟩,trivial,h⟩
theorem pt_cells{obl:Obl}{i:Nat}{r:PT}{a:Act}{w:World}{o:Oper}{v:Value}(l:List (Addr × Value))(hc:∀p∈l,w.cell? p.1=some p.2)(ho:ops[i]?=some o)(hw:Region.wanted o (yielded ops a.tmps)=true)
  (hy:∀w',(∀p∈l,w'.cell? p.1=some p.2)->(execOp a.eval o).run P w'=.ok (.value v) w') (h:wpPT P ops Q ((i,fun w'=>∀p∈l,w'.cell? p.1=some p.2)::obl) r (a.put o.dst v) w):wpPT P ops Q obl (.pure i r) a w :=
 ⟨o,v,_,ho,.inl ⟨hw,hy⟩,hc,h⟩
theorem zz {obl : Obl} {i : Nat} {r : PT} {a a2 : Act} {w : World} {o : Oper} {v : Value} (h : wpPT P ops Q ((i, fun _ => True) :: obl) r a2 w) (ho : ops[i]? = some o := by rfl) (hw : Region.wanted o (yielded ops a.tmps) = true := by rfl)
 (hy : ∀ w', (execOp a.eval o).run P w' = .ok (.value v) w' := by intro w'; simp only [List.getElem_toArray, List.getElem_cons_succ, List.getElem_cons_zero]; go_simp; first | with_reducible rfl | (simp (disch := omega) only [if_pos, if_neg, dif_pos, Result.andThen_ok]; try with_reducible rfl) | skip) (ha : a.put o.dst v = a2 := by (try simp only [List.getElem_toArray, List.getElem_cons_succ, List.getElem_cons_zero, Act.put, List.setIfInBounds_toArray, List.set_cons_zero, List.set_cons_succ]); exact rfl) : wpPT P ops Q obl (.pure i r) a w := by
 subst ha;exact pt_pure ho hw hy h
theorem xj {obl : Obl} {i : Nat} {r : PT} {a a2 : Act} {w : World} {o : Oper} {v : Value} (l : List (Addr × Value)) (h : wpPT P ops Q ((i, fun w' => ∀ p ∈ l, w'.cell? p.1 = some p.2) :: obl) r a2 w) (hc : ∀ p ∈ l, w.cell? p.1 = some p.2 := by simp; and_intros <;> assumption) (ho : ops[i]? = some o := by rfl) (hw : Region.wanted o (yielded ops a.tmps) = true := by rfl)
 (hy : ∀ w', (∀ p ∈ l, w'.cell? p.1 = some p.2) → (execOp a.eval o).run P w' = .ok (.value v) w' := by intro w' hw'; simp only [List.forall_mem_cons, List.not_mem_nil, false_imp_iff, implies_true, and_true] at hw'; simp only [List.getElem_toArray, List.getElem_cons_succ, List.getElem_cons_zero]; go_simp; first | with_reducible rfl | (simp (disch := omega) only [if_pos, if_neg, dif_pos, Result.andThen_ok]; try with_reducible rfl) | skip) (ha : a.put o.dst v = a2 := by (try simp only [List.getElem_toArray, List.getElem_cons_succ, List.getElem_cons_zero, Act.put, List.setIfInBounds_toArray, List.set_cons_zero, List.set_cons_succ]); exact rfl) : wpPT P ops Q obl (.pure i r) a w := by
 subst ha;exact pt_cells l hc ho hw hy h
theorem zH {obl : Obl} {d : List Nat} {r : PT} {a' a2 : Act} {w' : World} {K : Act → World → Prop} (hK : ∀ a' w', owed d obl w' → wpPT P ops Q (left d obl) r a' w' → K a' w') (h : wpPT P ops Q (left d obl) r a2 w') (ho : owed d obl w' := by first | (simp <;> (and_intros <;> first | trivial | assumption)) | (simp [owed] <;> (and_intros <;> first | trivial | assumption)) | (simp [owed, left] <;> (and_intros <;> first | trivial | assumption))) (ha : a' = a2 := by (try simp only [List.getElem_toArray, List.getElem_cons_succ, List.getElem_cons_zero, Act.put, List.setIfInBounds_toArray, List.set_cons_zero, List.set_cons_succ]); exact rfl) : K a' w' := by
 subst ha;exact hK _ _ ho h
theorem zZ{obl:Obl}{i:Nat}{d:List Nat}{r:PT}{a:Act}{w:World}{o:Oper}(ho:ops[i]?=some o)(hw:Region.wanted o (yielded ops a.tmps)=true)
  (h:∀K:Act->World->Prop,(∀a' w',owed d obl w'->wpPT P ops Q (left d obl) r a' w'->K a' w')->o.wp P a w K Q):wpPT P ops Q obl (.eff i d r) a w:=by
 refine⟨o,ho,?_⟩;unfold wpOp;rw[ho];simp only[hw,if_true];exact .inl (h _ fun a' w' h1 h2=>⟨h1,h2⟩)
theorem pt_two{obl:Obl}{i j:Nat}{d e:List Nat}{r s:PT}{a:Act}{w:World}(h1:wpPT P ops Q obl (.eff i d r) a w)(h2:wpPT P ops Q obl (.eff j e s) a w):wpPT P ops Q obl (.two i d r j e s) a w:=⟨h1,h2⟩
theorem zbK{obl:Obl}{p:List (Nat × Option (List Nat))}{a:Act}{w:World}(h:wpPlanE P ops Q obl p a w):wpPT P ops Q obl (.fin p) a w:=h
end
theorem bdN{B:Nat}{w w':World}(h:Below B w w')(n:Nat):Below B w (w'.drewN n):=⟨h.os,h.tape,h.output,h.size,h.block⟩
theorem xP:(Tryz.prog.info? 3).map (fun i=>(i.zero,i.size,i.bytes))=some (some (.int .i64 0),1,8):=by kernel_rfl
theorem yo(k:IntKind)(l:List Int):∀v∈ncells k l,v.oneCell'=true:=by
 intro v hv;obtain⟨z,_,rfl⟩:=List.mem_map.1 hv
 rfl
theorem yp{P:Program}(w:World){o:Oper}{a:Act}{K:Act->World->Prop}{Q:Exit->Act->World->Prop}(s x:Operand)(t e:TypeId){i:TypeInfo}{z:Value}{bytes:Nat}
  (ho:o.op=.call { callee:=.builtin .append,args:=#[s,x],argTypes:=#[t,t] })
  (ht:P.underlying t=some (.slice e)) (hi:P.info? e=some i) (hz0:i.zero=some z) (hz1:i.size=1) (hz2:i.bytes=bytes) (hzs:z.cells.size=1)
  (base:Nat) (A X:Option Addr) (d:Nat) (zs:List Value) (hs:a.eval s=.slice A 0 0) (hx:a.eval x=.slice X zs.length d) (hA:OV w base e A 0 [])
  (hv:RV w X zs) (h1:∀v∈zs,v.oneCell'=true) (hlen:zs.length*bytes<=140737488355328) (hl2:zs.length<=140737488355328) (hbase:base<=w.heap.size)
  (h:∀(A':Option Addr) (c':Nat) (w':World),OV w' base e A' c' zs->Below w.heap.size w w'->K (a.put o.dst (.slice A' zs.length c')) w'):o.wp P a w K Q:=by
 rcases Nat.eq_zero_or_pos zs.length with h0 | h0
 ·have hm0:zs=[]:=List.eq_nil_of_length_eq_zero h0;subst hm0;have hrun:(Builtin.append_ #[t,t] o.type #[.slice A 0 0,.slice X 0 d]).run P w=.ok (.slice A 0 0) w:=by
   rcases hA.form with⟨rfl,_,_⟩ | ⟨g,rfl,_,_,_,_⟩
   ·rcases X with _ | X
    ·simp[Builtin.append_,run_underlying ht,sizeOf,typeInfo,hi,Builtin.lenOf,Builtin.firstCells]
    ·have hf:=run_firstCells_some (P:=P) w i.size 0 X 0 d [] (by simp) (by simp);simp[Builtin.append_,run_underlying ht,sizeOf,typeInfo,hi,Builtin.lenOf,hf]
   ·rcases X with _ | X
    ·simp[Builtin.append_,run_underlying ht,sizeOf,typeInfo,hi,Builtin.lenOf,Builtin.firstCells,storeCells]
    ·have hf:=run_firstCells_some (P:=P) w i.size 0 X 0 d [] (by simp) (by simp);simp[Builtin.append_,run_underlying ht,sizeOf,typeInfo,hi,Builtin.lenOf,hf,storeCells]
  unfold Oper.wp;simp only[List.length_nil] at hx;simp only[execOp,ho,resolve,invoke,builtin,Sem.run_bind,Sem.run_pure,Result.andThen_ok,List.map_toArray,List.map_cons,List.map_nil,hs,hx,hrun];exact h A 0 w hA (Below.refl _ _)
 ·obtain⟨b,off,rfl,_,hcm⟩:=hv.at_ h0;have addr:∀j u,zs[j]?=some u->w.cell? ((⟨b,off,none⟩:Addr).add j)=some u:=by
   intro j u hu;have hadd:(⟨b,off,none⟩:Addr).add j=⟨b,off+j,none⟩:=(by unfold Addr.add;split<;>simp_all);rw[hadd];exact hcm j u hu
  have fin:∀cap,zs.length<=cap->cap<=maxLen->∃(w':World),w'=(w.drew.alloc (.cells (#[]++zs.toArray++Builtin.zeroCells z.cells (cap - zs.length)) e)) /\
    OV w' base e (some ⟨w.heap.size,0,none⟩) cap zs/\Below w.heap.size w w':=by
   intro cap c1 c2;refine⟨_,rfl,?_,(Below.refl _ _).drew.alloc (Nat.le_refl _) _⟩;refine⟨by simp,.inr ⟨w.heap.size,cap,_,rfl,hbase,heap_alloc_new w.drew _,c1,c2,?_,?_⟩⟩
   ·simp[size_zeroCells,hzs];omega
   ·simp
  obtain⟨cap,w',hrun,hob,hb⟩:∃cap w',(Builtin.append_ #[t,t] o.type #[.slice A 0 0,.slice (some ⟨b,off,none⟩) zs.length d]).run P w=.ok (.slice (some ⟨w.heap.size,0,none⟩) zs.length cap) w' /\
    OV w' base e (some ⟨w.heap.size,0,none⟩) cap zs/\Below w.heap.size w w':=by
   rcases A with _ | ad
   ·have hr:=run_append_nil (P:=P) w t o.type e i z ht hi hz0 ⟨b,off,none⟩ zs.length d zs (by rw[hz1];omega) addr h0 (by omega) (by rw[hz2];omega);obtain⟨w',e1,ho1,hb1⟩:=fin (grownCap w zs.length 0 e) (by simpa using grownCap_ge w _ _ _) (grownCap_le_maxLen w _ _ _ (by unfold maxLen;omega));refine⟨_,w',?_,ho1,hb1⟩;rw[e1];simpa using hr
   ·have hr:=run_append_grow (P:=P) w t o.type e i z ht hi hz0 ad 0 0 [] (by simp) (by simp) ⟨b,off,none⟩ zs.length d zs (by rw[hz1];omega) addr (by omega) (by omega) (growslice_fits (by omega) (by rw[hz2];simpa using hlen));obtain⟨w',e1,ho1,hb1⟩:=fin (grownCap w (0+zs.length) 0 e) (by have:=grownCap_ge w (0+zs.length) 0 e;omega) (grownCap_le_maxLen w _ _ _ (by unfold maxLen;omega));refine⟨_,w',?_,ho1,hb1⟩;rw[e1,hr];simp
  unfold Oper.wp;simp only[execOp,ho,resolve,invoke,builtin,Sem.run_bind,Sem.run_pure,Result.andThen_ok,List.map_toArray,List.map_cons,List.map_nil,hs,hx,hrun];exact h _ _ w' hob hb
def NewI(w:World)(l:List Int)(e:Ending)(w':World):Prop :=
 ∃(A:Option Addr) (c:Nat),e=.returned (.slice A l.length c)/\OV w' w.heap.size 3 A c (ncells .i64 l)/\Below w.heap.size w w'
theorem zcS(A:Option Addr)(c:Nat)(l:List Int)(w:World)(h:RV w A (ncells .i64 l))(hl:l.length<=1000000000000) :
  Calls Tryz.prog 83 #[.slice A l.length c] w (NewI w l):=by
 have hnil:=fun w=>Lib.run_eql_slice_nil (P:=Tryz.prog) w 31 3 A l.length c 0 0 Tryz.underlying31
 have hln:=zp .i64 l
 rcases A with _ | ad
 ·have hl0:l=[]:=by
   rcases Nat.eq_zero_or_pos l.length with h0 | h0
   ·exact List.eq_nil_of_length_eq_zero h0
   ·obtain⟨b,off,e,_⟩:=h.at_ (by omega);cases e
  have HL:=qh hl0;clear h hl hl0 hln;go_enter Tryz.func83,Tryz.ntmps83;go_wp2_with fail;go_ret;exact⟨none,0,by rw[HL.out];rfl,by rw[HL.out];exact OV.nil _ _ _,Below.refl _ _⟩
 ·obtain⟨i0,hi0,hz0,hz1,hz2⟩:=info_parts xP;have HK:Hid (∀A' c' w',OV w' w.heap.size 3 A' c' (ncells .i64 l)->Below (w.heap.size+1) (w.alloc (.cells #[] 3)) w'->NewI w l (.returned (.slice A' (ncells .i64 l).length c')) w'):=qh fun A' c' w' h1 h2=>⟨A',c',by rw[hln],h1,(Below.alloc (Below.refl _ _) (Nat.le_refl _) _).trans (h2.mono (Nat.le_succ _))⟩
  rw[<-hln] at hnil ⊢;clear hln;go_enter Tryz.func83,Tryz.ntmps83;go_wp2_with (at_builtin;refine wpList_plain rfl (fun K hK=>yp _ _ _ 31 3 rfl Tryz.underlying31 hi0 hz0 hz1 hz2 rfl w.heap.size _ _ _ (ncells .i64 l) rfl rfl (OV.made0 _ _ (Nat.le_refl _)) (h.below ((Below.refl _ _).alloc (Nat.le_refl _) _)) (yo _ _) (by rw[zp];omega) (by rw[zp];omega) (by simp) ?_);intro A' c' w' h1 h2;refine hK _ _ ?_;have H1:=qh h1;have H2:=qh h2;clear h1 h2 hK);go_ret;exact HK.out _ _ _ H1.out (by have:=H2.out;simpa using this)
theorem refHas(A:Option Addr)(c:Nat)(l:List Int)(n:Int)(w:World)(h:RV w A (ncells .i64 l))(hl:l.length<=9223372036854775807) :
  Calls Tryz.prog 101 #[.slice A l.length c,.int .i64 n] w fun e w'=>e=.returned (.bool (l.contains n))/\w=w':=by
 have HR:=qh h;clear h;obtain⟨r,hr⟩:∃r,r=l.contains n:=⟨_,rfl⟩;have HRR:=qh hr;rw[<-hr];clear hr;go_enter Tryz.func101,Tryz.ntmps101;go_wp2_with fail;go_loop [5] (fun i=>∃k:Nat,k<=l.length/\i=.int .i64 (k:Int)/\Hid ((l.take k).contains n=false))
  (fun i=>l.length - (intOf i).toNat)
 case atStart=>exact⟨0,Nat.zero_le _,rfl,qh (by simp)⟩
 case round =>
  obtain⟨k,hk,rfl,HK⟩:=hrel;by_cases hlt:k<l.length
  ·obtain⟨b,off,rfl,hb,hc⟩:=HR.out.int hlt;by_cases hx:l[k]=n
   ·have HF:Hid (l.contains n=true):=qh (by rw[List.contains_iff_mem,<-hx];exact List.getElem_mem hlt);have hxb:(l[k] == n)=true:=(by simpa using hx);obtain⟨x,hxe⟩:∃x,x=l[k]:=⟨_,rfl⟩;rw[<-hxe] at hc hxb;clear hx hxe HK;go_wp2_with fail;go_ret;exact⟨by rw[HRR.out,HF.out];rfl,rfl⟩
   ·have HT:Hid ((l.take (k+1)).contains n=false):=qh (by
     have h1:=HK.out;rw[List.take_succ_eq_append_getElem hlt];rw[<-Bool.not_eq_true] at h1 ⊢;rw[List.contains_iff_mem] at h1 ⊢;rw[List.mem_append,List.mem_singleton];exact fun e=>e.elim h1 (fun e=>hx e.symm))
    have hxb:(l[k] == n)=false:=(by simpa using hx);obtain⟨x,hxe⟩:∃x,x=l[k]:=⟨_,rfl⟩;rw[<-hxe] at hc hxb;clear hx hxe HK;go_wp2_with fail
    go_round
    case rel=>exact⟨k+1,by omega,by go_num,HT⟩
    case measure=>simp[intOf];omega
  ·have HF:Hid (l.contains n=false):=qh (by have:=HK.out;rwa [List.take_of_length_le (by omega)] at this);clear HK;go_wp2_with fail;go_ret;exact⟨by rw[HRR.out,HF.out];rfl,rfl⟩
theorem zbO(A:Option Addr)(c:Nat)(l:List Int)(w:World)(h:RV w A (ncells .i64 l))(hl:l.length<=9223372036854775807) :
  Calls Tryz.prog 102 #[.slice A l.length c] w fun e w'=>e=.returned (.bool (risesB l))/\Below w.heap.size w w':=by
 have HR:=qh h;clear h;go_enter Tryz.func102,Tryz.ntmps102;go_wp2_with fail;go_loopw [3] (fun i wr=>∃k:Nat,k<=l.length/\i=.int .i64 (k:Int)/\Hid (∀j,j<k->riseAt l j=true)/\Hid (Below w.heap.size w wr))
  (fun i _=>l.length - (intOf i).toNat)
 case atStart=>exact⟨0,Nat.zero_le _,rfl,qh (fun j hj=>absurd hj (Nat.not_lt_zero _)),qh (Below.refl _ _)⟩
 case round =>
  obtain⟨k,hk,rfl,HK,HB⟩:=hrel;by_cases hlt:k<l.length
  ·obtain⟨b,off,rfl,hb,hc⟩:=(HR.out.below HB.out).int hlt;have HX:=qh (zaV hlt);obtain⟨x,hx⟩:∃x,x=l[k]:=⟨_,rfl⟩;rw[<-hx] at hc HX;clear hx;have hkz:(k:Int)<(l.length:Int):=(by omega);by_cases h1:x<1
   ·have HF:Hid (risesB l=false):=qh (xl hlt (by unfold riseAt;rw[HX.out];simp;omega));have g1:decide (x<1)=true:=(by simpa using h1);clear HK HX;go_wp2_with fail
    go_quiet (fail)
    go_wp2_with fail;go_ret;exact⟨by rw[HF.out];rfl,bdN HB.out _⟩
   ·have g1:decide (x<1)=false:=(by simpa using h1);by_cases h2:16<x
    ·have HF:Hid (risesB l=false):=qh (xl hlt (by unfold riseAt;rw[HX.out];simp;omega));have g2:decide (16<x)=true:=(by simpa using h2);clear HK HX;go_wp2_with fail
     go_quiet (fail)
     go_wp2_with fail;go_ret;exact⟨by rw[HF.out];rfl,bdN HB.out _⟩
    ·have g2:decide (16<x)=false:=(by simpa using h2);by_cases h0:k=0
     ·subst h0;rw[Nat.add_zero] at hc;have HT:Hid (∀j,j<0+1->riseAt l j=true):=qh (fun j hj=>by
       obtain rfl:j=0:=(by omega);unfold riseAt;rw[HX.out];simp;omega)
      clear HK HX;go_wp2_with fail
      go_quiet (fail)
      go_wp2_with fail;go_roundw
      case rel=>exact⟨0+1,by omega,by go_num,HT,qh (bdN HB.out _)⟩
      case measure=>simp[intOf];omega
     ·obtain⟨b',off',e',hb',hc'⟩:=(HR.out.below HB.out).int (j:=k - 1) (by omega);injection e' with e'
      injection e' with e1 e2
      subst e1 e2;have HY:=qh (zaV (l:=l) (k:=k - 1) (by omega));obtain⟨y,hy⟩:∃y,y=l[k - 1]:=⟨_,rfl⟩;rw[<-hy] at hc' HY;clear hy;have hkq:(((k - 1:Nat)):Int)<(l.length:Int):=(by omega);have hkq':k - 1<l.length:=(by omega);have hwk:IntKind.i64.wrap (((k - 1:Nat)):Int)=(((k - 1:Nat)):Int):=by
       unfold IntKind.wrap;simp[IntKind.bits,IntKind.signed];omega
      have g0:decide ((0:Int)<(k:Int))=true:=(by simpa using (by omega:0<k));have g0':decide (0<k)=true:=(by simpa using (by omega:0<k));by_cases h3:x<=y
      ·have HF:Hid (risesB l=false):=qh (xl hlt (by unfold riseAt;rw[HX.out,HY.out];simp;omega));have g3:decide (x<=y)=true:=(by simpa using h3);clear HK HX HY;go_wp2_with fail
       go_quiet (fail)
       go_wp2_with fail;go_ret;exact⟨by rw[HF.out];rfl,bdN HB.out _⟩
      ·have HT:Hid (∀j,j<k+1->riseAt l j=true):=qh (fun j hj=>by
        rcases Nat.lt_or_ge j k with h | h
        ·exact HK.out j h
        ·obtain rfl:j=k:=(by omega);unfold riseAt;rw[HX.out,HY.out];simp;omega)
       have g3:decide (x<=y)=false:=(by simpa using h3);clear HK HX HY;go_wp2_with fail
       go_quiet (fail)
       go_wp2_with fail;go_roundw
       case rel=>exact⟨k+1,by omega,by go_num,HT,qh (bdN HB.out _)⟩
       case measure=>simp[intOf];omega
  ·have HF:Hid (risesB l=true):=qh (zaA fun j hj=>HK.out j (by omega));go_wp2_with fail;go_ret;exact⟨by rw[HF.out];rfl,HB.out⟩
theorem zt:(Tryz.prog.info? 33).map (·.size)=some 2:=by kernel_rfl
theorem Blk.range{w:World}{g:Nat}{T:TypeId}{cs:Array Value}(h:Blk w g T cs)(o:Nat)(vs:List Value)(hv:∀j v,vs[j]?=some v->cs[o+j]?=some v):w.rangeAt g o vs:=fun j v hj=>h.cell _ (hv j v hj)
theorem qI(A X:Option Addr)(c d:Nat)(l m:List Int)(w:World)(h:RV w A (ncells .i64 l))(hX:RV w X (ncells .i64 m))(hl:l.length<=9223372036854775807)(hm:m.length<=9223372036854775807)(r:Bool)(hr:decide (l=m)=r) :
  Calls Tryz.prog 103 #[.slice A l.length c,.slice X m.length d] w fun e w'=>e=.returned (.bool r)/\Below w.heap.size w w':=by
 have HR:=qh h;have HX:=qh hX;have HRR:=qh hr;clear h hX hr;go_enter Tryz.func103,Tryz.ntmps103;go_wp2_with fail;go_loopw [5] (fun i wr=>∃k:Nat,k<=l.length/\k<=m.length/\i=.int .i64 (k:Int)/\Hid (l.take k=m.take k)/\Hid (Below w.heap.size w wr))
  (fun i _=>l.length - (intOf i).toNat)
 case atStart=>exact⟨0,Nat.zero_le _,Nat.zero_le _,rfl,qh (by simp),qh (Below.refl _ _)⟩
 case round =>
  obtain⟨k,hk,hk2,rfl,HK,HB⟩:=hrel;by_cases hlt:k<l.length
  ·by_cases hlt2:k<m.length
   ·obtain⟨b,off,rfl,hb,hc⟩:=(HR.out.below HB.out).int hlt;obtain⟨b2,off2,rfl,hb2,hc2⟩:=(HX.out.below HB.out).int hlt2;have hkz:(k:Int)<(l.length:Int):=(by omega);have hkz2:(k:Int)<(m.length:Int):=(by omega);by_cases hx:l[k]=m[k]
    ·have HT:Hid (l.take (k+1)=m.take (k+1)):=qh (by rw[List.take_succ_eq_append_getElem hlt,List.take_succ_eq_append_getElem hlt2,HK.out,hx]);have hxb:(l[k] == m[k])=true:=(by simpa using hx);obtain⟨x,hxe⟩:∃x,x=l[k]:=⟨_,rfl⟩;obtain⟨y,hye⟩:∃y,y=m[k]:=⟨_,rfl⟩;rw[<-hxe] at hc hxb;rw[<-hye] at hc2 hxb;clear hx hxe hye HK;go_wp2_with fail
     go_quiet (fail)
     go_wp2_with fail;go_roundw
     case rel=>exact⟨k+1,by omega,by omega,by go_num,HT,qh (bdN HB.out _)⟩
     case measure=>simp[intOf];omega
    ·have HF:Hid (r=false):=qh (by
      rw[<-HRR.out,decide_eq_false_iff_not];intro e;subst e;exact hx rfl)
     have hxb:(l[k] == m[k])=false:=(by simpa using hx);obtain⟨x,hxe⟩:∃x,x=l[k]:=⟨_,rfl⟩;obtain⟨y,hye⟩:∃y,y=m[k]:=⟨_,rfl⟩;rw[<-hxe] at hc hxb;rw[<-hye] at hc2 hxb;clear hx hxe hye HK;go_wp2_with fail
     go_quiet (fail)
     go_wp2_with fail;go_ret;exact⟨by rw[HF.out];rfl,bdN HB.out _⟩
   ·have HF:Hid (r=((l.length:Int) == (m.length:Int))):=qh (by
     rw[<-HRR.out,decide_eq_false (fun e=>by subst e;exact hlt2 hlt)];exact(beq_eq_false_iff_ne.2 (by omega)).symm)
    clear HK;go_wp2_with fail;go_ret;exact⟨by rw[HF.out];rfl,HB.out⟩
  ·have HF:Hid (r=((l.length:Int) == (m.length:Int))):=qh (by
    rw[<-HRR.out];have h1:=HK.out;rw[List.take_of_length_le (by omega)] at h1;by_cases e:l=m
    ·subst e;simp
    ·rw[decide_eq_false e];refine(beq_eq_false_iff_ne.2 fun e2=>e ?_).symm;rw[List.take_of_length_le (by omega)] at h1;exact h1)
   clear HK;go_wp2_with fail;go_ret;exact⟨by rw[HF.out];rfl,HB.out⟩
theorem zcN{l:List Int}{p:Int->Bool}{k:Nat}(h:k<l.length):(l.take (k+1)).any p=((l.take k).any p || p l[k]):=by
 rw[List.take_succ_eq_append_getElem h,List.any_append];simp
theorem ze6(V L:Option Addr)(vc lc:Nat)(v l:List Int)(w:World)(hv:RV w V (ncells .i64 v))(hl:RV w L (ncells .i64 l))(hn:v.length<=9223372036854775807)(hm:l.length<=9223372036854775807)(r:Bool)(hr:confB v l=r) :
  Calls Tryz.prog 48 #[.agg #[.slice V v.length vc,.slice L l.length lc]] w fun e w'=>e=.returned (.bool r)/\Below w.heap.size w w':=by
 have HV:=qh hv;have HL:=qh hl;have HRR:=qh hr;have HAL:Hid (Below w.heap.size w (w.alloc (.cells #[.slice V v.length vc,.slice L l.length lc] 33))):=qh ((Below.refl _ _).alloc (Nat.le_refl _) _);have HZ:=qh (Blk.new w #[.slice V v.length vc,.slice L l.length lc] 33);clear hv hl hr;go_enter Tryz.func48,Tryz.ntmps48;go_wp2_with fail;go_loopw [3] (fun i wr=>∃k:Nat,k<=v.length/\i=.int .i64 (k:Int)/\Hid ((v.take k).any (fun n=>l.contains n)=false)/\Hid (Below (w.alloc (.cells #[.slice V v.length vc,.slice L l.length lc] 33)).heap.size (w.alloc (.cells #[.slice V v.length vc,.slice L l.length lc] 33)) wr))
  (fun i _=>v.length - (intOf i).toNat)
 case atStart=>exact⟨0,Nat.zero_le _,rfl,qh (by simp),qh (Below.refl _ _)⟩
 case round =>
  obtain⟨k,hk,rfl,HK,HB⟩:=hrel;have HZ2:=qh (HZ.out.kept HB.out);have c0:=HZ2.out.cell 0 rfl;have c1:=HZ2.out.cell 1 rfl;have HBW:=qh (zn HAL.out HB.out);have HV2:=qh (HV.out.below HBW.out);have HL2:=qh (HL.out.below HBW.out);by_cases hlt:k<v.length
  ·obtain⟨b,off,rfl,hb,hc⟩:=HV2.out.int hlt;have hkz:(k:Int)<(v.length:Int):=(by omega);have HS:=qh (zcN (p:=fun n=>l.contains n) hlt);obtain⟨x,hxe⟩:∃x,x=v[k]:=⟨_,rfl⟩;rw[<-hxe] at hc HS;obtain⟨q,hq⟩:∃q,q=l.contains x:=⟨_,rfl⟩;have HA:Hid ((v.take (k+1)).any (fun n=>l.contains n)=q):=qh (by rw[HS.out,HK.out,hq];simp);have HQ:=qh hq.symm;clear hq HS HK;cases q with
   | true =>
    have HF:Hid (r=false):=qh (by
     rw[<-HRR.out];have:v.any (fun n=>l.contains n)=true:=by
      have h1:=HA.out;rw[List.any_eq_true] at h1 ⊢;obtain⟨y,hy,h2⟩:=h1;exact⟨y,List.mem_of_mem_take hy,h2⟩
     unfold confB;rw[this];simp)
    clear hxe;go_wp2_with fail
    go_quiet ((go_at_call 101;exact Calls.quiet_of_same ((refHas L lc l x _ (HL2.out.drewN _) hm).mono fun _ _ h=>⟨h.1.trans (by rw[HQ.out]),h.2.symm⟩)))
    go_wp2_with fail;go_ret;exact⟨by rw[HF.out];rfl,bdN HBW.out _⟩
   | false =>
    clear hxe;go_wp2_with fail
    go_quiet ((go_at_call 101;exact Calls.quiet_of_same ((refHas L lc l x _ (HL2.out.drewN _) hm).mono fun _ _ h=>⟨h.1.trans (by rw[HQ.out]),h.2.symm⟩)))
    go_wp2_with fail;go_roundw
    case rel=>exact⟨k+1,by omega,by go_num,HA,qh (bdN HB.out _)⟩
    case measure=>simp[intOf];omega
  ·have HA:Hid (v.any (fun n=>l.contains n)=false):=qh (by have:=HK.out;rwa [List.take_of_length_le (by omega)] at this);have R1:=qh (zbO V vc v _ HV2.out hn);obtain⟨r1,hr1⟩:∃r1,r1=risesB v:=⟨_,rfl⟩;obtain⟨r2,hr2⟩:∃r2,r2=risesB l:=⟨_,rfl⟩;rw[<-hr1] at R1;have HF:Hid (r=(r1 && r2 && decide (0<v.length))):=qh (by
    rw[<-HRR.out];unfold confB;rw[HA.out,<-hr1,<-hr2];simp)
   have HR2:=qh hr2;clear HK hr1 hr2;go_wp2_with (go_at_call 102;refine R1.out.mono ?_);rintro e w2 ⟨rfl,b2⟩;have HBW3:=qh (zn HBW.out b2);have d0:=(HZ2.out.kept b2).cell 0 rfl;have d1:=(HZ2.out.kept b2).cell 1 rfl;have HZ3:=qh (HZ2.out.kept b2);clear R1 b2 c0 c1;cases r1 with
   | false =>
    go_wp2_with fail;go_ret;exact⟨by rw[HF.out];rfl,HBW3.out⟩
   | true =>
    have R2:=qh (zbO L lc l _ (HL.out.below HBW3.out) hm);rw[<-HR2.out] at R2;go_wp2_with (go_at_call 102;refine R2.out.mono ?_);rintro e w3 ⟨rfl,b3⟩;have HBW4:=qh (zn HBW3.out b3);have e0:=(HZ3.out.kept b3).cell 0 rfl;clear R2 b3 d0 d1;cases r2 with
    | false =>
     go_wp2_with fail;go_ret;exact⟨by rw[HF.out];rfl,HBW4.out⟩
    | true =>
     go_wp2_with fail;go_ret;exact⟨by rw[HF.out];simp,HBW4.out⟩
theorem zq:(Tryz.prog.info? 36).map (·.size)=some 5:=by kernel_rfl
abbrev shotC(i t:Nat)(v l:List Int)(d:List UInt8)(V:Option Addr)(vc:Nat)(L:Option Addr)(lc:Nat)(D:Option Addr)(dc:Nat):Array Value:=#[.int .u64 (i:Int),.int .u64 (t:Int),.slice V v.length vc,.slice L l.length lc,.slice D d.length dc]
theorem xK{w:World}{g:Nat}{T:TypeId}{i t:Nat}{v l:List Int}{d:List UInt8}{V L D:Option Addr}{vc lc dc:Nat}(h:Blk w g T (shotC i t v l d V vc L lc D dc)):w.rangeAt g 2 [.slice V v.length vc,.slice L l.length lc] :=
 h.range 2 _ (by intro j x hj;match j,hj with | 0,hj=>simpa using hj | 1,hj=>simpa using hj | j+2,hj=>simp at hj)
theorem eq0(i:Nat):((i:Int) == 0)=decide (i=0):=by
 by_cases h:i=0
 ·subst h;rfl
 ·rw[decide_eq_false h];exact beq_eq_false_iff_ne.2 (by omega)
theorem zcu(V L X Y:Option Addr)(vc lc xc yc:Nat)(v l x y:List Int)(w:World)(hv:RV w V (ncells .i64 v))(hl:RV w L (ncells .i64 l))(hx:RV w X (ncells .i64 x))(hy:RV w Y (ncells .i64 y))
  (n1:v.length<=9223372036854775807) (n2:l.length<=9223372036854775807) (n3:x.length<=9223372036854775807) (n4:y.length<=9223372036854775807) (r:Bool) (hr:(decide (v=x) && decide (l=y))=r) :
  Calls Tryz.prog 49 #[.agg #[.slice V v.length vc,.slice L l.length lc],.agg #[.slice X x.length xc,.slice Y y.length yc]] w fun e w'=>e=.returned (.bool r)/\Below w.heap.size w w':=by
 have hal:Below w.heap.size w ((w.alloc (.cells #[.slice V v.length vc,.slice L l.length lc] 33)).alloc (.cells #[.slice X x.length xc,.slice Y y.length yc] 33)):=((Below.refl _ _).alloc (Nat.le_refl _) _).alloc (by simp) _;obtain⟨r1,hr1⟩:∃r1,r1=decide (v=x):=⟨_,rfl⟩;obtain⟨r2,hr2⟩:∃r2,r2=decide (l=y):=⟨_,rfl⟩;have HR:Hid (r=(r1 && r2)):=qh (by rw[<-hr,hr1,hr2]);have S1:=qh (qI V X vc xc v x _ (hv.below hal) (hx.below hal) n1 n3 r1 hr1.symm);have HZ:=qh ((Blk.new w #[.slice V v.length vc,.slice L l.length lc] 33).below (((Below.refl (w.heap.size+1) _).alloc (by simp) (.cells #[.slice X x.length xc,.slice Y y.length yc] 33))) (Nat.lt_succ_self _));have HZ2:=qh (Blk.new (w.alloc (.cells #[.slice V v.length vc,.slice L l.length lc] 33)) #[.slice X x.length xc,.slice Y y.length yc] 33);have HL:=qh hl;have HY:=qh hy;have HAL:=qh hal;have HR2:=qh hr2.symm;have hws:(w.alloc (.cells #[.slice V v.length vc,.slice L l.length lc] 33)).heap.size=w.heap.size+1:=by simp
 rw[hws] at HZ2;clear hv hl hx hy hr hr1 hr2 hal hws;go_enter Tryz.func49,Tryz.ntmps49;go_wp2_with (go_at_call 103;refine S1.out.mono ?_);rintro e w1 ⟨rfl,b1⟩;have HB:=qh (zn HAL.out b1);have z1:=(HZ.out.kept b1).cell 1 rfl;have y1:=(HZ2.out.kept b1).cell 1 rfl;clear S1 b1 HZ HZ2;cases r1 with
 | false =>
  go_wp2_with fail;go_ret;exact⟨by rw[HR.out];rfl,HB.out⟩
 | true =>
  have S2:=qh (qI L Y lc yc l y _ (HL.out.below HB.out) (HY.out.below HB.out) n2 n4 r2 HR2.out);go_wp2_with (go_at_call 103;refine S2.out.mono ?_);rintro e w2 ⟨rfl,b2⟩;have HB2:=qh (zn HB.out b2);clear S2 b2 z1 y1;go_wp2_with fail;go_ret;exact⟨by rw[HR.out];simp,HB2.out⟩
theorem zcv(i t j u:Nat)(v l x y:List Int)(d f:List UInt8)(V L D X Y F:Option Addr)(vc lc dc xc yc fc:Nat)(w:World)(hv:RV w V (ncells .i64 v))(hl:RV w L (ncells .i64 l))(hd:RB w D d)(hx:RV w X (ncells .i64 x))(hy:RV w Y (ncells .i64 y))(hf:RB w F f)
  (n1:v.length<=9223372036854775807) (n2:l.length<=9223372036854775807) (n3:x.length<=9223372036854775807) (n4:y.length<=9223372036854775807) (r:Bool) (hr:(decide (i=j) && decide (t=u) && (decide (v=x) && decide (l=y)) && decide (d=f))=r) :
  Calls Tryz.prog 21 #[.agg (shotC i t v l d V vc L lc D dc),.agg (shotC j u x y f X xc Y yc F fc)] w fun e w'=>e=.returned (.bool r)/\Below w.heap.size w w':=by
 have hal:Below w.heap.size w ((w.alloc (.cells (shotC i t v l d V vc L lc D dc) 36)).alloc (.cells (shotC j u x y f X xc Y yc F fc) 36)):=((Below.refl _ _).alloc (Nat.le_refl _) _).alloc (by simp) _;obtain⟨r3,hr3⟩:∃r3,r3=(decide (v=x) && decide (l=y)):=⟨_,rfl⟩;obtain⟨r4,hr4⟩:∃r4,r4=decide (d=f):=⟨_,rfl⟩;have HR:Hid (r=(decide (i=j) && decide (t=u) && r3 && r4)):=qh (by rw[<-hr,hr3,hr4]);have S1:=qh (zcu V L X Y vc lc xc yc v l x y _ (hv.below hal) (hl.below hal) (hx.below hal) (hy.below hal) n1 n2 n3 n4 r3 hr3.symm);have HZ:=qh ((Blk.new w (shotC i t v l d V vc L lc D dc) 36).below (((Below.refl (w.heap.size+1) _).alloc (by simp) (.cells (shotC j u x y f X xc Y yc F fc) 36))) (Nat.lt_succ_self _));have HZ2:=qh (Blk.new (w.alloc (.cells (shotC i t v l d V vc L lc D dc) 36)) (shotC j u x y f X xc Y yc F fc) 36);have HD:=qh hd;have HF:=qh hf;have HAL:=qh hal;have hws:(w.alloc (.cells (shotC i t v l d V vc L lc D dc) 36)).heap.size=w.heap.size+1:=by simp
 rw[hws] at HZ2;have RG1:=qh (xK HZ.out);have RG2:=qh (xK HZ2.out);have H4:Hid ((d == f)=r4):=qh (by
  rw[hr4];by_cases e:d=f
  ·subst e;simp
  ·rw[decide_eq_false e];exact beq_eq_false_iff_ne.2 e)
 clear hv hl hx hy hr hr3 hr4 hal hws hd hf;unfold shotC at *;go_enter Tryz.func21,Tryz.ntmps21;by_cases h1:i=j
 ·have h1':((i:Int) == (j:Int))=true:=by rw[h1];simp
  by_cases h2:t=u
  ·have h2':((t:Int) == (u:Int))=true:=(by rw[h2];simp);have HR':Hid (r=(r3 && r4)):=qh (by rw[HR.out];simp[h1,h2]);clear HR h1 h2;go_wp2_with (first
    | (refine wpList_load_mid rfl 33 (.tmp 18) rfl w.heap.size 2 rfl [.slice V v.length vc,.slice L l.length lc] _ RG1.out Tryz.underlying33 rfl zt ?_)
    | (refine wpList_load_mid rfl 33 (.tmp 20) rfl (w.heap.size+1) 2 rfl [.slice X x.length xc,.slice Y y.length yc] _ RG2.out Tryz.underlying33 rfl zt ?_)
    | (go_at_call 49;refine S1.out.mono ?_))
   rintro e w1 ⟨rfl,b1⟩;have HB:=qh (zn HAL.out b1);have z4:=(HZ.out.kept b1).cell 4 rfl;have y4:=(HZ2.out.kept b1).cell 4 rfl;have k1:(convert 34 9 (.slice D d.length dc)).run Tryz.prog w1=.ok (.string ⟨d.toArray⟩) w1:=convB dc (HD.out.below HB.out);have k2:(convert 34 9 (.slice F f.length fc)).run Tryz.prog w1=.ok (.string ⟨f.toArray⟩) w1:=convB fc (HF.out.below HB.out);have k4:=H4.out;clear S1 b1 HZ HZ2 RG1 RG2;cases r3 with
   | false =>
    clear k4;go_wp2_with fail;go_ret;exact⟨by rw[HR'.out];rfl,HB.out⟩
   | true =>
    go_wp2_with fail;go_ret;exact⟨by rw[HR'.out];simp[],HB.out⟩
  ·have h2':((t:Int) == (u:Int))=false:=beq_eq_false_iff_ne.2 (by omega);have HR':Hid (r=false):=qh (by rw[HR.out];simp[h2]);clear HR h2 h1 S1;go_wp2_with fail;go_ret;exact⟨by rw[HR'.out];rfl,HAL.out⟩
 ·have h1':((i:Int) == (j:Int))=false:=beq_eq_false_iff_ne.2 (by omega);have HR':Hid (r=false):=qh (by rw[HR.out];simp[h1]);clear HR h1 S1;go_wp2_with fail;go_ret;exact⟨by rw[HR'.out];rfl,HAL.out⟩
end Go.Proofs.YtobdmlejabjmiaaGreatDoor
