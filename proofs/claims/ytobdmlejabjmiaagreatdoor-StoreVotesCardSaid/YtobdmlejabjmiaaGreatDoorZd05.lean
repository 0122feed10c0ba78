/- Made small by a program. -/
import Derived.Test.YtobdmlejabjmiaaGreatDoorZd04
import Derived.Deep.QuietTactic
import Derived.BigQuiet
import Derived.Deep.MidRow
set_option maxRecDepth 20000
set_option maxHeartbeats 8000000
namespace Go.Proofs.YtobdmlejabjmiaaGreatDoor
open Go.RowKit
inductive PT where
 | fin (p:List (Nat × Option (List Nat)))
 | pure (i:Nat) (r:PT)
 | eff (i:Nat) (d:List Nat) (r:PT)
 | two (i:Nat) (d:List Nat) (r:PT) (j:Nat) (e:List Nat) (s:PT)
def PT.len:PT->Nat
 | .fin p=>p.length
 | .pure _ r=>r.len+1
 | .eff _ _ r=>r.len+1
 | .two _ _ r _ _ s=>max r.len s.len+1
def planP(md:Region.Mode)(ops:Array Oper):PT->Array Bool->Bool
 | .fin p,l=>planC md ops p l
 | .pure i r,l=>Region.free md ops l i && (Region.ready md ops l).contains i && planP md ops r (l.setIfInBounds i true)
 | .eff i d r,l=>(Region.ready md ops l == [i]) && (d.all (fun k=>depB md ops i k) && planP md ops r (l.setIfInBounds i true))
 | .two i d r j e s,l=>(Region.ready md ops l == [i,j]) && ((d.all (fun k=>depB md ops i k) && planP md ops r (l.setIfInBounds i true)) && (e.all (fun k=>depB md ops j k) && planP md ops s (l.setIfInBounds j true)))
section
variable {P:Program} {ops:Array Oper} {Q:Exit->Act->World->Prop} {md:Region.Mode}
def wpPT(P:Program)(ops:Array Oper)(Q:Exit->Act->World->Prop):Obl->PT->Act->World->Prop
 | obl,.fin p,a,w=>wpPlanE P ops Q obl p a w
 | obl,.pure i r,a,w=>∃o v S,ops[i]?=some o/\YieldsIf P ops S o v a/\S w/\wpPT P ops Q ((i,S)::obl) r (a.put o.dst v) w
 | obl,.eff i d r,a,w=>∃o,ops[i]?=some o/\wpOp P ops Q i (fun a' w'=>owed d obl w'/\wpPT P ops Q (left d obl) r a' w') a w
 | obl,.two i d r j e s,a,w=>(∃o,ops[i]?=some o/\wpOp P ops Q i (fun a' w'=>owed d obl w'/\wpPT P ops Q (left d obl) r a' w') a w) /\
   (∃o,ops[j]?=some o/\wpOp P ops Q j (fun a' w'=>owed e obl w'/\wpPT P ops Q (left e obl) s a' w') a w)
theorem effP{i:Nat}{d:List Nat}{fuel:Nat}{obl:Obl}{listed:Array Bool}{a:Act}{w:World}{R:Act->World->Prop}(hp:d.all (fun k=>depB md ops i k)=true)
  (h:∃o,ops[i]?=some o/\wpOp P ops Q i (fun a' w'=>owed d obl w'/\R a' w') a w) (hR:∀a' w',(∀p∈left d obl,p.2 w')->R a' w'->wpAnyO P md ops Q fuel (left d obl) (listed.setIfInBounds i true) a' w') :
  wpOp P ops Q i (fun a' w'=>(∀p∈obl,depB md ops i p.1=false->p.2 w')/\wpAnyO P md ops Q fuel (obl.filter fun p=>!depB md ops i p.1) (listed.setIfInBounds i true) a' w') a w:=by
 obtain⟨o,ho,hw⟩:=h
 have hd:∀k,d.contains k=true->depB md ops i k=true:=fun k hk=>by
  have:=List.all_eq_true.1 hp k (by simpa using hk)
  exact this
 have hnd:∀k,depB md ops i k=false->d.contains k=false:=fun k hk=>by
  cases hc:d.contains k with
  | false=>rfl
  | true=>rw[hd k hc] at hk;cases hk
 refine wpOp_mono (fun a' w' ⟨he,hr⟩=>⟨fun p hp' hdd=>owed_spec he p hp' (hnd _ hdd),?_⟩) hw
 refine obl_mono fuel (left d obl) _ _ a' w' (fun p hp'=>?_) (hR a' w' (fun p hp'=>?_) hr)
 ·rw[List.mem_filter] at hp'
  exact mem_left.2 ⟨hp'.1,hnd _ (by simpa using hp'.2)⟩
 ·obtain⟨h1,h2⟩:=mem_left.1 hp'
  exact owed_spec he p h1 h2
theorem planP_sound(hs:Region.noSelect ops=true)(hQ:∀c a w,¬Q (.panic c) a w):∀(t:PT) (fuel:Nat) (obl:Obl) (listed:Array Bool) (a:Act) (w:World),
  t.len<=fuel->planP md ops t listed=true->(∀p∈obl,p.2 w)->wpPT P ops Q obl t a w->wpAnyO P md ops Q fuel obl listed a w
 | .fin p,fuel,obl,listed,a,w,hf,hp,hO,h=>planE_sound hs hQ p fuel obl listed a w hf hp hO h
 | .pure i r,0,_,_,_,_,hf,_,_,_=>by simp[PT.len] at hf
 | .eff i d r,0,_,_,_,_,hf,_,_,_=>by simp[PT.len] at hf
 | .two i d r j e s,0,_,_,_,_,hf,_,_,_=>by simp[PT.len] at hf
 | .pure i r,fuel+1,obl,listed,a,w,hf,hp,hO,h=>by
  obtain⟨o,v,S,ho,hy,hS,hr⟩:=h
  simp only[planP,Bool.and_eq_true] at hp
  refine wpAnyO_first ho (Region.noSelect_spec hs) (fun c a w hh=>absurd hh (hQ _ _ _)) fuel obl listed a w (Region.free_spec ho hp.1.1) (by simpa using hp.1.2) hy hS hO
   (planP_sound hs hQ r fuel _ _ _ w (by simp only[PT.len] at hf;omega) hp.2 ?_ hr)
  intro p hp'
  rcases List.mem_cons.1 hp' with rfl | hp'
  ·exact hS
  ·exact hO p hp'
 | .eff i d r,fuel+1,obl,listed,a,w,hf,hp,hO,h=>by
  simp only[planP,Bool.and_eq_true,beq_iff_eq] at hp
  refine⟨fun h0=>(by rw[h0] at hp;simp at hp),fun j hj=>?_⟩
  rw[hp.1,List.mem_singleton] at hj
  subst hj
  exact effP hp.2.1 h fun a' w' h1 h2=>planP_sound hs hQ r fuel _ _ a' w' (by simp only[PT.len] at hf;omega) hp.2.2 h1 h2
 | .two i d r j e s,fuel+1,obl,listed,a,w,hf,hp,hO,h=>by
  simp only[planP,Bool.and_eq_true,beq_iff_eq] at hp
  refine⟨fun h0=>(by rw[h0] at hp;simp at hp),fun k hk=>?_⟩
  rw[hp.1] at hk
  simp only[List.mem_cons,List.not_mem_nil,or_false] at hk
  rcases hk with rfl | rfl
  ·exact effP hp.2.1.1 h.1 fun a' w' h1 h2=>planP_sound hs hQ r fuel _ _ a' w' (by simp only[PT.len] at hf;omega) hp.2.1.2 h1 h2
  ·exact effP hp.2.2.1 h.2 fun a' w' h1 h2=>planP_sound hs hQ s fuel _ _ a' w' (by simp only[PT.len] at hf;omega) hp.2.2.2 h1 h2
theorem wp_region_planP_gen{id:Nat}{a:Act}{w:World}(hm:P.follows .mixedOrders=true)(t:PT)(hs:Region.noSelect ops=true)
  (hp:planP .any ops t (Array.replicate ops.size false)=true) (hl:t.len<=ops.size) (h:∀wq,wq=w.drew->wpPT P ops (NoPanic Q) [] t a wq):(Code.region id ops true).wp P Q a w :=
 wp_region_noPanic (wp_region_any hm (wpAny_of_obl _ _ _ _ _ (planP_sound hs (fun _ _ _ hh=>hh) t _ _ _ a _ hl hp (by simp) (h _ rfl))))
theorem pt_pure{obl:Obl}{i:Nat}{r:PT}{a:Act}{w:World}{o:Oper}{v:Value}(ho:ops[i]?=some o)(hw:Region.wanted o (yielded ops a.tmps)=true)
  (hy:∀w',(execOp a.eval o).run P w'=.ok (.value v) w') (h:wpPT P ops Q ((i,fun _=>True)::obl) r (a.put o.dst v) w):wpPT P ops Q obl (.pure i r) a w :=
 ⟨o,v,fun _=>True,ho,.inl ⟨hw,fun w' _=>hy w'⟩,trivial,h⟩
theorem pt_cells{obl:Obl}{i:Nat}{r:PT}{a:Act}{w:World}{o:Oper}{v:Value}(l:List (Addr × Value))(hc:∀p∈l,w.cell? p.1=some p.2)(ho:ops[i]?=some o)(hw:Region.wanted o (yielded ops a.tmps)=true)
  (hy:∀w',(∀p∈l,w'.cell? p.1=some p.2)->(execOp a.eval o).run P w'=.ok (.value v) w') (h:wpPT P ops Q ((i,fun w'=>∀p∈l,w'.cell? p.1=some p.2)::obl) r (a.put o.dst v) w):wpPT P ops Q obl (.pure i r) a w :=
 ⟨o,v,_,ho,.inl ⟨hw,hy⟩,hc,h⟩
theorem pt_pureA {obl : Obl} {i : Nat} {r : PT} {a a2 : Act} {w : World} {o : Oper} {v : Value} (h : wpPT P ops Q ((i, fun _ => True) :: obl) r a2 w) (ho : ops[i]? = some o := by rfl) (hw : Region.wanted o (yielded ops a.tmps) = true := by rfl)
 (hy : ∀ w', (execOp a.eval o).run P w' = .ok (.value v) w' := by intro w'; simp only [List.getElem_toArray, List.getElem_cons_succ, List.getElem_cons_zero]; go_simp; first | with_reducible rfl | (simp (disch := omega) only [if_pos, if_neg, dif_pos, Result.andThen_ok]; try with_reducible rfl) | skip) (ha : a.put o.dst v = a2 := by (try simp only [List.getElem_toArray, List.getElem_cons_succ, List.getElem_cons_zero, Act.put, List.setIfInBounds_toArray, List.set_cons_zero, List.set_cons_succ]); exact rfl) : wpPT P ops Q obl (.pure i r) a w := by
 subst ha
 exact pt_pure ho hw hy h
theorem pt_cellsA {obl : Obl} {i : Nat} {r : PT} {a a2 : Act} {w : World} {o : Oper} {v : Value} (l : List (Addr × Value)) (h : wpPT P ops Q ((i, fun w' => ∀ p ∈ l, w'.cell? p.1 = some p.2) :: obl) r a2 w) (hc : ∀ p ∈ l, w.cell? p.1 = some p.2 := by simp; and_intros <;> assumption) (ho : ops[i]? = some o := by rfl) (hw : Region.wanted o (yielded ops a.tmps) = true := by rfl)
 (hy : ∀ w', (∀ p ∈ l, w'.cell? p.1 = some p.2) → (execOp a.eval o).run P w' = .ok (.value v) w' := by intro w' hw'; simp only [List.forall_mem_cons, List.not_mem_nil, false_imp_iff, implies_true, and_true] at hw'; simp only [List.getElem_toArray, List.getElem_cons_succ, List.getElem_cons_zero]; go_simp; first | with_reducible rfl | (simp (disch := omega) only [if_pos, if_neg, dif_pos, Result.andThen_ok]; try with_reducible rfl) | skip) (ha : a.put o.dst v = a2 := by (try simp only [List.getElem_toArray, List.getElem_cons_succ, List.getElem_cons_zero, Act.put, List.setIfInBounds_toArray, List.set_cons_zero, List.set_cons_succ]); exact rfl) : wpPT P ops Q obl (.pure i r) a w := by
 subst ha
 exact pt_cells l hc ho hw hy h
theorem pt_ownA {obl : Obl} {d : List Nat} {r : PT} {a' a2 : Act} {w' : World} {K : Act → World → Prop} (hK : ∀ a' w', owed d obl w' → wpPT P ops Q (left d obl) r a' w' → K a' w') (h : wpPT P ops Q (left d obl) r a2 w') (ho : owed d obl w' := by first | (simp <;> (and_intros <;> first | trivial | assumption)) | (simp [owed] <;> (and_intros <;> first | trivial | assumption)) | (simp [owed, left] <;> (and_intros <;> first | trivial | assumption))) (ha : a' = a2 := by (try simp only [List.getElem_toArray, List.getElem_cons_succ, List.getElem_cons_zero, Act.put, List.setIfInBounds_toArray, List.set_cons_zero, List.set_cons_succ]); exact rfl) : K a' w' := by
 subst ha
 exact hK _ _ ho h
theorem pt_eff{obl:Obl}{i:Nat}{d:List Nat}{r:PT}{a:Act}{w:World}{o:Oper}(ho:ops[i]?=some o)(hw:Region.wanted o (yielded ops a.tmps)=true)
  (h:∀K:Act->World->Prop,(∀a' w',owed d obl w'->wpPT P ops Q (left d obl) r a' w'->K a' w')->o.wp P a w K Q):wpPT P ops Q obl (.eff i d r) a w:=by
 refine⟨o,ho,?_⟩
 unfold wpOp
 rw[ho]
 simp only[hw,if_true]
 exact .inl (h _ fun a' w' h1 h2=>⟨h1,h2⟩)
theorem pt_fin{obl:Obl}{p:List (Nat × Option (List Nat))}{a:Act}{w:World}(h:wpPlanE P ops Q obl p a w):wpPT P ops Q obl (.fin p) a w:=h
end
theorem bdN{B:Nat}{w w':World}(h:Below B w w')(n:Nat):Below B w (w'.drewN n):=⟨h.os,h.tape,h.output,h.size,h.block⟩
theorem int_info:(Tryz.prog.info? 3).map (fun i=>(i.zero,i.size,i.bytes))=some (some (.int .i64 0),1,8):=by kernel_rfl
theorem ncells_one(k:IntKind)(l:List Int):∀v∈ncells k l,v.oneCell'=true:=by
 intro v hv
 obtain⟨z,_,rfl⟩:=List.mem_map.1 hv
 rfl
theorem op_appendZ{P:Program}(w:World){o:Oper}{a:Act}{K:Act->World->Prop}{Q:Exit->Act->World->Prop}(s x:Operand)(t e:TypeId){i:TypeInfo}{z:Value}{bytes:Nat}
  (ho:o.op=.call { callee:=.builtin .append,args:=#[s,x],argTypes:=#[t,t] })
  (ht:P.underlying t=some (.slice e)) (hi:P.info? e=some i) (hz0:i.zero=some z) (hz1:i.size=1) (hz2:i.bytes=bytes) (hzs:z.cells.size=1)
  (base:Nat) (A X:Option Addr) (d:Nat) (zs:List Value) (hs:a.eval s=.slice A 0 0) (hx:a.eval x=.slice X zs.length d) (hA:OV w base e A 0 [])
  (hv:RV w X zs) (h1:∀v∈zs,v.oneCell'=true) (hlen:zs.length*bytes<=140737488355328) (hl2:zs.length<=140737488355328) (hbase:base<=w.heap.size)
  (h:∀(A':Option Addr) (c':Nat) (w':World),OV w' base e A' c' zs->Below w.heap.size w w'->K (a.put o.dst (.slice A' zs.length c')) w'):o.wp P a w K Q:=by
 rcases Nat.eq_zero_or_pos zs.length with h0 | h0
 ·have hm0:zs=[]:=List.eq_nil_of_length_eq_zero h0
  subst hm0
  have hrun:(Builtin.append_ #[t,t] o.type #[.slice A 0 0,.slice X 0 d]).run P w=.ok (.slice A 0 0) w:=by
   rcases hA.form with⟨rfl,_,_⟩ | ⟨g,rfl,_,_,_,_⟩
   ·rcases X with _ | X
    ·simp[Builtin.append_,run_underlying ht,sizeOf,typeInfo,hi,Builtin.lenOf,Builtin.firstCells]
    ·have hf:=run_firstCells_some (P:=P) w i.size 0 X 0 d [] (by simp) (by simp)
     simp[Builtin.append_,run_underlying ht,sizeOf,typeInfo,hi,Builtin.lenOf,hf]
   ·rcases X with _ | X
    ·simp[Builtin.append_,run_underlying ht,sizeOf,typeInfo,hi,Builtin.lenOf,Builtin.firstCells,storeCells]
    ·have hf:=run_firstCells_some (P:=P) w i.size 0 X 0 d [] (by simp) (by simp)
     simp[Builtin.append_,run_underlying ht,sizeOf,typeInfo,hi,Builtin.lenOf,hf,storeCells]
  unfold Oper.wp
  simp only[List.length_nil] at hx
  simp only[execOp,ho,resolve,invoke,builtin,Sem.run_bind,Sem.run_pure,Result.andThen_ok,List.map_toArray,List.map_cons,List.map_nil,hs,hx,hrun]
  exact h A 0 w hA (Below.refl _ _)
 ·obtain⟨b,off,rfl,_,hcm⟩:=hv.at_ h0
  have addr:∀j u,zs[j]?=some u->w.cell? ((⟨b,off,none⟩:Addr).add j)=some u:=by
   intro j u hu
   have hadd:(⟨b,off,none⟩:Addr).add j=⟨b,off+j,none⟩:=by unfold Addr.add;split<;>simp_all
   rw[hadd]
   exact hcm j u hu
  have fin:∀cap,zs.length<=cap->cap<=maxLen->∃(w':World),w'=(w.drew.alloc (.cells (#[]++zs.toArray++Builtin.zeroCells z.cells (cap - zs.length)) e)) /\
    OV w' base e (some ⟨w.heap.size,0,none⟩) cap zs/\Below w.heap.size w w':=by
   intro cap c1 c2
   refine⟨_,rfl,?_,(Below.refl _ _).drew.alloc (Nat.le_refl _) _⟩
   refine⟨by simp,.inr ⟨w.heap.size,cap,_,rfl,hbase,heap_alloc_new w.drew _,c1,c2,?_,?_⟩⟩
   ·simp[size_zeroCells,hzs];omega
   ·simp
  obtain⟨cap,w',hrun,hob,hb⟩:∃cap w',(Builtin.append_ #[t,t] o.type #[.slice A 0 0,.slice (some ⟨b,off,none⟩) zs.length d]).run P w=.ok (.slice (some ⟨w.heap.size,0,none⟩) zs.length cap) w' /\
    OV w' base e (some ⟨w.heap.size,0,none⟩) cap zs/\Below w.heap.size w w':=by
   rcases A with _ | ad
   ·have hr:=run_append_nil (P:=P) w t o.type e i z ht hi hz0 ⟨b,off,none⟩ zs.length d zs (by rw[hz1];omega) addr h0 (by omega) (by rw[hz2];omega)
    obtain⟨w',e1,ho1,hb1⟩:=fin (grownCap w zs.length 0 e) (by simpa using grownCap_ge w _ _ _) (grownCap_le_maxLen w _ _ _ (by unfold maxLen;omega))
    refine⟨_,w',?_,ho1,hb1⟩
    rw[e1]
    simpa using hr
   ·have hr:=run_append_grow (P:=P) w t o.type e i z ht hi hz0 ad 0 0 [] (by simp) (by simp) ⟨b,off,none⟩ zs.length d zs (by rw[hz1];omega) addr (by omega) (by omega) (growslice_fits (by omega) (by rw[hz2];simpa using hlen))
    obtain⟨w',e1,ho1,hb1⟩:=fin (grownCap w (0+zs.length) 0 e) (by have:=grownCap_ge w (0+zs.length) 0 e;omega) (grownCap_le_maxLen w _ _ _ (by unfold maxLen;omega))
    refine⟨_,w',?_,ho1,hb1⟩
    rw[e1,hr]
    simp
  unfold Oper.wp
  simp only[execOp,ho,resolve,invoke,builtin,Sem.run_bind,Sem.run_pure,Result.andThen_ok,List.map_toArray,List.map_cons,List.map_nil,hs,hx,hrun]
  exact h _ _ w' hob hb
def NewI(w:World)(l:List Int)(e:Ending)(w':World):Prop :=
 ∃(A:Option Addr) (c:Nat),e=.returned (.slice A l.length c)/\OV w' w.heap.size 3 A c (ncells .i64 l)/\Below w.heap.size w w'
theorem cloneI(A:Option Addr)(c:Nat)(l:List Int)(w:World)(h:RV w A (ncells .i64 l))(hl:l.length<=1000000000000) :
  Calls Tryz.prog 83 #[.slice A l.length c] w (NewI w l):=by
 have hnil:=fun w=>Lib.run_eql_slice_nil (P:=Tryz.prog) w 31 3 A l.length c 0 0 Tryz.underlying31
 have hln:=ncells_length .i64 l
 rcases A with _ | ad
 ·have hl0:l=[]:=by
   rcases Nat.eq_zero_or_pos l.length with h0 | h0
   ·exact List.eq_nil_of_length_eq_zero h0
   ·obtain⟨b,off,e,_⟩:=h.at_ (by omega);cases e
  have HL:=qh hl0
  clear h hl hl0 hln
  go_enter Tryz.func83,Tryz.ntmps83
  go_wp2_with fail
  go_ret
  exact⟨none,0,by rw[HL.out];rfl,by rw[HL.out];exact OV.nil _ _ _,Below.refl _ _⟩
 ·obtain⟨i0,hi0,hz0,hz1,hz2⟩:=info_parts int_info
  have HK:Hid (∀A' c' w',OV w' w.heap.size 3 A' c' (ncells .i64 l)->Below (w.heap.size+1) (w.alloc (.cells #[] 3)) w'->NewI w l (.returned (.slice A' (ncells .i64 l).length c')) w'):=qh fun A' c' w' h1 h2=>⟨A',c',by rw[hln],h1,(Below.alloc (Below.refl _ _) (Nat.le_refl _) _).trans (h2.mono (Nat.le_succ _))⟩
  rw[<-hln] at hnil ⊢
  clear hln
  go_enter Tryz.func83,Tryz.ntmps83
  go_wp2_with (at_builtin;refine wpList_plain rfl (fun K hK=>op_appendZ _ _ _ 31 3 rfl Tryz.underlying31 hi0 hz0 hz1 hz2 rfl w.heap.size _ _ _ (ncells .i64 l) rfl rfl (OV.made0 _ _ (Nat.le_refl _)) (h.below ((Below.refl _ _).alloc (Nat.le_refl _) _)) (ncells_one _ _) (by rw[ncells_length];omega) (by rw[ncells_length];omega) (by simp) ?_);intro A' c' w' h1 h2;refine hK _ _ ?_;have H1:=qh h1;have H2:=qh h2;clear h1 h2 hK)
  go_ret
  exact HK.out _ _ _ H1.out (by have:=H2.out;simpa using this)
theorem conf_size:(Tryz.prog.info? 33).map (·.size)=some 2:=by kernel_rfl
theorem Blk.range{w:World}{g:Nat}{T:TypeId}{cs:Array Value}(h:Blk w g T cs)(o:Nat)(vs:List Value)(hv:∀j v,vs[j]?=some v->cs[o+j]?=some v):w.rangeAt g o vs:=fun j v hj=>h.cell _ (hv j v hj)
theorem any_take{l:List Int}{p:Int->Bool}{k:Nat}(h:k<l.length):(l.take (k+1)).any p=((l.take k).any p || p l[k]):=by
 rw[List.take_succ_eq_append_getElem h,List.any_append];simp
theorem shot_size:(Tryz.prog.info? 36).map (·.size)=some 5:=by kernel_rfl
abbrev shotC(i t:Nat)(v l:List Int)(d:List UInt8)(V:Option Addr)(vc:Nat)(L:Option Addr)(lc:Nat)(D:Option Addr)(dc:Nat):Array Value:=#[.int .u64 (i:Int),.int .u64 (t:Int),.slice V v.length vc,.slice L l.length lc,.slice D d.length dc]
theorem shot_conf{w:World}{g:Nat}{T:TypeId}{i t:Nat}{v l:List Int}{d:List UInt8}{V L D:Option Addr}{vc lc dc:Nat}(h:Blk w g T (shotC i t v l d V vc L lc D dc)):w.rangeAt g 2 [.slice V v.length vc,.slice L l.length lc] :=
 h.range 2 _ (by intro j x hj;match j,hj with | 0,hj=>simpa using hj | 1,hj=>simpa using hj | j+2,hj=>simp at hj)
theorem eq0(i:Nat):((i:Int) == 0)=decide (i=0):=by
 by_cases h:i=0
 ·subst h;rfl
 ·rw[decide_eq_false h];exact beq_eq_false_iff_ne.2 (by omega)
section
variable {w w':World}
theorem idxI(A:Option Addr)(c:Nat)(l:List Int)(n:Int)(w:World)(h:RV w A (ncells .i64 l))(hl:l.length<=9223372036854775807)(r:Bool)(hr:l.contains n=r) :
  Calls Tryz.prog 197 #[.slice A l.length c,.int .i64 n] w fun e w'=>(∃k:Int,e=.returned (.int .i64 k)/\decide (0<=k)=r)/\w'=w:=by
 have HR:=qh h
 have HRR:=qh hr
 clear h hr
 go_enter Tryz.func197,Tryz.ntmps197
 go_wp2_with fail
 go_loop [8] (fun i=>∃k:Nat,k<=l.length/\i=.int .i64 (k:Int)/\Hid (n ∉ l.take k))
  (fun i=>l.length - (intOf i).toNat)
 case atStart=>exact⟨0,Nat.zero_le _,rfl,qh (by simp)⟩
 case round =>
  obtain⟨k,hk,rfl,HK⟩:=hrel
  by_cases hlt:k<l.length
  ·obtain⟨b,off,rfl,hb,hc⟩:=HR.out.int hlt
   by_cases hx:n=l[k]
   ·have HF:Hid (r=true):=qh (by rw[<-HRR.out,List.contains_iff_mem,hx];exact List.getElem_mem hlt)
    have hxb:(n == l[k])=true:=by simpa using hx
    obtain⟨x,hxe⟩:∃x,x=l[k]:=⟨_,rfl⟩
    rw[<-hxe] at hc hxb
    clear hx hxe HK
    go_wp2_with fail
    go_ret
    exact⟨⟨(k:Int),rfl,by rw[HF.out];simp⟩,rfl⟩
   ·have HT:Hid (n ∉ l.take (k+1)):=qh (by
     rw[List.take_succ_eq_append_getElem hlt,List.mem_append,List.mem_singleton]
     exact fun e=>e.elim HK.out hx)
    have hxb:(n == l[k])=false:=by simpa using hx
    obtain⟨x,hxe⟩:∃x,x=l[k]:=⟨_,rfl⟩
    rw[<-hxe] at hc hxb
    clear hx hxe HK
    go_wp2_with fail
    go_round
    case rel=>exact⟨k+1,by omega,by go_num,HT⟩
    case measure=>simp[intOf];omega
  ·have HF:Hid (r=false):=qh (by
    have:=HK.out
    rw[List.take_of_length_le (by omega)] at this
    rw[<-HRR.out,<-Bool.not_eq_true,List.contains_iff_mem]
    exact this)
   clear HK
   go_wp2_with fail
   go_ret
   exact⟨⟨-1,rfl,by rw[HF.out];simp⟩,rfl⟩
theorem containsI(A:Option Addr)(c:Nat)(l:List Int)(n:Int)(w:World)(h:RV w A (ncells .i64 l))(hl:l.length<=9223372036854775807)(r:Bool)(hr:l.contains n=r) :
  Calls Tryz.prog 161 #[.slice A l.length c,.int .i64 n] w fun e w'=>e=.returned (.bool r)/\w'=w:=by
 have IX:=qh (idxI A c l n w h hl r hr)
 clear h hr
 go_enter Tryz.func161,Tryz.ntmps161
 go_wp2_with (go_at_call 197;refine IX.out.mono ?_)
 rintro e w1 ⟨⟨k,rfl,hk⟩,rfl⟩
 go_wp2_with fail
 go_ret
 exact⟨by refine ret_boolB ?_;first | exact hk | simp,rfl⟩
abbrev inLrn(g:Nat):Value:=.func (.func 160) #[] #[.pointer (some ⟨g,0,none⟩)]
theorem inLrnC(g:Nat)(L:Option Addr)(lc:Nat)(l:List Int)(n:Int)(w:World)(h1:w.cell? ⟨g,1,none⟩=some (.slice L l.length lc))(h:RV w L (ncells .i64 l))(hl:l.length<=9223372036854775807)(r:Bool)(hr:l.contains n=r) :
  Calls Tryz.prog 160 #[.int .i64 n,.pointer (some ⟨g,0,none⟩)] w fun e w'=>e=.returned (.bool r)/\w'=w:=by
 have IX:=qh (containsI L lc l n w h hl r hr)
 clear h hr
 go_enter Tryz.func160,Tryz.ntmps160
 go_wp2_with (go_at_call 161;refine IX.out.mono ?_)
 rintro e w1 ⟨rfl,rfl⟩
 go_wp2_with fail
 go_ret
 exact⟨rfl,rfl⟩
theorem idxLrn(g:Nat)(V L:Option Addr)(vc lc:Nat)(v l:List Int)(w:World)(h1:w.cell? ⟨g,1,none⟩=some (.slice L l.length lc))(hv:RV w V (ncells .i64 v))(h:RV w L (ncells .i64 l))(hl:l.length<=9223372036854775807)(hn:v.length<=9223372036854775807)(r:Bool)(hr:(v.any fun n=>l.contains n)=r) :
  Calls Tryz.prog 196 #[.slice V v.length vc,inLrn g] w fun e w'=>(∃k:Int,e=.returned (.int .i64 k)/\decide (0<=k)=r)/\w'=w:=by
 have HR:=qh hv
 have HL:=qh h
 have HRR:=qh hr
 have H1:=qh h1
 clear hv h hr h1
 go_enter Tryz.func196,Tryz.ntmps196
 go_wp2_with fail
 go_loop [8] (fun i=>∃k:Nat,k<=v.length/\i=.int .i64 (k:Int)/\Hid ((v.take k).any (fun n=>l.contains n)=false))
  (fun i=>v.length - (intOf i).toNat)
 case atStart=>exact⟨0,Nat.zero_le _,rfl,qh (by simp)⟩
 case round =>
  obtain⟨k,hk,rfl,HK⟩:=hrel
  by_cases hlt:k<v.length
  ·obtain⟨b,off,rfl,hb,hc⟩:=HR.out.int hlt
   have HS:=qh (any_take (p:=fun n=>l.contains n) hlt)
   obtain⟨x,hxe⟩:∃x,x=v[k]:=⟨_,rfl⟩
   rw[<-hxe] at hc HS
   obtain⟨q,hq⟩:∃q,q=l.contains x:=⟨_,rfl⟩
   have HA:Hid ((v.take (k+1)).any (fun n=>l.contains n)=q):=qh (by rw[HS.out,HK.out,hq];simp)
   have IC:=qh (inLrnC g L lc l x w H1.out HL.out hl q hq.symm)
   clear hq HS HK hxe
   cases q with
   | true =>
    have HF:Hid (r=true):=qh (by
     rw[<-HRR.out]
     have h1:=HA.out
     rw[List.any_eq_true] at h1 ⊢
     obtain⟨y,hy,h2⟩:=h1
     exact⟨y,List.mem_of_mem_take hy,h2⟩)
    go_wp2_with fail
    refine IC.out.mono ?_
    rintro e w1 ⟨rfl,rfl⟩
    go_wp2_with fail
    go_ret
    exact⟨⟨(k:Int),rfl,by rw[HF.out];simp⟩,rfl⟩
   | false =>
    go_wp2_with fail
    refine IC.out.mono ?_
    rintro e w1 ⟨rfl,rfl⟩
    go_wp2_with fail
    go_round
    case rel=>exact⟨k+1,by omega,by go_num,HA⟩
    case measure=>simp[intOf];omega
  ·have HF:Hid (r=false):=qh (by have:=HK.out;rw[List.take_of_length_le (by omega)] at this;rw[<-HRR.out];exact this)
   clear HK
   go_wp2_with fail
   go_ret
   exact⟨⟨-1,rfl,by rw[HF.out];simp⟩,rfl⟩
theorem anyLrn(g:Nat)(V L:Option Addr)(vc lc:Nat)(v l:List Int)(w:World)(h1:w.cell? ⟨g,1,none⟩=some (.slice L l.length lc))(hv:RV w V (ncells .i64 v))(h:RV w L (ncells .i64 l))(hl:l.length<=9223372036854775807)(hn:v.length<=9223372036854775807)(r:Bool)(hr:(v.any fun n=>l.contains n)=r) :
  Calls Tryz.prog 159 #[.slice V v.length vc,inLrn g] w fun e w'=>e=.returned (.bool r)/\w'=w:=by
 have IX:=qh (idxLrn g V L vc lc v l w h1 hv h hl hn r hr)
 clear h hr h1 hv
 go_enter Tryz.func159,Tryz.ntmps159
 go_wp2_with (go_at_call 196;refine IX.out.mono ?_)
 rintro e w1 ⟨⟨k,rfl,hk⟩,rfl⟩
 go_wp2_with fail
 go_ret
 exact⟨by refine ret_boolB ?_;first | exact hk | simp,rfl⟩
theorem msgConfOK(V L:Option Addr)(vc lc:Nat)(v l:List Int)(w:World)(hv:RV w V (ncells .i64 v))(hl:RV w L (ncells .i64 l))(hn:v.length<=9223372036854775807)(hm:l.length<=9223372036854775807)(r:Bool)(hr:confB v l=r) :
  Calls Tryz.prog 157 #[.agg #[.slice V v.length vc,.slice L l.length lc]] w fun e w'=>e=.returned (.bool r)/\Below w.heap.size w w':=by
 have hal:Below w.heap.size w (w.alloc (.cells #[.slice V v.length vc,.slice L l.length lc] 33)):=(Below.refl _ _).alloc (Nat.le_refl _) _
 have hZ:=Blk.new w #[.slice V v.length vc,.slice L l.length lc] 33
 obtain⟨r1,hr1⟩:∃r1,r1=risesB v:=⟨_,rfl⟩
 obtain⟨r2,hr2⟩:∃r2,r2=risesB l:=⟨_,rfl⟩
 obtain⟨r3,hr3⟩:∃r3,r3=(v.any fun n=>l.contains n):=⟨_,rfl⟩
 have R1:=qh (msgRises V vc v _ (hv.below hal) hn)
 have R2:=qh (msgRises L lc l _ (hl.below hal) hm)
 have R3:=qh (anyLrn w.heap.size V L vc lc v l _ (hZ.cell 1 rfl) (hv.below hal) (hl.below hal) hm hn r3 hr3.symm)
 have HF:Hid (r=(r1 && r2 && decide (0<v.length) && !r3)):=qh (by rw[<-hr];unfold confB;rw[hr1,hr2,hr3])
 rw[<-hr1] at R1
 rw[<-hr2] at R2
 have HAL:=qh hal
 clear hv hl hr hr1 hr2 hr3 hal hZ
 go_enter Tryz.func157,Tryz.ntmps157
 go_wp2_with (go_at_call 158;refine R1.out.mono ?_)
 rintro e w1 ⟨rfl,rfl⟩
 cases r1 with
 | false =>
  go_wp2_with fail
  go_ret
  exact⟨by rw[HF.out];rfl,HAL.out⟩
 | true =>
  go_wp2_with (go_at_call 158;refine R2.out.mono ?_)
  rintro e w1 ⟨rfl,rfl⟩
  cases r2 with
  | false =>
   go_wp2_with fail
   go_ret
   exact⟨by rw[HF.out];rfl,HAL.out⟩
  | true =>
   by_cases h0:0<v.length
   ·have HF':Hid (r=!r3):=qh (by rw[HF.out];simp[h0])
    clear HF
    have h0z:(0:Int)<(v.length:Int):=by omega
    go_wp2_with (go_at_call 159;refine R3.out.mono ?_)
    rintro e w1 ⟨rfl,rfl⟩
    go_wp2_with fail
    go_ret
    exact⟨by rw[HF'.out];refine ret_boolB ?_;simp,HAL.out⟩
   ·have HF':Hid (r=false):=qh (by rw[HF.out];simp[h0])
    clear HF
    go_wp2_with fail
    go_ret
    exact⟨by rw[HF'.out];rfl,HAL.out⟩
theorem msgConfW(B o:Nat)(q:List UInt8)(V L:Option Addr)(vc lc:Nat)(v l:List Int)(w:World)(h:OutAt B o w q)(hB:B<=w.heap.size)(hBo:o<B)(hv:RV w V (ncells .i64 v))(hl:RV w L (ncells .i64 l))(hv1:∀n∈v,0<=n/\n<=1000000)(hl1:∀n∈l,0<=n/\n<=1000000)(hn:v.length<=1000)(hm:l.length<=1000)
  (hV:0<v.length->∀b,V.map (·.block)=some b->b≠o) (hL:0<l.length->∀b,L.map (·.block)=some b->b≠o) (hq:q.length<=100000000) :
  Calls Tryz.prog 162 #[.pointer (some ⟨o,0,none⟩),.agg #[.slice V v.length vc,.slice L l.length lc]] w (OutE B o (q++idsB v++idsB l) w):=by
 have hal:Below w.heap.size w (w.alloc (.cells #[.slice V v.length vc,.slice L l.length lc] 33)):=(Below.refl _ _).alloc (Nat.le_refl _) _
 have hZ:=Blk.new w #[.slice V v.length vc,.slice L l.length lc] 33
 have I1:=qh (outIds B o q V vc v _ (h.below hal) (Nat.le_trans hB hal.size) hBo (hv.below hal) hV hv1 (by omega) (by omega))
 have HZ:=qh hZ
 have hlo:=h.lt
 have HL:=qh (hl.below hal)
 have HLo:=qh hL
 have HL1:=qh hl1
 have HAL:=qh hal
 have hsz:=hal.size
 have hq2:(q++idsB v).length<=100000000+9+9*1000:=by
  unfold idsB
  have h1:=putNums_len [(v.length:Int)]
  have h2:=putNums_len v
  simp only[List.length_append,List.length_cons,List.length_nil] at h1 ⊢
  omega
 clear hv hl hal h hV hL hl1 hv1 hZ
 go_enter Tryz.func162,Tryz.ntmps162
 go_wp2_with (go_at_call 163;refine I1.out.mono ?_)
 rintro e w1 ⟨rfl,h1,m1⟩
 have z1:=(HZ.out.mods m1 (by omega)).cell 1 rfl
 have I2:=qh (outIds B o _ L lc l w1 h1 (Nat.le_trans (Nat.le_trans hB hsz) m1.size) hBo (rv_mods HL.out m1 (fun h0 b hb=>HLo.out (by rw[ncells_length] at h0;exact h0) b hb)) HLo.out HL1.out (by omega) (by omega))
 have M1:=qh ((Mods.of_below (S:=(·=o)) HAL.out).then m1)
 clear h1 m1 I1
 go_wp2_with (go_at_call 163;refine I2.out.mono ?_)
 rintro e w2 ⟨rfl,h2,m2⟩
 go_wp2_with fail
 go_end0
 exact⟨rfl,h2,M1.out.then m2⟩
end
end Go.Proofs.YtobdmlejabjmiaaGreatDoor
