/- Made small by a program. -/
import Derived.Test.YtobdmlejabjmiaaGreatDoorZc09
import Derived.Sort.EncStr
import Derived.Laws.Strings
set_option maxRecDepth 20000
set_option maxHeartbeats 8000000
namespace Go.Proofs.YtobdmlejabjmiaaGreatDoor
open Go.RowKit Go.MapKept
section
variable {K:Type} [DecidableEq K] {P:Program} {T M E:TypeId} {kv:K->Value} {m:Nat} {es:List (K × Value)} {ops:Array Oper} {rest:List Oper} {o:Oper} {a:Act} {Q:Exit->Act->World->Prop}
theorem zbn(w:World)(hg:o.guard=none)(law:KeyLaw P T kv)(h:MapAt kv w m es)(mo ko vo:Operand)(ho:o.op=.mapUpdate M mo ko vo)(hM:P.underlying M=some (.map T E))(k:K)(v:Value)(hm:a.eval mo=.map (some m))(hk:a.eval ko=kv k)(hv:a.eval vo=v)
  (hN:∀ob,MapAt kv (wset w m ob) m (mput es k v)->wpList P ops Q rest (a.put o.dst undef) (wset w m ob)):wpList P ops Q (o::rest) a w :=
 wpList_plain hg fun _ hK=>xF law h mo ko vo ho hM k v hm hk hv fun ob hmap=>hK _ _ (hN ob hmap)
theorem yC(p:K × Value)(es:List (K × Value))(k:K):mget (p::es) k=if p.1=k then some p.2 else mget es k:=by
 unfold mget;rw[List.find?_cons];by_cases h:p.1=k<;>simp[h]
theorem qv(es:List (K × Value))(k y:K)(v:Value)(h:k ∉ es.map Prod.fst):mget (es++[(k,v)]) y=if y=k then some v else mget es y:=by
 induction es with
 | nil=>rw[List.nil_append,yC];by_cases e:k=y<;>simp[e,mget,Ne.symm,eq_comm]
 | cons p es ih =>
  rw[List.map_cons,List.mem_cons,not_or] at h;rw[List.cons_append,yC,yC,ih h.2];by_cases e:p.1=y
  ·rw[if_pos e,if_pos e,if_neg];rintro rfl;exact h.1 e.symm
  ·rw[if_neg e,if_neg e]
theorem xQ(es:List (K × Value))(k y:K)(v:Value):mget (mput es k v) y=if y=k then some v else mget es y:=by
 unfold mput;by_cases hk:k∈es.map Prod.fst
 ·rw[if_pos hk]
  induction es with
  | nil=>simp at hk
  | cons p es ih =>
   rw[List.map_cons,yC,yC];by_cases hp:p.1=k
   ·rw[if_pos hp];by_cases e:y=k
    ·subst e;simp
    ·rw[if_neg (Ne.symm e),if_neg e,if_neg (fun h=>e (by rw[<-h,hp]))];by_cases hk2:k∈es.map Prod.fst
     ·rw[ih hk2,if_neg e]
     ·congr 1;rw[List.map_congr_left (g:=id) (fun q hq=>?_),List.map_id];rw[if_neg]
      ·rfl
      ·intro h;exact hk2 (by rw[<-h];exact List.mem_map.2 ⟨q,hq,rfl⟩)
   ·rw[if_neg hp];have hk2:k∈es.map Prod.fst:=by
     rw[List.map_cons,List.mem_cons] at hk
     rcases hk with h | h
     ·exact absurd h.symm hp
     ·exact h
    rw[ih hk2];by_cases e:p.1=y
    ·rw[if_pos e,if_pos e,if_neg (fun h=>hp (by rw[e,h]))]
    ·rw[if_neg e,if_neg e]
 ·rw[if_neg hk,qv es k y v hk]
theorem qx{k:K}:(mget es k).isSome=true ↔ k∈es.map Prod.fst:=by
 constructor
 ·intro h;obtain⟨v,hv⟩:=Option.isSome_iff_exists.1 h;exact List.mem_map.2 ⟨(k,v),zc4 hv,rfl⟩
 ·intro h;cases hm:mget es k with
  | none=>exact absurd h (zbA.1 hm)
  | some v=>rfl
end
end Go.Proofs.YtobdmlejabjmiaaGreatDoor
namespace Go.Proofs.YtobdmlejabjmiaaGreatDoor
open Go.RowKit
structure TM(bad:Obj->Prop)(w w':World):Prop where
 size:w.heap.size<=w'.heap.size
 block:∀(b:Nat) (o:Obj),w.heap[b]?=some o->¬bad o->w'.heap[b]?=some o
end Go.Proofs.YtobdmlejabjmiaaGreatDoor
namespace Go.Proofs.YtobdmlejabjmiaaGreatDoor
abbrev Nm:=List UInt8
abbrev FS:=List (Nm × List UInt8)
structure Wr where
 kind:Int
 name:Nm
 off:Nat
 data:List UInt8
def resizeD(b:List UInt8)(n:Nat):List UInt8:=b.take n++List.replicate (n - b.length) 0
def putD(b:List UInt8)(off:Nat)(d:List UInt8):List UInt8 :=
 (resizeD b (max b.length (off+d.length))).take off++d++(resizeD b (max b.length (off+d.length))).drop (off+d.length)
theorem xx(b:List UInt8)(n:Nat):(resizeD b n).length=n:=by
 unfold resizeD;rw[List.length_append,List.length_take,List.length_replicate];omega
theorem za4(b:List UInt8)(off:Nat)(d:List UInt8):(putD b off d).length=max b.length (off+d.length):=by
 unfold putD;rw[List.length_append,List.length_append,List.length_take,List.length_drop,xx];omega
def fget(F:FS)(n:Nm):Option (List UInt8):=(F.find? (fun p=>p.1=n)).map Prod.snd
def fset:FS->Nm->List UInt8->FS
 | [],n,b=>[(n,b)]
 | (m,c)::r,n,b=>if m<n then(m,c)::fset r n b else if m=n then(n,b)::r else(n,b)::(m,c)::r
def fdel(F:FS)(n:Nm):FS:=F.filter (fun p=>p.1≠n)
def Rising(F:FS):Prop:=F.Pairwise (fun p q=>p.1<q.1)
def fsize(F:FS):Nat:=(F.map (fun p=>p.2.length)).sum
def doF(F:FS)(w:Wr):FS :=
 if w.kind=1 then fset F w.name (putD ((fget F w.name).getD []) w.off w.data)
 else if w.kind=2 then fset F w.name (resizeD ((fget F w.name).getD []) w.off)
 else if w.kind=3 then fdel F w.name else F
theorem zY(a:Nm):¬a<a:=List.lt_irrefl a
theorem za0{a b c:Nm}(h:a<b)(k:b<c):a<c:=List.lt_trans h k
theorem nm_tri(a b:Nm)(h:¬a<b)(hne:a≠b):b<a:=by
 rcases List.le_total a b with h1 | h1
 ·rcases Nat.lt_or_ge 0 1 with _ | _
  ·exact absurd (List.le_antisymm h1 (List.not_lt.1 h)) hne
  ·omega
 ·by_cases h2:b<a
  ·exact h2
  ·exact absurd (List.le_antisymm (List.not_lt.1 h2) h1) hne
theorem zJ(p:Nm × List UInt8)(F:FS)(n:Nm):fget (p::F) n=if p.1=n then some p.2 else fget F n:=by
 unfold fget;rw[List.find?_cons];by_cases h:p.1=n
 ·simp[h]
 ·simp[h]
theorem xC(F:FS)(n:Nm)(b:List UInt8)(m:Nm):fget (fset F n b) m=if m=n then some b else fget F m:=by
 induction F with
 | nil =>
  rw[fset,zJ];by_cases h:n=m
  ·subst h;simp
  ·rw[if_neg h,if_neg (fun e=>h e.symm)]
 | cons p r ih =>
  obtain⟨k,c⟩:=p;rw[fset];split
  ·rename_i hk;rw[zJ,zJ,ih];by_cases h:k=m
   ·subst h;simp only[if_pos];rw[if_neg (fun e=>by subst e;exact zY _ hk)]
   ·simp only[if_neg h]
  ·split
   ·rename_i hk;subst hk;rw[zJ,zJ];by_cases h:k=m
    ·subst h;simp
    ·simp only[if_neg h];rw[if_neg (fun e=>h e.symm)]
   ·rw[zJ];by_cases h:n=m
    ·subst h;simp
    ·simp only[if_neg h];rw[if_neg (fun e=>h e.symm)]
theorem ji(F:FS)(n m:Nm):fget (fdel F n) m=if m=n then none else fget F m:=by
 induction F with
 | nil=>simp[fdel,fget]
 | cons p r ih =>
  unfold fdel at ih ⊢;rw[List.filter_cons];by_cases h:p.1=n
  ·rw[if_neg (by simpa using h),ih,zJ];by_cases hm:m=n
   ·simp only[if_pos hm]
   ·rw[if_neg hm,if_neg hm,if_neg (fun e=>hm (by rw[<-e,h]))]
  ·rw[if_pos (by simpa using h),zJ,zJ,ih];by_cases hm:p.1=m
   ·rw[if_pos hm,if_pos hm,if_neg (fun e=>h (by rw[hm,e]))]
   ·rw[if_neg hm,if_neg hm]
theorem fset_mem{F:FS}{n:Nm}{b:List UInt8}{p:Nm × List UInt8}(h:p∈fset F n b):p=(n,b)\/p∈F:=by
 induction F with
 | nil=>rw[fset] at h;simpa using h
 | cons q r ih =>
  obtain⟨k,c⟩:=q;rw[fset] at h;split at h
  ·rcases List.mem_cons.1 h with h | h
   ·exact .inr (by rw[h];simp)
   ·rcases ih h with h | h
    ·exact .inl h
    ·exact .inr (List.mem_cons_of_mem _ h)
  ·split at h
   ·rcases List.mem_cons.1 h with h | h
    ·exact .inl h
    ·exact .inr (List.mem_cons_of_mem _ h)
   ·rcases List.mem_cons.1 h with h | h
    ·exact .inl h
    ·exact .inr h
theorem zcA{F:FS}(h:Rising F)(n:Nm)(b:List UInt8):Rising (fset F n b):=by
 induction F with
 | nil=>rw[fset];exact List.pairwise_singleton _ _
 | cons q r ih =>
  obtain⟨k,c⟩:=q;have h':=List.pairwise_cons.1 h;rw[fset];split
  ·rename_i hk;refine List.pairwise_cons.2 ⟨fun p hp=>?_,ih h'.2⟩
   rcases fset_mem hp with hp | hp
   ·rw[hp];exact hk
   ·exact h'.1 p hp
  ·rename_i hk;split
   ·rename_i hk2;subst hk2;exact List.pairwise_cons.2 ⟨h'.1,h'.2⟩
   ·rename_i hk2;have hlt:=nm_tri k n hk hk2;refine List.pairwise_cons.2 ⟨fun p hp=>?_,h⟩
    rcases List.mem_cons.1 hp with hp | hp
    ·rw[hp];exact hlt
    ·exact za0 hlt (h'.1 p hp)
theorem zcz{F:FS}(h:Rising F)(n:Nm):Rising (fdel F n):=h.sublist List.filter_sublist
theorem yF{F:FS}(h:Rising F):(F.map Prod.fst).Nodup:=by
 unfold List.Nodup;rw[List.pairwise_map];exact h.imp fun {p q} hpq e=>by rw[e] at hpq;exact zY _ hpq
theorem zcW{F:FS}{n:Nm}{b:List UInt8}(h:fget F n=some b):(n,b)∈F:=by
 unfold fget at h;obtain⟨p,hp,hb⟩:=Option.map_eq_some_iff.1 h;have h1:=List.mem_of_find?_eq_some hp;have h2:=List.find?_some hp;simp at h2;rw[<-h2,<-hb];exact h1
theorem xY{F:FS}(hn:(F.map Prod.fst).Nodup){n:Nm}{b:List UInt8}(h:(n,b)∈F):fget F n=some b:=by
 induction F with
 | nil=>simp at h
 | cons p r ih =>
  rw[List.map_cons,List.nodup_cons] at hn;rw[zJ]
  rcases List.mem_cons.1 h with h | h
  ·subst h;simp
  ·rw[if_neg,ih hn.2 h];intro e;exact hn.1 (e▸List.mem_map.2 ⟨_,h,rfl⟩)
theorem zeC{F:FS}{n:Nm}:fget F n=none ↔ n ∉ F.map Prod.fst:=by
 unfold fget;rw[Option.map_eq_none_iff,List.find?_eq_none];constructor
 ·intro h hm;obtain⟨p,hp,e⟩:=List.mem_map.1 hm;exact h p hp (by simpa using e)
 ·intro h p hp e;exact h (List.mem_map.2 ⟨p,hp,by simpa using e⟩)
def bitAt(mask:Nat)(k:Nat):Bool:=mask / 2 ^ (k % 64) % 2 == 1
def keepAt(mask:Nat):Nat->List Wr->List Wr
 | _,[]=>[]
 | k,u::r=>if bitAt mask k=true then u::keepAt mask (k+1) r else keepAt mask (k+1) r
def isPut(u:Wr):Bool:=u.kind == 1
def cutW(torn:Int)(u:Wr):Wr:=if 0<=torn/\torn<(u.data.length:Int) then { u with data:=u.data.take torn.toNat } else u
def cutLast(torn:Int):List Wr->List Wr
 | []=>[]
 | u::r=>if r.any isPut=true then u::cutLast torn r else if isPut u=true then cutW torn u::r else u::r
def fallUs(mask:Nat)(torn:Int)(us:List Wr):List Wr:=cutLast torn (keepAt mask 0 us)
theorem qm(mask:Nat)(u:Wr):∀(l:List Wr) (k:Nat),keepAt mask k (l++[u])=keepAt mask k l++if bitAt mask (k+l.length)=true then [u] else []
 | [],k=>by simp[keepAt]
 | a::r,k=>by
  have ih:=qm mask u r (k+1);rw[List.cons_append,keepAt,keepAt,ih,List.length_cons,show k+1+r.length=k+(r.length+1) from by omega];split<;>simp
def lastIx:List Wr->Int
 | []=>-1
 | u::r=>if r.any isPut=true then lastIx r+1 else if isPut u=true then 0 else -1
theorem zcj:∀(l:List Wr),l.any isPut=false->lastIx l=-1
 | [],_=>rfl
 | u::r,h=>by
  rw[List.any_cons,Bool.or_eq_false_iff] at h;rw[lastIx,if_neg (by rw[h.2];simp),if_neg (by rw[h.1];simp)]
theorem x7:∀(l:List Wr),l.any isPut=true->0<=lastIx l/\lastIx l<(l.length:Int)
 | [],h=>by simp at h
 | u::r,h=>by
  rw[lastIx,List.length_cons];by_cases hr:r.any isPut=true
  ·have:=x7 r hr;rw[if_pos hr];omega
  ·rw[if_neg hr,if_pos (by rw[List.any_cons] at h;simpa [hr] using h)];omega
theorem x6(u:Wr):∀(l:List Wr),lastIx (l++[u])=if isPut u=true then(l.length:Int) else lastIx l
 | []=>by simp[lastIx]
 | a::r=>by
  have ih:=x6 u r;rw[List.cons_append,lastIx,ih,List.any_append,List.length_cons,lastIx];by_cases hu:isPut u=true
  ·simp[hu]
  ·simp[hu]
theorem zaj(torn:Int):∀(l:List Wr),cutLast torn l=if h:0<=lastIx l/\(lastIx l).toNat<l.length then l.set (lastIx l).toNat (cutW torn l[(lastIx l).toNat]) else l
 | []=>by simp[cutLast]
 | u::r=>by
  have ih:=zaj torn r;by_cases hr:r.any isPut=true
  ·have hs:=x7 r hr;have e:lastIx (u::r)=lastIx r+1:=(by rw[lastIx,if_pos hr]);have e2:(lastIx r+1).toNat=(lastIx r).toNat+1:=(by omega);rw[cutLast,if_pos hr,ih,dif_pos (by omega),dif_pos (by rw[e,e2,List.length_cons];omega)];simp only[e,e2,List.set_cons_succ,List.getElem_cons_succ]
  ·by_cases hp:isPut u=true
   ·have e:lastIx (u::r)=0:=(by rw[lastIx,if_neg hr,if_pos hp]);rw[cutLast,if_neg hr,if_pos hp,dif_pos (by rw[e];simp)];simp[e]
   ·have e:lastIx (u::r)=-1:=(by rw[lastIx,if_neg hr,if_neg hp]);rw[cutLast,if_neg hr,if_neg hp,dif_neg (by rw[e];simp)]
end Go.Proofs.YtobdmlejabjmiaaGreatDoor
