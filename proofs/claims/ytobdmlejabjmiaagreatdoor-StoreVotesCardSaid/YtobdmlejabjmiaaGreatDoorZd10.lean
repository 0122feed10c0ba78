/- Made small by a program. -/
import Derived.Sort.EncStr
import Derived.Laws.Strings
set_option maxRecDepth 20000
set_option maxHeartbeats 8000000
namespace Go.Proofs.YtobdmlejabjmiaaGreatDoor
abbrev Nm:=List UInt8
abbrev FS:=List (Nm × List UInt8)
structure Wr where
 kind:Int
 name:Nm
 off:Nat
 data:List UInt8
def resizeD(b:List UInt8)(n:Nat):List UInt8:=b.take n++List.replicate (n - b.length) 0
def putD(b:List UInt8)(off:Nat)(d:List UInt8):List UInt8 :=
 (resizeD b (max b.length (off+d.length))).take off++d++(resizeD b (max b.length (off+d.length))).drop (off+d.length)
theorem resizeD_len(b:List UInt8)(n:Nat):(resizeD b n).length=n:=by
 unfold resizeD;rw[List.length_append,List.length_take,List.length_replicate];omega
theorem putD_len(b:List UInt8)(off:Nat)(d:List UInt8):(putD b off d).length=max b.length (off+d.length):=by
 unfold putD
 rw[List.length_append,List.length_append,List.length_take,List.length_drop,resizeD_len]
 omega
def fget(F:FS)(n:Nm):Option (List UInt8):=(F.find? (fun p=>p.1=n)).map Prod.snd
def fset:FS->Nm->List UInt8->FS
 | [],n,b=>[(n,b)]
 | (m,c)::r,n,b=>if m<n then(m,c)::fset r n b else if m=n then(n,b)::r else(n,b)::(m,c)::r
def fdel(F:FS)(n:Nm):FS:=F.filter (fun p=>p.1≠n)
def Rising(F:FS):Prop:=F.Pairwise (fun p q=>p.1<q.1)
def fsize(F:FS):Nat:=(F.map (fun p=>p.2.length)).sum
def doF(F:FS)(w:Wr):FS :=
 if w.kind=1 then fset F w.name (putD ((fget F w.name).getD []) w.off w.data)
 else if w.kind=2 then fset F w.name (resizeD ((fget F w.name).getD []) w.off)
 else if w.kind=3 then fdel F w.name else F
theorem nm_lt_irrefl(a:Nm):¬a<a:=List.lt_irrefl a
theorem nm_trans{a b c:Nm}(h:a<b)(k:b<c):a<c:=List.lt_trans h k
theorem nm_tri(a b:Nm)(h:¬a<b)(hne:a≠b):b<a:=by
 rcases List.le_total a b with h1 | h1
 ·rcases Nat.lt_or_ge 0 1 with _ | _
  ·exact absurd (List.le_antisymm h1 (List.not_lt.1 h)) hne
  ·omega
 ·by_cases h2:b<a
  ·exact h2
  ·exact absurd (List.le_antisymm (List.not_lt.1 h2) h1) hne
theorem fget_cons(p:Nm × List UInt8)(F:FS)(n:Nm):fget (p::F) n=if p.1=n then some p.2 else fget F n:=by
 unfold fget
 rw[List.find?_cons]
 by_cases h:p.1=n
 ·simp[h]
 ·simp[h]
theorem fget_fset(F:FS)(n:Nm)(b:List UInt8)(m:Nm):fget (fset F n b) m=if m=n then some b else fget F m:=by
 induction F with
 | nil =>
  rw[fset,fget_cons]
  by_cases h:n=m
  ·subst h;simp
  ·rw[if_neg h,if_neg (fun e=>h e.symm)]
 | cons p r ih =>
  obtain⟨k,c⟩:=p
  rw[fset]
  split
  ·rename_i hk
   rw[fget_cons,fget_cons,ih]
   by_cases h:k=m
   ·subst h
    simp only[if_pos]
    rw[if_neg (fun e=>by subst e;exact nm_lt_irrefl _ hk)]
   ·simp only[if_neg h]
  ·split
   ·rename_i hk
    subst hk
    rw[fget_cons,fget_cons]
    by_cases h:k=m
    ·subst h;simp
    ·simp only[if_neg h];rw[if_neg (fun e=>h e.symm)]
   ·rw[fget_cons]
    by_cases h:n=m
    ·subst h;simp
    ·simp only[if_neg h];rw[if_neg (fun e=>h e.symm)]
theorem fget_fdel(F:FS)(n m:Nm):fget (fdel F n) m=if m=n then none else fget F m:=by
 induction F with
 | nil=>simp[fdel,fget]
 | cons p r ih =>
  unfold fdel at ih ⊢
  rw[List.filter_cons]
  by_cases h:p.1=n
  ·rw[if_neg (by simpa using h),ih,fget_cons]
   by_cases hm:m=n
   ·simp only[if_pos hm]
   ·rw[if_neg hm,if_neg hm,if_neg (fun e=>hm (by rw[<-e,h]))]
  ·rw[if_pos (by simpa using h),fget_cons,fget_cons,ih]
   by_cases hm:p.1=m
   ·rw[if_pos hm,if_pos hm,if_neg (fun e=>h (by rw[hm,e]))]
   ·rw[if_neg hm,if_neg hm]
theorem fset_mem{F:FS}{n:Nm}{b:List UInt8}{p:Nm × List UInt8}(h:p∈fset F n b):p=(n,b)\/p∈F:=by
 induction F with
 | nil=>rw[fset] at h;simpa using h
 | cons q r ih =>
  obtain⟨k,c⟩:=q
  rw[fset] at h
  split at h
  ·rcases List.mem_cons.1 h with h | h
   ·exact .inr (by rw[h];simp)
   ·rcases ih h with h | h
    ·exact .inl h
    ·exact .inr (List.mem_cons_of_mem _ h)
  ·split at h
   ·rcases List.mem_cons.1 h with h | h
    ·exact .inl h
    ·exact .inr (List.mem_cons_of_mem _ h)
   ·rcases List.mem_cons.1 h with h | h
    ·exact .inl h
    ·exact .inr h
theorem rising_fset{F:FS}(h:Rising F)(n:Nm)(b:List UInt8):Rising (fset F n b):=by
 induction F with
 | nil=>rw[fset];exact List.pairwise_singleton _ _
 | cons q r ih =>
  obtain⟨k,c⟩:=q
  have h':=List.pairwise_cons.1 h
  rw[fset]
  split
  ·rename_i hk
   refine List.pairwise_cons.2 ⟨fun p hp=>?_,ih h'.2⟩
   rcases fset_mem hp with hp | hp
   ·rw[hp];exact hk
   ·exact h'.1 p hp
  ·rename_i hk
   split
   ·rename_i hk2
    subst hk2
    exact List.pairwise_cons.2 ⟨h'.1,h'.2⟩
   ·rename_i hk2
    have hlt:=nm_tri k n hk hk2
    refine List.pairwise_cons.2 ⟨fun p hp=>?_,h⟩
    rcases List.mem_cons.1 hp with hp | hp
    ·rw[hp];exact hlt
    ·exact nm_trans hlt (h'.1 p hp)
theorem rising_fdel{F:FS}(h:Rising F)(n:Nm):Rising (fdel F n):=h.sublist List.filter_sublist
theorem rising_nodup{F:FS}(h:Rising F):(F.map Prod.fst).Nodup:=by
 unfold List.Nodup
 rw[List.pairwise_map]
 exact h.imp fun {p q} hpq e=>by rw[e] at hpq;exact nm_lt_irrefl _ hpq
theorem fget_mem{F:FS}{n:Nm}{b:List UInt8}(h:fget F n=some b):(n,b)∈F:=by
 unfold fget at h
 obtain⟨p,hp,hb⟩:=Option.map_eq_some_iff.1 h
 have h1:=List.mem_of_find?_eq_some hp
 have h2:=List.find?_some hp
 simp at h2
 rw[<-h2,<-hb]
 exact h1
theorem fget_of_mem{F:FS}(hn:(F.map Prod.fst).Nodup){n:Nm}{b:List UInt8}(h:(n,b)∈F):fget F n=some b:=by
 induction F with
 | nil=>simp at h
 | cons p r ih =>
  rw[List.map_cons,List.nodup_cons] at hn
  rw[fget_cons]
  rcases List.mem_cons.1 h with h | h
  ·subst h;simp
  ·rw[if_neg,ih hn.2 h]
   intro e
   exact hn.1 (e▸List.mem_map.2 ⟨_,h,rfl⟩)
theorem fget_none{F:FS}{n:Nm}:fget F n=none ↔ n ∉ F.map Prod.fst:=by
 unfold fget
 rw[Option.map_eq_none_iff,List.find?_eq_none]
 constructor
 ·intro h hm
  obtain⟨p,hp,e⟩:=List.mem_map.1 hm
  exact h p hp (by simpa using e)
 ·intro h p hp e
  exact h (List.mem_map.2 ⟨p,hp,by simpa using e⟩)
def bitAt(mask:Nat)(k:Nat):Bool:=mask / 2 ^ (k % 64) % 2 == 1
def keepAt(mask:Nat):Nat->List Wr->List Wr
 | _,[]=>[]
 | k,u::r=>if bitAt mask k=true then u::keepAt mask (k+1) r else keepAt mask (k+1) r
def isPut(u:Wr):Bool:=u.kind == 1
def cutW(torn:Int)(u:Wr):Wr:=if 0<=torn/\torn<(u.data.length:Int) then { u with data:=u.data.take torn.toNat } else u
def cutLast(torn:Int):List Wr->List Wr
 | []=>[]
 | u::r=>if r.any isPut=true then u::cutLast torn r else if isPut u=true then cutW torn u::r else u::r
def fallUs(mask:Nat)(torn:Int)(us:List Wr):List Wr:=cutLast torn (keepAt mask 0 us)
theorem keepAt_snoc(mask:Nat)(u:Wr):∀(l:List Wr) (k:Nat),keepAt mask k (l++[u])=keepAt mask k l++if bitAt mask (k+l.length)=true then [u] else []
 | [],k=>by simp[keepAt]
 | a::r,k=>by
  have ih:=keepAt_snoc mask u r (k+1)
  rw[List.cons_append,keepAt,keepAt,ih,List.length_cons,show k+1+r.length=k+(r.length+1) from by omega]
  split<;>simp
def lastIx:List Wr->Int
 | []=>-1
 | u::r=>if r.any isPut=true then lastIx r+1 else if isPut u=true then 0 else -1
theorem lastIx_none:∀(l:List Wr),l.any isPut=false->lastIx l=-1
 | [],_=>rfl
 | u::r,h=>by
  rw[List.any_cons,Bool.or_eq_false_iff] at h
  rw[lastIx,if_neg (by rw[h.2];simp),if_neg (by rw[h.1];simp)]
theorem lastIx_some:∀(l:List Wr),l.any isPut=true->0<=lastIx l/\lastIx l<(l.length:Int)
 | [],h=>by simp at h
 | u::r,h=>by
  rw[lastIx,List.length_cons]
  by_cases hr:r.any isPut=true
  ·have:=lastIx_some r hr
   rw[if_pos hr]
   omega
  ·rw[if_neg hr,if_pos (by rw[List.any_cons] at h;simpa [hr] using h)]
   omega
theorem lastIx_snoc(u:Wr):∀(l:List Wr),lastIx (l++[u])=if isPut u=true then(l.length:Int) else lastIx l
 | []=>by simp[lastIx]
 | a::r=>by
  have ih:=lastIx_snoc u r
  rw[List.cons_append,lastIx,ih,List.any_append,List.length_cons,lastIx]
  by_cases hu:isPut u=true
  ·simp[hu]
  ·simp[hu]
theorem cutLast_eq(torn:Int):∀(l:List Wr),cutLast torn l=if h:0<=lastIx l/\(lastIx l).toNat<l.length then l.set (lastIx l).toNat (cutW torn l[(lastIx l).toNat]) else l
 | []=>by simp[cutLast]
 | u::r=>by
  have ih:=cutLast_eq torn r
  by_cases hr:r.any isPut=true
  ·have hs:=lastIx_some r hr
   have e:lastIx (u::r)=lastIx r+1:=by rw[lastIx,if_pos hr]
   have e2:(lastIx r+1).toNat=(lastIx r).toNat+1:=by omega
   rw[cutLast,if_pos hr,ih,dif_pos (by omega),dif_pos (by rw[e,e2,List.length_cons];omega)]
   simp only[e,e2,List.set_cons_succ,List.getElem_cons_succ]
  ·by_cases hp:isPut u=true
   ·have e:lastIx (u::r)=0:=by rw[lastIx,if_neg hr,if_pos hp]
    rw[cutLast,if_neg hr,if_pos hp,dif_pos (by rw[e];simp)]
    simp[e]
   ·have e:lastIx (u::r)=-1:=by rw[lastIx,if_neg hr,if_neg hp]
    rw[cutLast,if_neg hr,if_neg hp,dif_neg (by rw[e];simp)]
end Go.Proofs.YtobdmlejabjmiaaGreatDoor
