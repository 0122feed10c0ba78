/- Made small by a program. -/
import Derived.Test.YtobdmlejabjmiaaGreatDoorZc48
set_option maxRecDepth 20000
set_option maxHeartbeats 8000000
namespace Go.Proofs.YtobdmlejabjmiaaGreatDoor
open Go.ChangeShapes Go.WideShapes Go.ChangeAt Go.RowKit Go.Deep
section
variable {H:Type} {enc:TypeId × Value->H} {W:World}
end
inductive NK where
 | one (k:FK) | sub (ks:List FK)
def nkFlat:List NK->List FK
 | []=>[]
 | .one k::r=>k::nkFlat r
 | .sub ks::r=>ks++nkFlat r
def nkCells:List NK->Nat
 | []=>0
 | .one _::r=>1+nkCells r
 | .sub ks::r=>ks.length+nkCells r
def subOk(P:Program)(t:TypeId)(ks:List FK):Bool:=match P.underlying t with
 | some (.struct gs)=>P.cellsOf t == gs.size && oneCellFields P gs && kindsOk P ks gs.toList && gs.size == ks.length
 | _=>false
def nkOk(P:Program):Nat->List NK->List Field->Bool
 | _,[],[]=>true
 | o,.one k::r,f::fs=>f.offset == o && P.cellsOf f.type == 1 && k.is P f.type && nkOk P (o+1) r fs
 | o,.sub ks::r,f::fs=>f.offset == o && subOk P f.type ks && nkOk P (o+ks.length) r fs
 | _,_,_=>false
theorem jp{P:Program}:∀(nks:List NK) (fs:List Field) (o:Nat),nkOk P o nks fs=true->∀(j:Nat) (f:Field),fs[j]?=some f->o<=f.offset
 | [],[],_,_,j,f,hf=>by simp at hf
 | [],_::_,_,h,_,_,_=>by simp[nkOk] at h
 | .one k::r,[],_,h,_,_,_=>by simp[nkOk] at h
 | .sub ks::r,[],_,h,_,_,_=>by simp[nkOk] at h
 | .one k::r,g::fs,o,h,j,f,hf=>by
  simp only[nkOk,Bool.and_eq_true,beq_iff_eq] at h;cases j with
  | zero=>simp at hf;subst hf;omega
  | succ j=>have:=jp r fs (o+1) h.2 j f (by simpa using hf);omega
 | .sub ks::r,g::fs,o,h,j,f,hf=>by
  simp only[nkOk,Bool.and_eq_true,beq_iff_eq] at h;cases j with
  | zero=>simp at hf;subst hf;omega
  | succ j=>have:=jp r fs (o+ks.length) h.2 j f (by simpa using hf);omega
theorem jR{w:World}:∀{ks ls:List FK} {r t:List Fv},rowOk w ks r->rowOk w ls t->rowOk w (ks++ls) (r++t)
 | [],_,[],_,_,h=>h
 | _::_,_,_::_,_,h,k=>⟨h.1,jR h.2 k⟩
 | [],_,_::_,_,h,_=>h.elim
 | _::_,_,[],_,h,_=>h.elim
section
variable {H:Type} {enc:TypeId × Value->H} {W:World}
theorem zcK{t:TypeId}{ks:List FK}{cs:List Value}{y:DataW H × List MemPlace}{fuel:Nat}(hk:subOk Tryz.prog t ks=true)(h:DataW.trod enc Tryz.prog W 0 (fun _=>true) true fuel t cs=some y)(hw:(y.1.weights Tryz.prog t).all (·<=reachBytes)=true) :
  ∃r:List Fv,cs=r.map Fv.val/\rowOk W ks r:=by
 unfold subOk at hk;split at hk
 ·rename_i gs he;simp only[Bool.and_eq_true,beq_iff_eq] at hk;obtain⟨⟨⟨hC,hone⟩,hks⟩,_⟩:=hk;obtain⟨ys,m',_,hy,hlen,hyl,hg⟩:=DataW.trod_struct he h;rw[hy] at hw;exact zac (W:=W) (enc:=enc) hks cs (by rw[hlen,hC];simp) (fun j f hj v hv=>by
   have hj':gs[j]?=some f:=(by simpa using hj);obtain⟨ho,hk⟩:=hone_of hone j f hj';have hjl:j<gs.size:=(Array.getElem?_eq_some_iff.1 hj').1;have h1:=hg j f hj';have hjc:j<cs.length:=(by rw[hlen,hC];exact hjl);have hvv:cs[j]=v:=(by rw[List.getElem?_eq_getElem hjc] at hv;simpa using hv);rw[ho,hk,show(cs.drop j).take 1=[v] from by rw[List.drop_eq_getElem_cons hjc,hvv];rfl] at h1;rw[List.getElem?_eq_getElem (by omega)] at h1;exact⟨_,_,h1,yJ he hw hj' (by rw[List.getElem?_map,List.getElem?_eq_getElem (by omega)];rfl)⟩)
 ·cases hk
theorem zcJ{P:Program}{t:TypeId}{ks:List FK}(hk:subOk P t ks=true):P.cellsOf t=ks.length:=by
 unfold subOk at hk;split at hk
 ·simp only[Bool.and_eq_true,beq_iff_eq] at hk;omega
 ·cases hk
theorem x9:∀(nks:List NK) (fs:List Field) (o:Nat) (_:nkOk Tryz.prog o nks fs=true) (cs:List Value),cs.length=nkCells nks ->
  (∀(j:Nat) (f:Field),fs[j]?=some f->∃(y:DataW H × List MemPlace) (n:Nat),DataW.trod enc Tryz.prog W 0 (fun _=>true) true n f.type ((cs.drop (f.offset - o)).take (Tryz.prog.cellsOf f.type))=some y/\(y.1.weights Tryz.prog f.type).all (·<=reachBytes)=true) ->
  ∃r:List Fv,cs=r.map Fv.val/\rowOk W (nkFlat nks) r
 | [],_,_,_,cs,hl,_=>⟨[],by simpa [nkCells] using hl,trivial⟩
 | .one k::r,[],_,h,_,_,_=>by simp[nkOk] at h
 | .sub ks::r,[],_,h,_,_,_=>by simp[nkOk] at h
 | .one k::r,f::fs,o,hk,cs,hl,h=>by
  simp only[nkOk,Bool.and_eq_true,beq_iff_eq] at hk;obtain⟨⟨⟨ho,hc⟩,hki⟩,hr⟩:=hk;cases cs with
  | nil=>simp[nkCells] at hl;omega
  | cons c cs =>
   obtain⟨y,n,h1,h2⟩:=h 0 f rfl;rw[ho,hc,Nat.sub_self] at h1;obtain⟨v,hv,hok⟩:=jj hki (show DataW.trod enc Tryz.prog W 0 (fun _=>true) true n f.type [c]=some y from h1) h2;obtain⟨t,ht,hto⟩:=x9 r fs (o+1) hr cs (by simp[nkCells] at hl;omega) (fun j g hj=>by
    obtain⟨y,n,h1,h2⟩:=h (j+1) g (by simpa using hj);have hle:=jp r fs (o+1) hr j g hj;refine⟨y,n,?_,h2⟩;rw[show g.offset - o=(g.offset - (o+1))+1 by omega,List.drop_succ_cons] at h1;exact h1)
   exact⟨v::t,by rw[hv,ht];rfl,hok,hto⟩
 | .sub ks::r,f::fs,o,hk,cs,hl,h=>by
  simp only[nkOk,Bool.and_eq_true,beq_iff_eq] at hk;obtain⟨⟨ho,hki⟩,hr⟩:=hk;obtain⟨y,n,h1,h2⟩:=h 0 f rfl;rw[ho,zcJ hki,Nat.sub_self,List.drop_zero] at h1;obtain⟨v,hv,hok⟩:=zcK hki h1 h2;obtain⟨t,ht,hto⟩:=x9 r fs (o+ks.length) hr (cs.drop ks.length) (by simp[nkCells] at hl;rw[List.length_drop];omega) (fun j g hj=>by
   obtain⟨y,n,h1,h2⟩:=h (j+1) g (by simpa using hj);have hle:=jp r fs (o+ks.length) hr j g hj;refine⟨y,n,?_,h2⟩;rw[List.drop_drop,show ks.length+(g.offset - (o+ks.length))=g.offset - o by omega];exact h1)
  exact⟨v++t,by rw[List.map_append,<-hv,<-ht,List.take_append_drop],jR hok hto⟩
theorem zco{t e:TypeId}{L:List (List Fv)}{d:DataW H}(hu:Tryz.prog.underlying t=some (.slice e))(hd:(d=.nil/\L=[])\/∃(D:Nat->DataW H) (spare:List (DataW H)),d=.slice ((List.range L.length).map D) spare)
  (hw:(d.weights Tryz.prog t).all (·<=reachBytes)=true):L.length*Tryz.prog.bytesOf e<=140737488351232:=by
 rcases hd with⟨_,rfl⟩ | ⟨D,spare,rfl⟩
 ·simp
 ·simp only[DataW.weights,hu,List.all_cons,Bool.and_eq_true,decide_eq_true_eq,List.length_map,List.length_range] at hw;have:=hw.1;unfold reachBytes at this;first
   | exact this
   | (refine Nat.le_trans (Nat.mul_le_mul_right _ ?_) this;omega)
   | omega
theorem cameSN{base:Nat}{t e:TypeId}{fs:Array Field}{v:Value}{d:DataW H}{p:List MemPlace}(nks:List NK)(K:Nat)(ht:Tryz.prog.underlying t=some (.slice e))(he:Tryz.prog.underlying e=some (.struct fs))(hC:Tryz.prog.cellsOf e=K)(hC0:0<K)(hK:nkCells nks=K)
  (hks:nkOk Tryz.prog 0 nks fs.toList=true) (hv:Value.okWide Tryz.prog W .any base t v) (h:DataW.Trod enc Tryz.prog W 0 (fun _=>true) true t v d p) (hw:(d.weights Tryz.prog t).all (·<=reachBytes)=true) :
  ∃(A:Option Addr) (c:Nat) (L:List (List Fv)),v=.slice A L.length c/\L.length<=c/\c<=9223372036854775807/\RS W A K (L.map (·.map Fv.val))/\(∀r∈L,rowOk W (nkFlat nks) r) /\
   ((d=.nil/\L=[])\/∃(D:Nat->DataW H) (spare:List (DataW H)),d=.slice ((List.range L.length).map D) spare):=by
 obtain⟨A,len,cap,rfl⟩:=okWide_slice ht hv;obtain⟨fuel,hf⟩:=h
 rcases open_slice ht hf with⟨hcs,hx⟩ | ⟨a,len',cap',m,n,D,Pl,hcs,_,hl,hm,hmm,hx,hi⟩
 ·simp[Value.cells] at hcs;obtain⟨rfl,rfl,rfl⟩:=hcs;exact⟨none,0,[],rfl,by simp,by omega,⟨by simp⟩,by simp,.inl ⟨by simpa using congrArg Prod.fst hx,rfl⟩⟩
 ·simp[Value.cells] at hcs;obtain⟨rfl,rfl,rfl⟩:=hcs;have hm':m=cap:=by simpa using hmm
  have hd:d=.slice ((List.range len).map D) ((List.range (m - len)).map fun j=>D (len+j)):=by simpa using congrArg Prod.fst hx
  have each:∀i,i<len->∃r:List Fv,rowOk W (nkFlat nks) r/\W.cells? 0 (a.add (i*Tryz.prog.cellsOf e)) (Tryz.prog.cellsOf e)=some (r.map Fv.val):=by
   intro i hlt;obtain⟨cs,hcl,htr⟩:=hi i (by omega);obtain⟨ys,m',_,hy,hlen,hyl,hg⟩:=DataW.trod_struct he htr;have hy1:D i=.agg (ys.map (·.1)):=(by simpa using congrArg Prod.fst hy);have hwi:((D i).weights Tryz.prog e).all (·<=reachBytes)=true:=jB ht (by rw[<-hd];exact hw) hlt;rw[hy1] at hwi;obtain⟨r,hr,hok⟩:=x9 (W:=W) (enc:=enc) nks fs.toList 0 hks cs (by rw[hlen,hC,hK]) (fun j f hj=>by
    have hj':fs[j]?=some f:=(by simpa using hj);have hjl:j<fs.size:=(Array.getElem?_eq_some_iff.1 hj').1;have h1:=hg j f hj';rw[List.getElem?_eq_getElem (by omega)] at h1;exact⟨_,_,h1,yJ he hwi hj' (by rw[List.getElem?_map,List.getElem?_eq_getElem (by omega)];rfl)⟩)
   exact⟨r,hok,by rw[hcl,hr]⟩
  obtain⟨f,hfun⟩:=choose_lt each;refine⟨some a,cap,(List.range len).map f,by simp,by simpa using hl,by unfold maxLen at hm;omega,⟨fun hn=>?_⟩,fun r hr=>?_,.inr ⟨D,_,by rw[List.length_map,List.length_range];exact hd⟩⟩
  ·have hn':0<len:=(by simpa using hn);have hcell:∀i,i<len->∀j v,((f i).map Fv.val)[j]?=some v->W.cell? ((a.add (i*K)).add j)=some v:=by
    intro i hlt j v hj;have h1:=(hfun i hlt).2;rw[hC] at h1;obtain⟨_,hl2,hat⟩:=World.cells?_some h1;have hjl:j<K:=(by rw[<-hl2];exact(List.getElem?_eq_some_iff.1 hj).1);rw[hat j hjl,hj]
   have hl2:((f 0).map Fv.val).length=K:=by
    have h1:=(hfun 0 hn').2;rw[hC] at h1;exact(World.cells?_some h1).2.1
   have h0:=hcell 0 hn' 0 _ (List.getElem?_eq_getElem (show 0<((f 0).map Fv.val).length by omega));obtain⟨b,off,spot⟩:=a;have hspot:spot=none:=(by simpa [Addr.add] using World.cell?_spot h0);subst hspot;have hadd:∀o j,(⟨b,o,none⟩:Addr).add j=⟨b,o+j,none⟩:=(by intro o j;unfold Addr.add;split<;>simp_all);refine⟨b,off,rfl,World.block_lt_of_cell? W ⟨b,off,none⟩ (u:=_) (by simpa [Addr.add] using h0),fun i cs hi j v hj=>?_⟩;simp only[List.map_map,List.getElem?_map] at hi;obtain⟨i',hi',rfl⟩:=Option.map_eq_some_iff.1 hi;have hil:i<len:=by
    have:=(List.getElem?_eq_some_iff.1 hi').1;simpa using this
   rw[List.getElem?_range hil] at hi';injection hi' with hi'
   subst hi';have:=hcell i hil j v hj
   rwa [hadd,hadd] at this
  ·obtain⟨i,hi',rfl⟩:=List.mem_map.1 hr;exact(hfun i (by simpa using hi')).1
end
end Go.Proofs.YtobdmlejabjmiaaGreatDoor
namespace Go.Proofs.YtobdmlejabjmiaaGreatDoor
open Go.RowKit
def entK:List FK:=[.int .u64,.int .u64,.int .i64,.int .i64,.bytes]
def entOf:List Fv->ERow
 | [.int _ i,.int _ t,.int _ k,.int _ d,.bytes A c l]=>(⟨i.toNat,t.toNat,k,d,l⟩,A,c)
 | _=>(⟨0,0,0,0,[]⟩,none,0)
theorem zaS{w:World}{r:List Fv}(h:rowOk w entK r):er (entOf r)=r.map Fv.val/\(RB w (entOf r).2.1 (entOf r).1.dat/\(entOf r).1.dat.length<=(entOf r).2.2/\(entOf r).2.2<=9223372036854775807)/\(entOf r).1.dat.length<=140737488351232:=by
 match r,h with
 | [.int k0 n0,.int k1 n1,.int k2 n2,.int k3 n3,.bytes A c d],h =>
  obtain⟨⟨rfl,h0⟩,⟨rfl,h1⟩,⟨rfl,h2⟩,⟨rfl,h3⟩,⟨h4,h5,h6,h7⟩,_⟩:=h;have e0:((n0.toNat:Nat):Int)=n0:=by have:=jy h0;omega
  have e1:((n1.toNat:Nat):Int)=n1:=by have:=jy h1;omega
  refine⟨?_,⟨h4,h5,h6⟩,h7⟩;simp[entOf,er,Fv.val,e0,e1]
theorem ents_of{w:World}{E:Option Addr}{L:List (List Fv)}(hX:RS w E 5 (L.map (·.map Fv.val)))(hR:∀r∈L,rowOk w entK r):∃es:List ERow,es.length=L.length/\EL w E es/\∀x∈es,x.1.dat.length<=140737488351232:=by
 refine⟨L.map entOf,by simp,⟨?_,fun x hx=>?_⟩,fun x hx=>?_⟩
 ·have e:(L.map entOf).map er=L.map (·.map Fv.val):=by
   rw[List.map_map];exact List.map_congr_left fun r hr=>(zaS (hR r hr)).1
  rw[e];exact hX
 ·obtain⟨r,hr,rfl⟩:=List.mem_map.1 hx;exact(zaS (hR r hr)).2.1
 ·obtain⟨r,hr,rfl⟩:=List.mem_map.1 hx;exact(zaS (hR r hr)).2.2
theorem qW(A0:Option Addr)(c0:Nat)(L0:List (List Fv))(at1 tm:Int)(A3:Option Addr)(c3:Nat)(l3:List UInt8)(mask torn:Int)(w:World)(s0:RS w A0 5 (L0.map (·.map Fv.val)))(z0:L0.length*56<=140737488351232)(r0:∀r∈L0,rowOk w entK r)(h1:0<=at1/\at1<=255)(h2:0<=tm/\tm<=18446744073709551615)(h3:RB w A3 l3)(z3:l3.length<=140737488351232)
  (hm:0<=mask/\mask<=18446744073709551615) (ht:-9223372036854775808<=torn/\torn<=9223372036854775807) (hl:laidMetH Tryz.prog Rows.storeShotsRow.laid w) (hsh:w.ShapedOpen Tryz.prog) :
  Calls Tryz.prog 5 #[.slice A0 L0.length c0,.int .u8 at1,.int .u64 tm,.slice A3 l3.length c3,.int .u64 mask,.int .i64 torn] w fun e w'=>e=.returned (.bool true)/\Below w.heap.size w w':=by
 obtain⟨m,hmx⟩:=Tryz.laysM146.s1_3 w hsh;obtain⟨es,hel,hEL,hed⟩:=ents_of s0 r0;have em:((mask.toNat:Nat):Int)=mask:=by omega
 have ea:((at1.toNat:Nat):Int)=at1:=by omega
 have et:((tm.toNat:Nat):Int)=tm:=by omega
 have H:=zaf A0 c0 es at1.toNat tm.toNat A3 c3 l3 mask.toNat torn w hEL (by omega) hed (by omega) (by omega) h3 z3 (by omega) ht ⟨senv_of hl (by kernel_rfl) (by simp[Rows.storeShotsRow]) (by simp[Rows.storeShotsRow]) (by simp[Rows.storeShotsRow]),m,fun w' hb=>(hb.cell (p:=⟨5,0,none⟩) (World.block_lt_of_cell? w ⟨5,0,none⟩ hmx)).trans hmx⟩;rw[em,ea,et,hel] at H;exact H
end Go.Proofs.YtobdmlejabjmiaaGreatDoor
