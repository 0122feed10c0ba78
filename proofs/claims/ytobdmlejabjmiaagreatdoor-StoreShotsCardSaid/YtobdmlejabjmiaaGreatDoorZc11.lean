/- Made small by a program. -/
import Derived.Test.YtobdmlejabjmiaaGreatDoorZc10
import Derived.Shelf.Strings.SlTrimAscii
set_option maxRecDepth 20000
set_option maxHeartbeats 8000000
namespace Go.Proofs.YtobdmlejabjmiaaGreatDoor
open Go.RowKit
def RowB(w:World)(g:Nat)(l:List UInt8):Prop:=w.heap[g]?=some (.cells (bcells l).toArray 5 (0,0))
section
variable {w w':World} {g:Nat} {l:List UInt8}
theorem RowB.ob(h:RowB w g l){base:Nat}(hb:base<=g)(hl:l.length<=9223372036854775807):OB w base (some ⟨g,0,none⟩) l.length l:=by
 refine⟨by simp[zx],.inr ⟨g,l.length,_,rfl,hb,h,Nat.le_refl _,by unfold maxLen;exact hl,by simp[zx],?_⟩⟩;rw[Nat.mul_one,<-zx l,List.take_length]
theorem zdK(n:Nat):(madeCells (Value.int .u8 0).cells (n*1)).toList=bcells (List.replicate n 0):=by
 rw[Nat.mul_one];apply List.ext_getElem
 ·simp[madeCells,bcells]
 ·intro i h1 h2;simp[madeCells,bcells,Value.cells,Nat.mod_one]
theorem RowB.made{n:Nat}(h:w.ownsRow 0 5 1 (.slice (some ⟨g,0,none⟩) n n) n (madeCells (Value.int .u8 0).cells (n*1)).toList):RowB w g (List.replicate n 0):=by
 rw[zdK] at h
 rcases h.2 with⟨h',_⟩ | ⟨g',cap',cur,h',_,hg,_,_,hsz,htk⟩
 ·simp at h'
 ·simp only[Value.slice.injEq,Option.some.injEq,Addr.mk.injEq,and_true,true_and] at h';obtain⟨rfl,rfl⟩:=h';unfold RowB;rw[hg,<-htk];rw[List.take_of_length_le (by simp at hsz;simp;omega)]
end
theorem zej{P:Program}{w:World}{ops:Array Oper}{rest:List Oper}{a:Act}{Q:Exit->Act->World->Prop}{dst:Option Tmp}{d s:Operand}{dT sT ty:TypeId}{pos:String}{af:Array Edge}
  (h:wpList P ops Q (Oper.mk dst (Op.call { callee:=Callee.builtin Builtin.copy,args:=#[d,s],argTypes:=#[dT,sT] }) ty pos af none::rest) a w) :
  wpList P ops Q (Oper.mk dst (Op.call { callee:=Callee.builtin Builtin.copy,args:=#[d,s],argTypes:=#[dT,sT] }) ty pos af none::rest) a w:=h
theorem zcF(n:Nat)(l:List UInt8):splice (bcells (List.replicate n 0)) 0 (bcells (l.take n))=bcells (resizeD l n):=by
 unfold splice resizeD;rw[List.take_zero,List.nil_append,ye,zx,List.length_take,Nat.zero_add];congr 1;simp only[bcells,<-List.map_drop,List.drop_replicate];congr 2;omega
theorem zak(A:Option Addr)(c:Nat)(l:List UInt8)(n:Nat)(w:World)(h:RB w A l)(hn:n<=281474976710656) :
  Calls Tryz.prog 100 #[.slice A l.length c,.int .i64 (n:Int)] w fun e w'=>e=.returned (.slice (some ⟨w.heap.size,0,none⟩) n n)/\RowB w' w.heap.size (resizeD l n)/\Below w.heap.size w w':=by
 obtain⟨i0,hi0,hz0,hz1,hz2⟩:=info_parts zbi;have h1:(Tryz.prog.info? 5).map (·.size)=some 1:=by rw[hi0];simp[hz1]
 have HSP:=qh (zcF n l);obtain⟨X,hX⟩:∃X,X=bcells (l.take n):=⟨_,rfl⟩;obtain⟨Z,hZ⟩:∃Z,Z=bcells (List.replicate n 0):=⟨_,rfl⟩;have hXl:X.length=Nat.min l.length n:=by rw[hX,zx,List.length_take,Nat.min_comm]
 have hZl:Z.length=n:=by rw[hZ,zx,List.length_replicate]
 have hXc:Hid (∀w' (g:Nat),RB w' A l->0<X.length->some (⟨g,0,none⟩:Addr)=some ⟨g,0,none⟩/\∃ad,A=some ad/\∀j v,X[j]?=some v->w'.cell? (ad.add j)=some v):=qh fun w' g hr h0=>by
  refine⟨rfl,?_⟩;have h0':0<l.length:=by rw[hXl] at h0;exact Nat.lt_of_lt_of_le h0 (Nat.min_le_left _ _)
  obtain⟨b,off,rfl,hlt,hc⟩:=hr.at_ h0';refine⟨_,rfl,fun j v hv=>?_⟩;rw[hX,zX,List.getElem?_take] at hv;split at hv
  ·obtain⟨x,hx,rfl⟩:=Option.map_eq_some_iff.1 hv;have:=hc j x hx;rw[show(⟨b,off,none⟩:Addr).add j=⟨b,off+j,none⟩ from by unfold Addr.add;split<;>simp_all];exact this
  ·simp at hv
 have hXo:Hid (∀v∈X,v.oneCell'=true):=qh (by rw[hX];exact jC _);have H:=qh h;rw[<-hX,<-hZ] at HSP;have HZ:=qh hZ;clear h hX hZ;go_enter Tryz.func100,Tryz.ntmps100;go_wp2_with (first
  | (at_make;refine wpList_make_full _ rfl (.tmp 6) (.tmp 6) 34 rfl 0 5 i0 (.int .u8 0) 1 Tryz.underlying34 hi0 hz0 hz1 .i64 .i64 _ _ n rfl rfl rfl rfl (by rw[hz2];omega) (by unfold maxLen;omega) (Nat.zero_le _) ?_;intro w1 ho1 hg1;have hb1:Below w.heap.size w w1:=⟨hg1.os,hg1.tape,hg1.output,hg1.size,fun j hj=>hg1.block j hj (by simp)⟩;have HR:Hid (w1.heap[w.heap.size]?=some (.cells Z.toArray 5 (0,0))):=qh (by rw[HZ.out];exact RowB.made ho1);have HRB:=qh (H.out.below hb1);clear ho1 hg1)
  | (with_reducible refine zej ?_;refine wpList_copy_splice rfl (.tmp 8) (.tmp 9) 34 34 rfl 5 Tryz.underlying34 h1 _ _ _ _ _ _ rfl rfl w.heap.size 0 Z 5 HR.out X hXl (hXc.out _ _ HRB.out) (by rw[hXl,hZl,Nat.zero_add];exact Nat.min_le_right _ _) hXo.out w.heap.size w hb1 (Nat.le_refl _) ?_;intro w2 hg2 hb2))
 go_ret;refine⟨rfl,?_,hb2⟩;unfold RowB;rw[<-HSP.out];exact hg2.out
theorem zcG(l:List UInt8)(off:Nat)(d:List UInt8):splice (bcells (resizeD l (max l.length (off+d.length)))) off (bcells d)=bcells (putD l off d):=by
 unfold splice putD;rw[ye,ye,zx,List.append_assoc];unfold bcells;rw[List.map_take,List.map_drop]
theorem diskPut(A:Option Addr)(c:Nat)(l:List UInt8)(off:Nat)(X:Option Addr)(cx:Nat)(d:List UInt8)(w:World)(h:RB w A l)(k:RB w X d)(hl:l.length<=140737488355328)(ho:off<=4194304)(hd:d.length<=140737488355328) :
  Calls Tryz.prog 99 #[.slice A l.length c,.int .i64 (off:Int),.slice X d.length cx] w fun e w'=>e=.returned (.slice (some ⟨w.heap.size,0,none⟩) (putD l off d).length (putD l off d).length)/\RowB w' w.heap.size (putD l off d)/\Below w.heap.size w w':=by
 obtain⟨i0,hi0,hz0,hz1,hz2⟩:=info_parts zbi;have h1:(Tryz.prog.info? 5).map (·.size)=some 1:=by rw[hi0];simp[hz1]
 have HSP:=qh (zcG l off d);have HLEN:=qh (za4 l off d);obtain⟨n,hn⟩:∃n,n=max l.length (off+d.length):=⟨_,rfl⟩;have hn1:l.length<=n/\off+d.length<=n/\n<=281474976710656:=by omega
 obtain⟨hn1,hn2,hn3⟩:=hn1;have C:Hid (∀N:Int,N=(n:Int)->Calls Tryz.prog 100 #[.slice A l.length c,.int .i64 N] w fun e w'=>e=.returned (.slice (some ⟨w.heap.size,0,none⟩) n n)/\RowB w' w.heap.size (resizeD l n)/\Below w.heap.size w w'):=qh fun N hN=>by
  subst hN;exact zak A c l n w h hn3
 obtain⟨Y,hY⟩:∃Y,Y=bcells d:=⟨_,rfl⟩;obtain⟨Z,hZ⟩:∃Z,Z=bcells (resizeD l n):=⟨_,rfl⟩;rw[<-hn] at HSP HLEN;rw[<-hY,<-hZ] at HSP;have hYl:Y.length=d.length:=by rw[hY,zx]
 have hZl:Z.length=n:=by rw[hZ,zx,xx]
 have HY:Hid (∀w',Below w.heap.size w w'->0<Y.length->∃ad,X=some ad/\∀j v,Y[j]?=some v->w'.cell? (ad.add j)=some v):=qh fun w' hb h0=>by
  obtain⟨b,o,rfl,hlt,hc⟩:=(k.below hb).at_ (by omega);refine⟨_,rfl,fun j v hv=>?_⟩;rw[hY,zX] at hv;obtain⟨x,hx,rfl⟩:=Option.map_eq_some_iff.1 hv;have:=hc j x hx;rw[show(⟨b,o,none⟩:Addr).add j=⟨b,o+j,none⟩ from by unfold Addr.add;split<;>simp_all];exact this
 have hYo:Hid (∀v∈Y,v.oneCell'=true):=qh (by rw[hY];exact jC _);have HN:=qh hn;rw[hn] at HLEN;rw[<-hn] at HLEN;have HZ:=qh hZ;clear h k hY hZ hn;rw[HLEN.out];clear HLEN;go_enter Tryz.func99,Tryz.ntmps99;go_wp2_with fail;all_goals
  refine(C.out _ (by have:=HN.out;omega)).mono ?_;rintro e w1 ⟨rfl,hr1,hb1⟩;have HR:Hid (w1.heap[w.heap.size]?=some (.cells Z.toArray 5 (0,0))):=qh (by rw[HZ.out];exact hr1);have HYw:=qh (HY.out w1 hb1);clear hr1;go_wp2_with (with_reducible refine zej ?_;refine wpList_copy_splice rfl (.tmp 19) (.tmp 20) 34 34 rfl 5 Tryz.underlying34 h1 _ _ _ _ _ _ rfl rfl w.heap.size off Z 5 HR.out Y (by rw[hYl];exact(Nat.min_eq_left (by omega)).symm) (fun h0=>⟨by first | rfl | (exfalso;omega) | (simp;intro hno;exfalso;omega),HYw.out h0⟩) (by omega) hYo.out w.heap.size w hb1 (Nat.le_refl _) ?_;intro w2 hg2 hb2);all_goals
   go_ret;refine⟨rfl,?_,hb2⟩;unfold RowB;rw[<-HSP.out];exact hg2.out
def nameSet:List UInt8:=[97,98,99,100,101,102,103,104,105,106,107,108,109,110,111,112,113,114,115,116,117,118,119,120,121,122,48,49,50,51,52,53,54,55,56,57,46]
def nameOk(l:Nm):Bool:=decide (1<=l.length/\l.length<=32) && l.all (fun b=>nameSet.contains b)
theorem xr{p:UInt8->Bool}:∀{l:List UInt8},l.dropWhile p=[]->∀x∈l,p x=true
 | [],_=>by simp
 | a::r,h=>by
  rw[List.dropWhile_cons] at h;split at h
  ·rename_i ha;intro x hx
   rcases List.mem_cons.1 hx with rfl | hx
   ·exact ha
   ·exact xr h x hx
  ·cases h
theorem xV{p:UInt8->Bool}:∀{l:List UInt8},l.dropWhile p≠[]->∃x∈l.dropWhile p,p x=false
 | [],h=>by simp at h
 | a::r,h=>by
  rw[List.dropWhile_cons] at h ⊢;split at h
  ·rename_i ha;rw[if_pos ha];exact xV h
  ·rename_i ha;rw[if_neg ha];exact⟨a,by simp,by simpa using ha⟩
theorem jh{p:UInt8->Bool}:∀{l:List UInt8},(∀x∈l,p x=true)->l.dropWhile p=[]
 | [],_=>rfl
 | a::r,h=>by
  rw[List.dropWhile_cons,if_pos (h a (by simp))];exact jh fun x hx=>h x (List.mem_cons_of_mem _ hx)
theorem zaF(l cs:List UInt8):Lib.trimS l cs=[] ↔ l.all (fun b=>cs.contains b)=true:=by
 unfold Lib.trimS Lib.trimLeftS Lib.trimRightS;constructor
 ·intro h;have h1:=xr h;have h2:l.reverse.dropWhile (fun b=>cs.contains b)=[]:=by
   apply Classical.byContradiction;intro hne;obtain⟨x,hx,hp⟩:=xV hne;have:=h1 x (by rw[List.mem_reverse];exact hx);rw[hp] at this;cases this
  rw[List.all_eq_true];intro x hx;exact xr h2 x (by rw[List.mem_reverse];exact hx)
 ·intro h;rw[List.all_eq_true] at h;have h2:l.reverse.dropWhile (fun b=>cs.contains b)=[]:=by
   refine jh fun x hx=>?_
   exact h x (by rw[<-List.mem_reverse];exact hx)
  rw[h2]
  rfl
theorem qj(s:ByteArray)(w:World)(hs:s.size<=9223372036854775807) :
  Calls Tryz.prog 123 #[.string s] w fun e w'=>e=.returned (.bool (nameOk s.data.toList))/\Below w.heap.size w w':=by
 have T:Hid (Calls Tryz.prog 56 #[.string s,.string ⟨#[97,98,99,100,101,102,103,104,105,106,107,108,109,110,111,112,113,114,115,116,117,118,119,120,121,122,48,49,50,51,52,53,54,55,56,57,46]⟩] w fun e w'=>e=.returned (.string ⟨(Lib.trimS s.data.toList nameSet).toArray⟩)/\Below w.heap.size w w') :=
  qh (Any.strings_Trim_laid Tryz.lays160 (by kernel_rfl) s ⟨#[97,98,99,100,101,102,103,104,105,106,107,108,109,110,111,112,113,114,115,116,117,118,119,120,121,122,48,49,50,51,52,53,54,55,56,57,46]⟩ w hs (by decide) (ascii_of_all (by decide)))
 have hsz:s.data.toList.length=s.size:=rfl;have HE:=qh (zaF s.data.toList nameSet);by_cases h0:s.size=0
 ·have hse:s=⟨#[]⟩:=by
   obtain⟨⟨l⟩⟩:=s;cases l with
   | nil=>rfl
   | cons a r=>simp[ByteArray.size] at h0
  have hv:nameOk s.data.toList=false:=by unfold nameOk;rw[hsz,h0];rfl
  rw[hv];subst hse;clear T HE hsz hv h0 hs;go_enter Tryz.func123,Tryz.ntmps123;go_wp2_with fail;go_ret;exact⟨rfl,Below.refl _ _⟩
 ·have hse:s.toList.isEmpty=false:=by
   rw[Lib.toList_data];cases h:s.data.toList with
   | nil=>rw[h] at hsz;simp at hsz;omega
   | cons _ _=>rfl
  by_cases h1:s.size<=32
  ·have hv:nameOk s.data.toList=s.data.toList.all (fun b=>nameSet.contains b):=by
    unfold nameOk;rw[hsz,decide_eq_true (by omega),Bool.true_and]
   rw[hv];have HE2:Hid ((s.data.toList.all fun b=>nameSet.contains b)=decide (Lib.trimS s.data.toList nameSet=[])):=qh (by
    rw[Bool.eq_iff_iff,decide_eq_true_eq];exact HE.out.symm)
   rw[HE2.out];clear HE hv hsz HE2;generalize Lib.trimS s.data.toList nameSet=tr at *;cases htr:tr with
   | nil =>
    subst htr;go_enter Tryz.func123,Tryz.ntmps123;go_wp2_with fail;refine T.out.mono ?_;rintro e w1 ⟨rfl,hb⟩;go_wp2_with fail;go_ret;exact⟨rfl,hb⟩
   | cons a r =>
    subst htr;have hne:(⟨(a::r).toArray⟩:ByteArray).toList.isEmpty=false:=(by rw[Lib.toList_data];rfl);go_enter Tryz.func123,Tryz.ntmps123;go_wp2_with fail;refine T.out.mono ?_;rintro e w1 ⟨rfl,hb⟩;go_wp2_with fail;go_ret;exact⟨by simp,hb⟩
  ·have hv:nameOk s.data.toList=false:=(by unfold nameOk;rw[hsz,decide_eq_false (by omega),Bool.false_and]);rw[hv];clear T HE hsz hv;go_enter Tryz.func123,Tryz.ntmps123;go_wp2_with fail;go_ret;exact⟨rfl,Below.refl _ _⟩
theorem jT:KeyLaw Tryz.prog 9 encStr :=
 KeyLaw.scalar Tryz.underlying9 (fun k=>by trivial) (fun x y h=>by
  injection h with h
  injection h with h
  simpa using congrArg Array.toList h)
def vlen:Value->Nat
 | .slice _ n _=>n
 | _=>0
section
variable {es:List (Nm × Value)} {F:FS}
theorem zb3{B m:Nat}{w a:World}(h:Below B w a)(hm:B<=m)(ob:Obj):Below B w (wset a m ob) :=
 ⟨h.os,h.tape,h.output,by rw[qY];exact h.size,fun k hk=>(xT a m ob k (by omega)).trans (h.block k hk)⟩
def News(w w':World)(b:Nat):Prop:=w.heap.size<=b/\b<w'.heap.size
def OBS(S:Nat->Prop)(w:World)(A:Option Addr)(c:Nat)(l:List UInt8):Prop:=OB w 0 A c l/\∀b,A.map (·.block)=some b->S b
section
variable {S S':Nat->Prop} {w w':World} {A:Option Addr} {c:Nat} {l:List UInt8}
theorem OBS.mono(h:OBS S w A c l)(hs:∀b,b<w.heap.size->S b->S' b):OBS S' w A c l:=⟨h.1,fun b hb=>hs b (h.1.blk_lt b hb).2 (h.2 b hb)⟩
theorem OBS.below(h:OBS S w A c l)(hb:Below w.heap.size w w'):OBS S w' A c l:=⟨h.1.below hb,h.2⟩
theorem OBS.of_block(h:OBS S w A c l)(hb:∀b,A.map (·.block)=some b->w'.heap[b]?=w.heap[b]?):OBS S w' A c l:=⟨h.1.of_block hb,h.2⟩
theorem OBS.new(h:OB w' w.heap.size A c l):OBS (News w w') w' A c l:=⟨h.base_le (Nat.zero_le _),fun b hb=>h.blk_lt b hb⟩
end
structure Told(S:Nat->Prop)(w:World)(es:List (Nm × Value))(F:FS):Prop where
 hit:∀k v,mget es k=some v->∃A c l,v=.slice A l.length c/\OBS S w A c l/\fget F k=some l
 miss:∀k,mget es k=none->fget F k=none
theorem Told.keys{S:Nat->Prop}{w:World}(h:Told S w es F)(hn:(es.map Prod.fst).Nodup)(hF:Rising F):(es.map Prod.fst).Perm (F.map Prod.fst):=by
 refine(List.perm_ext_iff_of_nodup hn (yF hF)).2 fun k=>?_
 rw[<-qx];cases hk:mget es k with
 | none =>
  have:=zeC.1 (h.miss k hk);simp[this]
 | some v =>
  obtain⟨A,c,l,_,_,hg⟩:=h.hit k v hk;simp only[Option.isSome_some,true_iff];exact List.mem_map.2 ⟨_,zcW hg,rfl⟩
theorem Told.len{S:Nat->Prop}{w:World}(h:Told S w es F)(hn:(es.map Prod.fst).Nodup)(hF:Rising F):es.length=F.length:=by
 have:=(h.keys hn hF).length_eq;simpa using this
theorem Told.sum{S:Nat->Prop}{w:World}(h:Told S w es F)(hn:(es.map Prod.fst).Nodup)(hF:Rising F):(es.map (fun p=>vlen p.2)).sum=fsize F:=by
 have hp:=((h.keys hn hF).map (fun k=>((fget F k).getD []).length)).sum_nat;rw[List.map_map,List.map_map] at hp;unfold fsize;rw[show es.map (fun p=>vlen p.2)=es.map ((fun k=>((fget F k).getD []).length) ∘ Prod.fst) from List.map_congr_left fun p hp=>by
  obtain⟨A,c,l,hv,_,hg⟩:=h.hit p.1 p.2 (zK hn hp);simp[hv,hg,vlen]]
 rw[hp];congr 1;refine List.map_congr_left fun p hp=>?_
 simp[xY (yF hF) (show(p.1,p.2)∈F from hp)]
theorem Told.below{S:Nat->Prop}{w w':World}(h:Told S w es F)(hb:Below w.heap.size w w'):Told S w' es F :=
 ⟨fun k v hk=>by obtain⟨A,c,l,h1,h2,h3⟩:=h.hit k v hk;exact⟨A,c,l,h1,h2.below hb,h3⟩,h.miss⟩
theorem Told.shape{S:Nat->Prop}{w:World}(h:Told S w es F)(hn:(es.map Prod.fst).Nodup):∀p∈es,∃c:Option Addr × Nat × Nat,p.2=.slice c.1 c.2.1 c.2.2:=fun p hp=>by
 obtain⟨A,c,l,hv,_,_⟩:=h.hit p.1 p.2 (zK hn hp);exact⟨(A,l.length,c),hv⟩
end
def FI(S:Nat->Prop)(w:World)(m:Nat)(F:FS):Prop:=∃es:List (Nm × Value),MapAt encStr w m es/\Told S w es F/\Rising F/\S m
theorem FI.below{S:Nat->Prop}{m:Nat}{w w':World}{F:FS}(h:FI S w m F)(hb:Below w.heap.size w w'):FI S w' m F:=by
 obtain⟨es,h1,h2,h3,h4⟩:=h;exact⟨es,h1.below hb,h2.below hb,h3,h4⟩
theorem zfp{α:Type}(f:α->Nat){L:List α}{i:Nat}{x:α}(h:L[i]?=some x):(L.map f).sum=f x+((L.eraseIdx i).map f).sum:=by
 induction L generalizing i with
 | nil=>simp at h
 | cons a r ih =>
  cases i with
  | zero=>simp at h;subst h;simp
  | succ i =>
   simp at h;simp[ih h];omega
theorem zaQ{S:Nat->Prop}{m:Nat}{F:FS}(w:World)(h:FI S w m F)(hs:fsize F<=4611686018427387904):Calls Tryz.prog 139 #[.map (some m)] w fun e w'=>e=.returned (.int .i64 (fsize F:Int))/\Below w.heap.size w w':=by
 obtain⟨es,hmap,ht,hF,_⟩:=h;have hsum:=ht.sum hmap.nodup hF;have HV:=qh (ht.shape hmap.nodup);rw[<-hsum] at hs ⊢;clear ht hsum hF;go_enter Tryz.func139,Tryz.ntmps139;go_wp2_with (at_range;refine zb1 _ rfl (.tmp 6) rfl Tryz.underlying63 rfl hmap ?_;intro w1 hrg0 hb1 hs1)
 go_frame
 clear hmap hs1;go_loopw [3] (fun v wr=>∃(todo:List (Nm × Value)) (a:Nat),v=.int .i64 (a:Int)/\a+(todo.map (fun p=>vlen p.2)).sum=(es.map (fun p=>vlen p.2)).sum/\Ranging encStr wr m w.heap.size es todo/\Below w.heap.size w wr) (fun _ wr=>wr.rangeLeft m w.heap.size)
 case atStart=>exact⟨es,0,rfl,by omega,hrg0,hb1⟩
 case round =>
  obtain⟨todo,a,rfl,hsum,hrg,hB⟩:=hrel;clear hrg0 hb1;go_wp2_with (at_next;refine zdu _ (fun c:Option Addr × Nat × Nat=>Value.slice c.1 c.2.1 c.2.2) rfl (.tmp 7) rfl rfl hrg HV.out ?_ ?_)
  ·intro htodo;subst htodo;simp at hsum;have HE:Hid (Ending.returned (.int .i64 (a:Int))=.returned (.int .i64 ((es.map (fun p=>vlen p.2)).sum:Int))):=qh (by rw[hsum]);clear hrg;go_wp2_with fail;go_ret;exact⟨HE.out,hB⟩
  ·intro i x cA cl cc w2 hi hrg2 hg2 hs2 hen;have hlen:(todo.eraseIdx i).length<todo.length:=by
    have:=(List.getElem?_eq_some_iff.1 hi).1;rw[List.length_eraseIdx,if_pos this];omega
   have hl1:=hrg.left_eq;have hl2:=hrg2.left_eq;have hse:=zfp (fun p:Nm × Value=>vlen p.2) hi;have hB2:Below w.heap.size w w2:=hB.grown hg2 hB.size (fun b hb=>by injection hb with hb;omega);have hse2:(todo.map (fun p=>vlen p.2)).sum=cl+((todo.eraseIdx i).map (fun p=>vlen p.2)).sum:=hse;have HM:Hid (w2.rangeLeft m w.heap.size<wr.rangeLeft m w.heap.size):=qh (by rw[hl1,hl2];exact hlen);have HRG:=qh hrg2;clear hrg hg2 hs2 hl1 hl2 hlen hse hrg2 hi hB;go_wp2_with fail;go_roundw
   case rel=>exact⟨_,a+cl,by go_num,by omega,HRG.out,hB2⟩
   case measure=>exact HM.out
theorem yH(A:Option Addr)(c:Nat)(l:List UInt8)(w:World)(h:RB w A l)(hl:l.length<=220000000000000) :
  Calls Tryz.prog 82 #[.slice A l.length c] w fun e w'=>∃A' c',e=.returned (.slice A' l.length c')/\OB w' w.heap.size A' c' l/\Below w.heap.size w w':=by
 refine(qc A c l w h hl).mono ?_;rintro e w' ⟨k,A',c',hk,_,_,rfl,ho,hb⟩;have:=hk.out;subst this;exact⟨A',c',rfl,ho,hb⟩
theorem Ranging.iter{w:World}{m r:Nat}{es todo:List (Nm × Value)}(h:Ranging encStr w m r es todo):∃a b c d,w.heap[r]?=some (.mapIter a b c d):=by
 obtain⟨L,clock,since,seen,c0,_,_,_,_,_,hr,_⟩:=h;exact⟨_,_,_,_,hr⟩
theorem zci{L:List (Nm × Value)}(_hn:(L.map Prod.fst).Nodup){i:Nat}{k:Nm}{v:Value}(hi:L[i]?=some (k,v))(y:Nm):y ∉ (L.eraseIdx i).map Prod.fst->y ∉ L.map Prod.fst\/y=k:=by
 intro h;by_cases hy:y=k
 ·exact .inr hy
 ·left;intro hm;apply h;obtain⟨p,hp,rfl⟩:=List.mem_map.1 hm;obtain⟨j,hj⟩:=List.getElem?_of_mem hp;have hij:j≠i:=by
   rintro rfl;rw[hi] at hj;injection hj with hj
   exact hy (by rw[<-hj])
  refine List.mem_map.2 ⟨p,?_,rfl⟩;rw[List.mem_eraseIdx_iff_getElem?];exact⟨j,hij,hj⟩
theorem yg{S:Nat->Prop}{m:Nat}{F:FS}(w:World)(h:FI S w m F)(hs:∀k l,fget F k=some l->l.length<=220000000000000):Calls Tryz.prog 45 #[.map (some m)] w fun e w'=>e=.returned (.map (some w.heap.size))/\FI (News w w') w' w.heap.size F/\Below w.heap.size w w':=by
 obtain⟨es,hmap,ht,hF,_⟩:=h;have HV:=qh (ht.shape hmap.nodup);have HNOD:=qh hmap.nodup;have HT:=qh ht;have HS:=qh hs;have HF:=qh hF;have hmk:=ja (P:=Tryz.prog) 63 w;have hal:Below w.heap.size w (w.alloc (.map #[] 0)):=(Below.refl _ _).alloc (Nat.le_refl _) _;have HMAP:=qh (hmap.below hal);have HNEW:=qh (MapAt.made (kv:=encStr) w);have hmlt:=hmap.lt;clear hmap ht hs hF;go_enter Tryz.func45,Tryz.ntmps45;go_wp2_with (at_range;refine zb1 _ rfl (.tmp 7) rfl Tryz.underlying63 rfl HMAP.out ?_;intro w1 hrg0 hb1 hs1)
 go_frame
 have hB1:Below w.heap.size w w1:=hal.trans (hb1.mono hal.size);have hN1:=HNEW.out.below hb1;have hsz:(w.alloc (.map #[] 0)).heap.size=w.heap.size+1:=by simp
 rw[hsz] at hrg0 ⊢;obtain⟨m2,hm2⟩:∃m2,m2=w.heap.size:=⟨_,rfl⟩;rw[<-hm2] at hrg0 hN1 ⊢;have HM2:=qh hm2;clear hb1 hs1 hsz hmk hal HMAP HNEW hm2;go_loopw [4] (fun _ wr=>∃(todo es2:List (Nm × Value)),Ranging encStr wr m (m2+1) es todo/\MapAt encStr wr m2 es2 /\
   Hid (∀k v,mget es2 k=some v->∃A c l,v=.slice A l.length c/\OB wr m2 A c l/\fget F k=some l) /\
   Hid (∀k,mget es2 k=none->k ∉ es.map Prod.fst\/k∈todo.map Prod.fst)/\Below w.heap.size w wr) (fun _ wr=>wr.rangeLeft m (m2+1))
 case atStart =>
  exact⟨es,[],hrg0,hN1,qh (fun k v h=>by simp[mget] at h),qh (fun k _=>by by_cases hk:k∈es.map Prod.fst;exact .inr hk;exact .inl hk),hB1⟩
 case round =>
  obtain⟨todo,es2,hrg,hm2',hhit,hmiss,hB⟩:=hrel;clear hrg0 hN1 hB1;go_wp2_with (at_next;refine zdu _ (fun c:Option Addr × Nat × Nat=>Value.slice c.1 c.2.1 c.2.2) rfl (.tmp 8) rfl rfl hrg HV.out ?_ ?_)
  ·intro htodo;subst htodo;have HFI:Hid (FI (News w wr) wr m2 F):=qh ⟨es2,hm2',⟨fun k v hk=>by
    obtain⟨A,c,l,h1,h2,h3⟩:=hhit.out k v hk;rw[HM2.out] at h2;exact⟨A,c,l,h1,OBS.new h2,h3⟩,fun k hk=>by
    rcases hmiss.out k hk with h | h
    ·exact HT.out.miss k (zbA.2 h)
    ·simp at h⟩,HF.out,⟨by rw[HM2.out];exact Nat.le_refl _,hm2'.lt⟩⟩
   have HFIN:Hid (Ending.returned (.map (some m2))=.returned (.map (some w.heap.size))/\FI (News w wr) wr w.heap.size F/\Below w.heap.size w wr):=qh (by have hz:=HFI.out;rw[HM2.out] at hz ⊢;exact⟨rfl,hz,hB⟩);clear hrg hm2' hhit hmiss hB;go_wp2_with fail;go_ret;exact HFIN.out
  ·intro i x cA cl cc w2 hi hrg2 hg2 hs2 hen;have hx:mget es x=some (.slice cA cl cc):=zK HNOD.out (hrg.sub.subset (List.mem_of_getElem? hi));obtain⟨A,c,l,hv,hob,hget⟩:=HT.out.hit _ _ hx;injection hv with hv1 hv2 hv3
   subst hv1 hv2 hv3;have hB2:Below w.heap.size w w2:=hB.grown hg2 hB.size (fun b hb=>by injection hb with hb;have:=HM2.out;omega);have hm2w:MapAt encStr w2 m2 es2:=hm2'.grown hg2 (by simp);have hob2:OBS S w2 cA cc l:=hob.below hB2;have HC:=qh (yH cA cc l w2 hob2.1.rb (HS.out x l hget));have hlen:(todo.eraseIdx i).length<todo.length:=by
    have:=(List.getElem?_eq_some_iff.1 hi).1;rw[List.length_eraseIdx,if_pos this];omega
   have HNEW2:Hid (∀(A':Option Addr) (c':Nat) (w3 w4:World),OB w3 w2.heap.size A' c' l->Below w2.heap.size w2 w3->(∀k,k≠m2->w4.heap[k]?=w3.heap[k]?)->Below w.heap.size w w4->MapAt encStr w4 m2 (mput es2 x (.slice A' l.length c')) ->
     (∃(todo es2:List (Nm × Value)),Ranging encStr w4 m (m2+1) es todo/\MapAt encStr w4 m2 es2 /\
      Hid (∀k v,mget es2 k=some v->∃A c l,v=.slice A l.length c/\OB w4 m2 A c l/\fget F k=some l) /\
      Hid (∀k,mget es2 k=none->k ∉ es.map Prod.fst\/k∈todo.map Prod.fst)/\Below w.heap.size w w4)/\w4.rangeLeft m (m2+1)<wr.rangeLeft m (m2+1)):=qh fun A' c' w3 w4 hob3 hb3 hk4 hb4 hm4=>by
    have hr3:=hrg2.below hb3;have hr4:Ranging encStr w4 m (m2+1) es (todo.eraseIdx i):=hr3.of_blocks (hk4 m (by have:=HM2.out;omega)) (hk4 (m2+1) (by omega));have hsz:=hB2.size;have hm2lt:=hm2w.lt;refine⟨⟨_,_,hr4,hm4,qh fun k v hk=>?_,qh fun k hk=>?_,hb4⟩,by rw[hr4.left_eq,hrg.left_eq];exact hlen⟩
    ·rw[xQ] at hk;by_cases hkx:k=x
     ·rw[if_pos hkx] at hk;injection hk with hk
      subst hk hkx;refine⟨A',c',l,rfl,(hob3.base_le (by omega)).of_block fun b hb=>hk4 b ?_,hget⟩;have:=(hob3.blk_lt b hb).1;omega
     ·rw[if_neg hkx] at hk;obtain⟨A1,c1,l1,h1,h2,h3⟩:=hhit.out k v hk;have h2':OB w2 m2 A1 c1 l1:=h2.of_block fun b hb=>hg2.block b (h2.blk_lt b hb).2 (fun e=>by
       injection e with e
       obtain⟨cs,hcs⟩:=h2.blk b hb;obtain⟨a1,a2,a3,a4,h4⟩:=hrg.iter;rw[e,h4] at hcs;cases hcs)
      exact⟨A1,c1,l1,h1,(h2'.below hb3).of_block fun b hb=>hk4 b (by
       rintro rfl;obtain⟨cs,hcs⟩:=h2.blk b hb;exact hm2'.ne_cells hcs rfl),h3⟩
    ·rw[xQ] at hk;by_cases hkx:k=x
     ·rw[if_pos hkx] at hk;cases hk
     ·rw[if_neg hkx] at hk
      rcases hmiss.out k hk with h | h
      ·exact .inl h
      ·by_cases hk2:k∈(todo.eraseIdx i).map Prod.fst
       ·exact .inr hk2
       ·rcases zci hrg.nodup hi k hk2 with h' | h'
        ·exact absurd h h'
        ·exact absurd h' hkx
   have HM:=qh hm2w;have HB2:=qh hB2;clear hhit hmiss hrg hm2' hB hg2 hs2 hlen hrg2 hm2w hB2 hob hob2 hget hx hi;go_wp2_with fail;refine HC.out.mono ?_;rintro e w3 ⟨A',c',rfl,hob3,hb3⟩;have HM3:=qh (HM.out.below hb3);have HB3:=qh (HB2.out.trans (hb3.mono HB2.out.size));have HO3:=qh hob3;have HBB:=qh hb3;clear hob3 hb3;go_wp2_with (at_mapUpdate;refine zbn _ rfl jT HM3.out (.tmp 14) (.tmp 15) (.tmp 17) rfl Tryz.underlying63 x (.slice A' l.length c') rfl rfl rfl ?_;intro ob hmap2);have HN:=qh (HNEW2.out A' c' w3 _ HO3.out HBB.out (fun k hk=>xT _ _ ob k hk) (zb3 HB3.out (by have:=HM2.out;omega) ob) hmap2);clear hmap2;go_roundw
   case rel=>(repeat apply Exists.intro);exact⟨HN.out.1,rfl⟩
   case measure=>exact HN.out.2
theorem zbz(es:List (Nm × Value))(k y:Nm):mget (mdel es k) y=if y=k then none else mget es y:=by
 induction es with
 | nil=>simp[mdel,mget]
 | cons p r ih =>
  unfold mdel at ih ⊢;rw[List.filter_cons];by_cases h:p.1=k
  ·rw[if_neg (by simpa using h),ih,yC];by_cases hy:y=k
   ·simp only[if_pos hy]
   ·rw[if_neg hy,if_neg hy,if_neg (fun e=>hy (by rw[<-e,h]))]
  ·rw[if_pos (by simpa using h),yC,yC,ih];by_cases hy:p.1=y
   ·rw[if_pos hy,if_pos hy,if_neg (fun e=>h (by rw[hy,e]))]
   ·rw[if_neg hy,if_neg hy]
section
variable {S T:Nat->Prop} {n m:Nat} {w w':World} {es:List (Nm × Value)} {F:FS}
theorem FI.upd{name:Nm}{l:List UInt8}{A:Option Addr}{c:Nat}(hmap:MapAt encStr w' m (mput es name (.slice A l.length c)))(ht:Told S w es F)(hr:Rising F)(hn:T m)(hob:OBS T w' A c l)(hk:∀A c l,OBS S w A c l->OBS T w' A c l):FI T w' m (fset F name l):=by
 refine⟨_,hmap,⟨fun k v hv=>?_,fun k hv=>?_⟩,zcA hr _ _,hn⟩
 ·rw[xQ] at hv;rw[xC];by_cases h:k=name
  ·rw[if_pos h] at hv ⊢;injection hv with hv
   subst hv;exact⟨A,c,l,rfl,hob,rfl⟩
  ·rw[if_neg h] at hv ⊢;obtain⟨A',c',l',h1,h2,h3⟩:=ht.hit k v hv;exact⟨A',c',l',h1,hk _ _ _ h2,h3⟩
 ·rw[xQ] at hv;rw[xC];by_cases h:k=name
  ·rw[if_pos h] at hv;cases hv
  ·rw[if_neg h] at hv ⊢;exact ht.miss k hv
theorem FI.del{name:Nm}(hmap:MapAt encStr w' m (mdel es name))(ht:Told S w es F)(hr:Rising F)(hn:T m)(hk:∀A c l,OBS S w A c l->OBS T w' A c l):FI T w' m (fdel F name):=by
 refine⟨_,hmap,⟨fun k v hv=>?_,fun k hv=>?_⟩,zcz hr _,hn⟩
 ·rw[zbz] at hv;rw[ji];by_cases h:k=name
  ·rw[if_pos h] at hv;cases hv
  ·rw[if_neg h] at hv ⊢;obtain⟨A',c',l',h1,h2,h3⟩:=ht.hit k v hv;exact⟨A',c',l',h1,hk _ _ _ h2,h3⟩
 ·rw[zbz] at hv;rw[ji];by_cases h:k=name
  ·rw[if_pos h]
  ·rw[if_neg h] at hv ⊢;exact ht.miss k hv
def Sx(S:Nat->Prop)(w w':World)(b:Nat):Prop:=S b\/News w w' b
theorem OB.wset{A:Option Addr}{c:Nat}{l:List UInt8}(h:OB w n A c l)(hm:MapAt encStr w m es)(ob:Obj):OB (wset w m ob) n A c l :=
 h.of_block fun b hb=>xT w m ob b (by
  rintro rfl;obtain⟨cs,hcs⟩:=h.blk b hb;exact hm.ne_cells hcs rfl)
theorem OBS.wset{A:Option Addr}{c:Nat}{l:List UInt8}(h:OBS S w A c l)(hm:MapAt encStr w m es)(ob:Obj)(hT:∀b,S b->T b):OBS T (wset w m ob) A c l :=
 ⟨OB.wset h.1 hm ob,fun b hb=>hT b (h.2 b hb)⟩
theorem zaJ(w:World):(zeroValue 34).run Tryz.prog w=.ok (.slice none 0 0) w:=by kernel_rfl
theorem Told.look(ht:Told S w es F)(name:Nm):∃A c,RB w A ((fget F name).getD [])/\∀w',MapAt encStr w' m es->(Instr.lookup 63 (.map (some m)) (encStr name) false).run Tryz.prog w'=.ok (.slice A ((fget F name).getD []).length c) w':=by
 cases hk:mget es name with
 | none =>
  have h0:=ht.miss name hk;rw[h0];refine⟨none,0,RB.nil,fun w' hm=>?_⟩;have:=xI (P:=Tryz.prog) jT hm Tryz.underlying63 (zaJ w') hk false;simpa using this
 | some v =>
  obtain⟨A,c,l,rfl,hob,h0⟩:=ht.hit name v hk;rw[h0];refine⟨A,c,hob.1.rb,fun w' hm=>?_⟩;have:=xW (P:=Tryz.prog) jT hm Tryz.underlying63 hk false;simpa using this
end
theorem RowB.lt{w:World}{g:Nat}{l:List UInt8}(h:RowB w g l):g<w.heap.size:=lt_of_block h
theorem RowB.obs{S:Nat->Prop}{w:World}{g:Nat}{l:List UInt8}(h:RowB w g l)(hg:S g)(hl:l.length<=9223372036854775807):OBS S w (some ⟨g,0,none⟩) l.length l :=
 ⟨h.ob (Nat.zero_le _) hl,fun b hb=>by injection hb with hb;subst hb;exact hg⟩
abbrev wrV(w:Wr)(X:Option Addr)(cx:Nat):Array Value:=#[.int .i64 w.kind,.string ⟨w.name.toArray⟩,.int .i64 (w.off:Int),.slice X w.data.length cx]
theorem Blk.wset_ne{w:World}{g m:Nat}{T:TypeId}{cs:Array Value}(h:Blk w g T cs)(hne:g≠m)(ob:Obj):Blk (wset w m ob) g T cs:=by
 unfold Blk;rw[xT w m ob g hne];exact h
def DoneF(S:Nat->Prop)(m:Nat)(F:FS)(w:World)(e:Ending)(w':World):Prop:=e=.returned (.tuple #[])/\FI (Sx S w w') w' m F/\Mods (fun b=>b=m) w w'
theorem xU{S:Nat->Prop}{m:Nat}{F:FS}(w:World)(h:FI S w m F)(c:Wr)(X:Option Addr)(cx:Nat)(hX:RB w X c.data)(hk:c.kind=1\/c.kind=2\/c.kind=3)(ho:c.off<=4194304)(hd:c.data.length<=140737488355328)(hs:∀k l,fget F k=some l->l.length<=140737488355328) :
  Calls Tryz.prog 46 #[.map (some m),.agg (wrV c X cx)] w (DoneF S m (doF F c) w):=by
 obtain⟨es,hmap,ht,hF,hnm⟩:=h;have hal:Below w.heap.size w (w.alloc (.cells (wrV c X cx) 94)):=(Below.refl _ _).alloc (Nat.le_refl _) _;have hx:=Blk.new w (wrV c X cx) 94;obtain⟨A,cc,hRB,hlk⟩:=ht.look (m:=m) c.name;have hol:((fget F c.name).getD []).length<=140737488355328:=by
  cases hg:fget F c.name with
  | none=>simp
  | some l=>exact hs _ _ hg
 have hmap1:=hmap.below hal;have ht1:=ht.below hal;have hX1:=hX.below hal;have hRB1:=hRB.below hal;have hmlt:=hmap.lt;obtain⟨kind,name,off,data⟩:=c;simp only at *;obtain⟨old,hold⟩:∃old,old=(fget F name).getD []:=⟨_,rfl⟩;rw[<-hold] at hRB1 hlk hol;obtain⟨xb,hxb⟩:∃xb,xb=w.heap.size:=⟨_,rfl⟩;have HXB:=qh hxb;have HMODS:Hid (∀w',Below w.heap.size w w'->Mods (fun b=>b=m) w w'):=qh fun w' hb=>.of_below hb
 rw[<-hxb] at hx;have x0:=hx.cell 0 rfl;have hne:xb≠m:=by omega
 have HLK:=qh hlk;have HOLD:=qh hold;have HT:=qh ht1;have HF:=qh hF;clear hmap ht hX hRB hs hxb hlk hold ht1 hF
 rcases hk with rfl | rfl | rfl
 ·have HDO:Hid (doF F ⟨1,name,off,data⟩=fset F name (putD old off data)):=qh (by rw[HOLD.out];rfl);rw[HDO.out];clear HDO;go_enter Tryz.func46,Tryz.ntmps46;go_wp2_with fail;rw[<-HXB.out];generalize w.alloc (.cells #[.int .i64 1,.string ⟨name.toArray⟩,.int .i64 (off:Int),.slice X data.length cx] 94)=w1 at *;go_wp2_with fail;refine zf (by kernel_rfl) [(0,none),(1,none),(2,none),(3,none),(4,none),(5,none),(6,none),(7,none),(8,none),(9,none),(10,none),(11,some [6,8,10]),(12,some [0,1,2,3,4,5,6,7,8,9,10])] (by kernel_rfl) (by kernel_rfl) (by decide) ?_;intro wq hwq;have hBq:Below w1.heap.size w1 wq:=by rw[hwq];exact(Below.refl _ _).drew
  have hx2:=hx.kept hBq;have y1:=hx2.cell 1 rfl;have y2:=hx2.cell 2 rfl;have y3:=hx2.cell 3 rfl;have hm2:=hmap1.below hBq;have hl2:=HLK.out wq hm2;have hRB2:=hRB1.below hBq;have hX2:=hX1.below hBq;have HT2:=qh (HT.out.below hBq);have hB2:=hal.trans (hBq.mono hal.size);clear hwq hx hmap1 hRB1 hX1 hal;iterate 2 (refine zd ?_)
  refine ze [(⟨xb,1,none⟩,.string ⟨name.toArray⟩)] ?_;iterate 2 (refine zd ?_)
  refine ze [(⟨xb,1,none⟩,.string ⟨name.toArray⟩)] ?_;refine yN (v:=?_) (fun w'=>(Instr.lookup 63 (.map (some m)) (.string ⟨name.toArray⟩) false).run Tryz.prog w'=.ok (.slice A old.length cc) w') rfl (by rfl) (fun w' hw'=>?_) (hl2) ?_;rotate_left;(focus (simp only[List.getElem_toArray,List.getElem_cons_succ,List.getElem_cons_zero];go_simp;first | with_reducible rfl | (simp (disch:=omega) only [if_pos,if_neg,dif_pos,Result.andThen_ok];try with_reducible rfl) | skip));try simp only[List.getElem_toArray,List.getElem_cons_succ,List.getElem_cons_zero,Act.put,List.setIfInBounds_toArray,List.set_cons_zero,List.set_cons_succ]
  iterate 1 (refine zd ?_)
  refine ze [(⟨xb,2,none⟩,.int .i64 (off:Int))] ?_;iterate 1 (refine zd ?_)
  refine ze [(⟨xb,3,none⟩,.slice X data.length cx)] ?_;refine zh rfl (by rfl) (fun K hK=>?_)
  go_simp
  refine(diskPut A cc old off X cx data _ hRB2 hX2 hol ho hd).mono ?_;rintro e w3 ⟨rfl,hr3,hb3⟩;have hx3:=hx2.kept hb3;have hm3:=hm2.below hb3;have HT3:=qh (HT2.out.below hb3);have hB3:=hB2.trans (hb3.mono hB2.size);have hsz3:=hB2.size;clear y1 y2 y3 hl2 hRB2 hX2 HT2 hb3 hx2 hB2 hm2;have y1:=hx3.cell 1 rfl;have y2:=hx3.cell 2 rfl;have y3:=hx3.cell 3 rfl;have hl3:=HLK.out _ hm3;refine zg hK ?_;clear hK K;refine zh rfl (by rfl) (fun K hK=>?_);refine xF jT hm3 (.tmp 8) (.tmp 10) (.tmp 19) (by rfl) Tryz.underlying63 name (.slice (some ⟨wq.heap.size,0,none⟩) (putD old off data).length (putD old off data).length) (by rfl) (by rfl) (by rfl) ?_;intro ob hm4;have hlen:=za4 old off data;have HFIN:Hid (DoneF S m (fset F name (putD old off data)) w (.returned (.tuple #[])) (wset w3 m ob)):=qh ⟨rfl,FI.upd hm4 HT3.out HF.out (.inl hnm) (OBS.wset (hr3.obs (S:=News w w3) ⟨by omega,hr3.lt⟩ (by omega)) hm3 ob (fun b hb=>.inr ⟨hb.1,by rw[qY];exact hb.2⟩)) (fun A c l h=>OBS.wset h hm3 ob fun b hb=>.inl hb),(HMODS.out _ hB3).wset m (.inl rfl) ob⟩;clear y1 y2 y3 hl3;have hx4:=hx3.wset_ne hne ob;have y1:=hx4.cell 1 rfl;have y2:=hx4.cell 2 rfl;have y3:=hx4.cell 3 rfl;refine zg hK ?_;clear hK K;refine zk ?_;clear y1 y2 y3 hx4 hx3 hm3 hm4;go_wp2_with fail;exact bodyPost_end (v:=.tuple #[]) (by kernel_rfl) rfl HFIN.out
 ·have HDO:Hid (doF F ⟨2,name,off,data⟩=fset F name (resizeD old off)):=qh (by rw[HOLD.out];rfl);rw[HDO.out];clear HDO hX1 hd;go_enter Tryz.func46,Tryz.ntmps46;go_wp2_with fail;rw[<-HXB.out];generalize w.alloc (.cells #[.int .i64 2,.string ⟨name.toArray⟩,.int .i64 (off:Int),.slice X data.length cx] 94)=w1 at *;go_wp2_with fail;refine zf (by kernel_rfl) [(0,none),(1,none),(2,none),(3,none),(4,none),(5,none),(6,none),(7,none),(8,none),(9,some [6,8]),(10,some [0,1,2,3,4,5,6,7,8])] (by kernel_rfl) (by kernel_rfl) (by decide) ?_;intro wq hwq;have hBq:Below w1.heap.size w1 wq:=by rw[hwq];exact(Below.refl _ _).drew
  have hx2:=hx.kept hBq;have y1:=hx2.cell 1 rfl;have y2:=hx2.cell 2 rfl;have hm2:=hmap1.below hBq;have hl2:=HLK.out wq hm2;have hRB2:=hRB1.below hBq;have HT2:=qh (HT.out.below hBq);have hB2:=hal.trans (hBq.mono hal.size);clear hwq hx hmap1 hRB1 hal;iterate 2 (refine zd ?_)
  refine ze [(⟨xb,1,none⟩,.string ⟨name.toArray⟩)] ?_;iterate 2 (refine zd ?_)
  refine ze [(⟨xb,1,none⟩,.string ⟨name.toArray⟩)] ?_;refine yN (v:=?_) (fun w'=>(Instr.lookup 63 (.map (some m)) (.string ⟨name.toArray⟩) false).run Tryz.prog w'=.ok (.slice A old.length cc) w') rfl (by rfl) (fun w' hw'=>?_) (hl2) ?_;rotate_left;(focus (simp only[List.getElem_toArray,List.getElem_cons_succ,List.getElem_cons_zero];go_simp;first | with_reducible rfl | (simp (disch:=omega) only [if_pos,if_neg,dif_pos,Result.andThen_ok];try with_reducible rfl) | skip));try simp only[List.getElem_toArray,List.getElem_cons_succ,List.getElem_cons_zero,Act.put,List.setIfInBounds_toArray,List.set_cons_zero,List.set_cons_succ]
  iterate 1 (refine zd ?_)
  refine ze [(⟨xb,2,none⟩,.int .i64 (off:Int))] ?_;refine zh rfl (by rfl) (fun K hK=>?_)
  go_simp
  refine(zak A cc old off _ hRB2 (by omega)).mono ?_;rintro e w3 ⟨rfl,hr3,hb3⟩;have hx3:=hx2.kept hb3;have hm3:=hm2.below hb3;have HT3:=qh (HT2.out.below hb3);have hB3:=hB2.trans (hb3.mono hB2.size);have hsz3:=hB2.size;clear y1 y2 hl2 hRB2 HT2 hb3 hx2 hB2 hm2;have y1:=hx3.cell 1 rfl;have y2:=hx3.cell 2 rfl;have hl3:=HLK.out _ hm3;refine zg hK ?_;clear hK K;refine zh rfl (by rfl) (fun K hK=>?_);refine xF jT hm3 (.tmp 22) (.tmp 24) (.tmp 31) (by rfl) Tryz.underlying63 name (.slice (some ⟨wq.heap.size,0,none⟩) off off) (by rfl) (by rfl) (by rfl) ?_;intro ob hm4;have hlen:=xx old off;have HFIN:Hid (DoneF S m (fset F name (resizeD old off)) w (.returned (.tuple #[])) (wset w3 m ob)):=qh ⟨rfl,FI.upd (l:=resizeD old off) (by rw[hlen];exact hm4) HT3.out HF.out (.inl hnm) (OBS.wset (hr3.obs (S:=News w w3) ⟨by omega,hr3.lt⟩ (by omega)) hm3 ob (fun b hb=>.inr ⟨hb.1,by rw[qY];exact hb.2⟩)) (fun A c l h=>OBS.wset h hm3 ob fun b hb=>.inl hb),(HMODS.out _ hB3).wset m (.inl rfl) ob⟩;clear y1 y2 hl3;have hx4:=hx3.wset_ne hne ob;have y1:=hx4.cell 1 rfl;have y2:=hx4.cell 2 rfl;refine zg hK ?_;clear hK K;refine zk ?_;clear y1 y2 hx4 hx3 hm3 hm4;go_wp2_with fail;exact bodyPost_end (v:=.tuple #[]) (by kernel_rfl) rfl HFIN.out
 ·have HDO:Hid (doF F ⟨3,name,off,data⟩=fdel F name):=qh rfl;rw[HDO.out];have HM1:=qh hmap1;clear HDO hX1 hd hRB1 hmap1;have y1:=hx.cell 1 rfl;go_enter Tryz.func46,Tryz.ntmps46;go_wp2_with fail;rw[<-HXB.out];generalize w.alloc (.cells #[.int .i64 3,.string ⟨name.toArray⟩,.int .i64 (off:Int),.slice X data.length cx] 94)=w1 at *;obtain⟨ob,hrun,hm4⟩:=za8 (P:=Tryz.prog) jT HM1.out Tryz.underlying63 name 0 9;have HRUN:(Builtin.delete_ #[63,9] 0 #[.map (some m),.string ⟨name.toArray⟩]).run Tryz.prog w1=.ok (.tuple #[]) (wset w1 m ob):=hrun;have HM4:=qh hm4;clear hrun hm4;go_wp2_with fail;rw[HRUN];simp only[Result.andThen_ok];go_wp2_with fail;have HFIN:Hid (DoneF S m (fdel F name) w (.returned (.tuple #[])) (wset w1 m ob)):=qh ⟨rfl,FI.del HM4.out HT.out HF.out (.inl hnm) (fun A c l h=>OBS.wset h HM1.out ob fun b hb=>.inl hb),(HMODS.out _ hal).wset m (.inl rfl) ob⟩;exact bodyPost_end (v:=.tuple #[]) (by kernel_rfl) rfl HFIN.out
end Go.Proofs.YtobdmlejabjmiaaGreatDoor
