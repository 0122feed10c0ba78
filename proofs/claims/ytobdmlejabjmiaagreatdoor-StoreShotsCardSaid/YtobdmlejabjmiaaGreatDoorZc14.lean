/- Made small by a program. -/
import Derived.Test.YtobdmlejabjmiaaGreatDoorZc13
import Derived.Deep.AppendLies
set_option maxRecDepth 20000
set_option maxHeartbeats 8000000
namespace Go.Proofs.YtobdmlejabjmiaaGreatDoor
open Go.RowKit
theorem ql{α:Type}{k:Nat}:∀{rows:List (List α)},(∀r∈rows,r.length=k)->∀{i:Nat} {r:List α},rows[i]?=some r->∀{j:Nat},j<k->∀v,rows.flatten.set (i*k+j) v=(rows.set i (r.set j v)).flatten
 | [],_,i,r,h,_,_,_=>by simp at h
 | a::l,hk,0,r,h,j,hj,v=>by
  simp only[List.getElem?_cons_zero,Option.some.injEq] at h;subst h;have:=hk a (by simp);rw[Nat.zero_mul,Nat.zero_add,List.flatten_cons,List.set_cons_zero,List.flatten_cons,List.set_append_left _ _ (by omega)]
 | a::l,hk,i+1,r,h,j,hj,v=>by
  have ha:=hk a (by simp);simp only[List.getElem?_cons_succ] at h;have ih:=ql (fun r hr=>hk r (List.mem_cons_of_mem _ hr)) h hj v;rw[List.flatten_cons,List.set_cons_succ,List.flatten_cons,<-ih,List.set_append_right _ _ (by rw[Nat.add_mul];omega),show(i+1)*k+j - a.length=i*k+j from by rw[Nat.add_mul];omega]
section
variable {w:World} {base:Nat} {e:TypeId} {k c:Nat} {A:Option Addr} {rows:List (List Value)}
theorem OR.head'(h:OR w base e k A c rows)(hn:0<rows.length):∃b,A=some ⟨b,0,none⟩/\base<=b/\b<w.heap.size:=by
 rcases h.form with⟨_,_,rfl⟩ | ⟨g,rfl,hb,hg,_⟩
 ·simp at hn
 ·exact⟨g,rfl,hb,hg⟩
theorem OR.stored{b:Nat}(h:OR w base e k (some ⟨b,0,none⟩) c rows){i:Nat}{r:List Value}(hi:rows[i]?=some r){j:Nat}(hj:j<k)(v:Value) :
  OR (w.setCell ⟨b,i*k+j,none⟩ v) base e k (some ⟨b,0,none⟩) c (rows.set i (r.set j v))/\w.grownBy (w.setCell ⟨b,i*k+j,none⟩ v) (some b):=by
 obtain⟨h1,h2⟩:=World.ownsRow.stored h.1 (i*k+j) v;rw[ql h.2 hi hj] at h1;refine⟨⟨by rw[List.length_set];exact h1,fun q hq=>?_⟩,h2⟩
 rcases List.mem_or_eq_of_mem_set hq with hq | hq
 ·exact h.2 q hq
 ·subst hq;rw[List.length_set];exact h.2 r (List.mem_of_getElem? hi)
theorem OR.free(h:OR w base e k A c rows){b:Nat}(hA:A=some ⟨b,0,none⟩)(j:Nat):w.frozen? ⟨b,j,none⟩=false:=by
 obtain⟨cs,hc⟩:=h.blk b (by rw[hA];rfl);simp[World.frozen?,hc]
end
section
variable {S:Nat->Prop} {w w':World} {g mf ms:Nat} {A:Option Addr} {c:Nat} {D:DSt}
theorem jF(kind:Int)(name:Nm)(off:Int)(data:List UInt8)(Y:Option Addr)(cy:Nat)(h:DI S w g D)(hY:RB w Y data)(hYM:0<data.length->∀b,Y.map (·.block)=some b->¬S b)(hcnt:D.cnt<=1000000)(hs:name.length<=9223372036854775807)(ho:-9223372036854775808<=off/\off<=9223372036854775807)(hdl:data.length<=140737488355328)(hk:kind=1\/kind=2\/kind=3)(hdat:kind≠1->data=[]) :
  Calls Tryz.prog 74 #[.pointer (some ⟨g,0,none⟩),.agg #[.int .i64 kind,.string ⟨name.toArray⟩,.int .i64 off,.slice Y data.length cy]] w (PDone S w g (changeD D ⟨kind,name,off.toNat,data⟩ off).2 (.int .i64 (changeD D ⟨kind,name,off.toNat,data⟩ off).1)):=by
 obtain⟨mf,ms,A,c,hr⟩:=h;have h:DI S w g D:=⟨mf,ms,A,c,hr⟩;cases hd:D.down
 ·by_cases hb:nameOk name=false\/off<0\/4194304<off
  ·refine(qZ ⟨kind,name,off.toNat,data⟩ off Y cy h hd hs ho hb).mono ?_;rintro e w' ⟨rfl,hb'⟩;rw[xo _ _ _ (zdU hd hb) (by decide)];exact hr.same hb' _
  ·have hn:nameOk name=true:=by
    cases hn:nameOk name
    ·exact absurd (.inl hn) hb
    ·rfl
   obtain⟨on,rfl⟩:∃on:Nat,off=(on:Int):=⟨off.toNat,by omega⟩;exact qg kind name on data Y cy hr hY hYM hcnt hd hs (by omega) hdl hk hdat hn
 ·refine(qf ⟨kind,name,off.toNat,data⟩ off Y cy h hd).mono ?_;rintro e w' ⟨rfl,hb⟩;rw[xo _ _ _ (zcw hd) (by decide)];exact hr.same hb _
theorem jW(name:Nm)(off:Int)(data:List UInt8)(Y:Option Addr)(cy:Nat)(h:DI S w g D)(hY:RB w Y data)(hYM:0<data.length->∀b,Y.map (·.block)=some b->¬S b)(hcnt:D.cnt<=1000000)(hs:name.length<=9223372036854775807)(ho:-9223372036854775808<=off/\off<=9223372036854775807)(hdl:data.length<=140737488355328) :
  Calls Tryz.prog 89 #[.pointer (some ⟨g,0,none⟩),.string ⟨name.toArray⟩,.int .i64 off,.slice Y data.length cy] w (PDone S w g (changeD D ⟨1,name,off.toNat,data⟩ off).2 (.int .i64 (changeD D ⟨1,name,off.toNat,data⟩ off).1)):=by
 have C:=qh (jF 1 name off data Y cy h hY hYM hcnt hs ho hdl (.inl rfl) (fun h=>absurd rfl h));clear h hY hYM;go_enter Tryz.func89,Tryz.ntmps89;go_wp2_with fail
 with_reducible refine C.out.mono ?_
 rintro e w' ⟨rfl,h⟩;go_wp2_with fail;go_ret;exact⟨rfl,h⟩
theorem diskCutC(name:Nm)(off:Int)(h:DI S w g D)(hcnt:D.cnt<=1000000)(hs:name.length<=9223372036854775807)(ho:-9223372036854775808<=off/\off<=9223372036854775807) :
  Calls Tryz.prog 94 #[.pointer (some ⟨g,0,none⟩),.string ⟨name.toArray⟩,.int .i64 off] w (PDone S w g (changeD D ⟨2,name,off.toNat,[]⟩ off).2 (.int .i64 (changeD D ⟨2,name,off.toNat,[]⟩ off).1)):=by
 have C:=qh (jF 2 name off [] none 0 h RB.nil (fun h=>absurd h (by simp)) hcnt hs ho (by simp) (.inr (.inl rfl)) (fun _=>rfl));rw[List.length_nil] at C;clear h;go_enter Tryz.func94,Tryz.ntmps94;go_wp2_with fail
 with_reducible refine C.out.mono ?_
 rintro e w' ⟨rfl,h⟩;go_wp2_with fail;go_ret;exact⟨rfl,h⟩
theorem xX(name:Nm)(h:DI S w g D)(hcnt:D.cnt<=1000000)(hs:name.length<=9223372036854775807) :
  Calls Tryz.prog 31 #[.pointer (some ⟨g,0,none⟩),.string ⟨name.toArray⟩] w (PDone S w g (changeD D ⟨3,name,0,[]⟩ 0).2 (.int .i64 (changeD D ⟨3,name,0,[]⟩ 0).1)):=by
 have C:=qh (jF 3 name 0 [] none 0 h RB.nil (fun h=>absurd h (by simp)) hcnt hs (by omega) (by simp) (.inr (.inr rfl)) (fun _=>rfl));rw[List.length_nil] at C;clear h;go_enter Tryz.func31,Tryz.ntmps31;go_wp2_with fail
 with_reducible refine C.out.mono ?_
 rintro e w' ⟨rfl,h⟩;go_wp2_with fail;go_ret;exact⟨rfl,h⟩
theorem qi(h:DI S w g D):Calls Tryz.prog 57 #[.pointer (some ⟨g,0,none⟩)] w fun e w'=>e=.returned (.bool D.down)/\w=w':=by
 obtain⟨mf,ms,A,c,hr⟩:=h;have c5:=hr.blk.cell 5 rfl;clear hr;go_enter Tryz.func57,Tryz.ntmps57;go_wp2_with fail;go_ret;exact⟨rfl,rfl⟩
end
section
variable {S:Nat->Prop} {w w':World} {g mf ms:Nat} {A:Option Addr} {c:Nat} {D:DSt}
theorem xB(h:DI S w g D)(_hcnt:D.cnt<=1000000):Calls Tryz.prog 90 #[.pointer (some ⟨g,0,none⟩)] w (PDone S w g (syncD D).2 (.int .i64 (syncD D).1)):=by
 have AL:=qh (y9 h);obtain⟨mf,ms,A,c,h⟩:=h;cases hd:D.down
 ·rw[if_neg (by rw[hd];simp)] at AL;have HB:=qh (xq h);have HH:=qh h;have hmg:=h.sg;cases hbd:(burnD D).down
  ·have hsy:syncD D=(0,{ burnD D with sure:=D.files,unsure:=[] }):=(by unfold syncD;rw[hd,hbd];rfl);rw[hsy];rw[hbd] at HB;have HBD:=qh hbd;clear h hsy hbd hd;go_enter Tryz.func90,Tryz.ntmps90;go_wp2_with fail;refine AL.out.mono ?_;rintro e w1 ⟨rfl,rfl⟩;go_wp2_with fail;refine HB.out.mono ?_;rintro e w2 ⟨rfl,h2,hm2⟩;have CL:=qh (yg w2 h2.fi (fun k l hk=>by have:=h2.ok.files k l hk;omega));have c0:=h2.blk.cell 0 rfl;have H2:=qh h2;clear h2 AL HB;go_wp2_with fail;refine CL.out.mono ?_;rintro e w3 ⟨rfl,hf3,hb3⟩;have H3:=qh (H2.out.below hb3);have c1:=H3.out.blk.cell 1 rfl;have c2':=H3.out.blk.cell 2 rfl;have f1:=H3.out.blk.free 1;have f2:=H3.out.blk.free 2;have HFIN:Hid (PDone S w g { burnD D with sure:=D.files,unsure:=[] } (.int .i64 0) (.returned (.int .i64 0)) ((w3.setCell ⟨g,1,none⟩ (.map (some w2.heap.size))).setCell ⟨g,2,none⟩ (.slice none 0 0))):=qh (by
    have hkb:∀b,b≠g->((w3.setCell ⟨g,1,none⟩ (.map (some w2.heap.size))).setCell ⟨g,2,none⟩ (.slice none 0 0)).heap[b]?=w3.heap[b]?:=fun b hb=>(by rw[Below.heap_setCell _ _ _ b hb,Below.heap_setCell _ _ _ b hb]);have hsz3:((w3.setCell ⟨g,1,none⟩ (.map (some w2.heap.size))).setCell ⟨g,2,none⟩ (.slice none 0 0)).heap.size=w3.heap.size:=(by simp);have hbk:=(H3.out.blk.setCell 1 (.map (some w2.heap.size))).setCell 2 (.slice none 0 0);have hs2:=hm2.size;have hs3:=hb3.size;refine⟨rfl,⟨mf,w2.heap.size,none,0,?_,?_,?_,?_,UI.nil _ _,.inl hmg,?_,fun b hb=>?_⟩,((Mods.below (hm2.mono fun b _ hb=>by subst hb;exact hmg) hb3).setCell _ (.inl hmg) _).setCell _ (.inl hmg) _⟩
    ·exact hbk
    ·show FI _ _ _ (List.foldl doF D.files []);have:=(H3.out.fi.mono (T:=Sx S w ((w3.setCell ⟨g,1,none⟩ (.map (some w2.heap.size))).setCell ⟨g,2,none⟩ (.slice none 0 0))) fun b _ hb=>.inl hb).of_var H3.out.blk (by decide) hkb;rw[zF] at this;exact this
    ·have:=(hf3.mono (T:=Sx S w ((w3.setCell ⟨g,1,none⟩ (.map (some w2.heap.size))).setCell ⟨g,2,none⟩ (.slice none 0 0))) fun b _ hb=>.inr ⟨by have:=hb.1;omega,by rw[hsz3];exact hb.2⟩).of_var H3.out.blk (by decide) hkb;rw[zF] at this;exact this
    ·have:=H2.out.fi.at_;obtain⟨es,hm⟩:=this;have:=hm.lt;omega
    ·exact⟨(zcP HH.out.ok).1,(zcP HH.out.ok).2.1,HH.out.ok.files,by simp⟩
    ·rcases hb with hb | hb
     ·have:=HH.out.bnd b hb;rw[hsz3];omega
     ·exact hb.2)
   clear hf3 hb3 H2 H3 CL hm2 c0 HBD HH;go_wp2_with fail;go_ret;exact HFIN.out
  ·have hsy:syncD D=(11,burnD D):=(by unfold syncD;rw[hd,hbd];rfl);rw[hsy];rw[hbd] at HB;clear h hsy hbd hd;go_enter Tryz.func90,Tryz.ntmps90;go_wp2_with fail;refine AL.out.mono ?_;rintro e w1 ⟨rfl,rfl⟩;go_wp2_with fail;refine HB.out.mono ?_;rintro e w2 ⟨rfl,h2,hm2⟩;have HF:Hid (PDone S w g (burnD D) (.int .i64 11) (.returned (.int .i64 11)) w2):=qh ⟨rfl,h2.sx hm2.size HH.out.bnd,hm2.mono fun b _ hb=>by subst hb;exact hmg⟩;clear h2 hm2 HB AL HH;go_wp2_with fail;go_ret;exact HF.out
 ·rw[if_pos hd] at AL;have hsy:syncD D=(11,D):=by unfold syncD;rw[hd];rfl
  rw[hsy];have HF:=qh (h.same (Below.refl _ _) (.int .i64 11));clear h hsy hd;go_enter Tryz.func90,Tryz.ntmps90;go_wp2_with fail;refine AL.out.mono ?_;rintro e w1 ⟨rfl,rfl⟩;go_wp2_with fail;go_ret;exact HF.out
theorem zbu(name:Nm)(h:DI S w g D)(hn:name.length<=9223372036854775807):Calls Tryz.prog 59 #[.pointer (some ⟨g,0,none⟩),.string ⟨name.toArray⟩] w (ReadEnd w D name):=by
 have AL:=qh (y9 h);obtain⟨mf,ms,A,c,h⟩:=h;cases hd:D.down
 ·rw[if_neg (by rw[hd];simp)] at AL;have NM:=qh (qj ⟨name.toArray⟩ w (by simpa [ByteArray.size] using hn));cases hno:nameOk name
  ·rw[show nameOk (⟨name.toArray⟩:ByteArray).data.toList=false from hno] at NM;have HE:Hid (readE D name=1):=qh (by unfold readE;rw[hd,hno];rfl);clear h hd hno;go_enter Tryz.func59,Tryz.ntmps59;go_wp2_with fail;refine AL.out.mono ?_;rintro e w1 ⟨rfl,rfl⟩;go_wp2_with fail;refine NM.out.mono ?_;rintro e w2 ⟨rfl,hb⟩;clear AL NM;go_wp2_with fail
   go_ret2
   exact x8 HE.out (by decide) hb
  ·rw[show nameOk (⟨name.toArray⟩:ByteArray).data.toList=true from hno] at NM;obtain⟨es,hmap,ht,_,_⟩:=h.fi;obtain⟨Ao,co,hrb,hl⟩:=ht.look2 (m:=mf) name;have HMAP:=qh hmap;have HL:=qh hl;have HRB:=qh hrb;have HBL:=qh h.blk;have HRE:Hid (∀b,(fget D.files name).isSome=b->readE D name=if b=true then 0 else 8):=qh fun b hb=>(by unfold readE;rw[hd,hno,hb];rfl);have hol:((fget D.files name).getD []).length<=4194304:=by
    cases hg:fget D.files name with
    | none=>simp
    | some l=>exact h.ok.files _ _ hg
   have HOL:Hid (∃l,(fget D.files name).getD []=l):=qh ⟨_,rfl⟩;clear h hd hno hmap ht hl hrb;obtain⟨old,hold⟩:=HOL.out;rw[hold] at HL HRB hol;have HOLD:=qh hold;clear hold HOL;cases hse:(fget D.files name).isSome
   ·have HE:Hid (readE D name=8):=qh (by rw[HRE.out false hse];rfl);rw[hse] at HL;clear hse HRE;go_enter Tryz.func59,Tryz.ntmps59;go_wp2_with fail;refine AL.out.mono ?_;rintro e w1 ⟨rfl,rfl⟩;go_wp2_with fail;refine NM.out.mono ?_;rintro e w2 ⟨rfl,hb⟩;have c0:=(HBL.out.kept hb).cell 0 rfl;have hlk:=HL.out w2 (HMAP.out.below hb);clear AL NM;go_wp2_with fail
    go_ret2
    exact x8 HE.out (by decide) hb
   ·have HE:Hid (readE D name=0):=qh (by rw[HRE.out true hse];rfl);have HB:Hid (readB D name=old):=qh (by unfold readB;rw[HE.out,if_pos rfl,HOLD.out]);rw[hse] at HL;clear hse HRE;go_enter Tryz.func59,Tryz.ntmps59;go_wp2_with fail;refine AL.out.mono ?_;rintro e w1 ⟨rfl,rfl⟩;go_wp2_with fail;refine NM.out.mono ?_;rintro e w2 ⟨rfl,hb⟩;have c0:=(HBL.out.kept hb).cell 0 rfl;have hlk:=HL.out w2 (HMAP.out.below hb);have CL:=qh (yH Ao co old w2 (HRB.out.below hb) (by omega));clear AL NM;go_wp2_with fail;refine CL.out.mono ?_;rintro e w3 ⟨A',c',rfl,ho,hb3⟩;have HF:Hid (ReadEnd w D name (.returned (.tuple #[.slice A' old.length c',.int .i64 0])) w3):=qh ⟨A',c',by rw[HB.out,HE.out],by rw[HB.out];exact ho.base_le hb.size,hb.trans (hb3.mono hb.size)⟩;clear CL ho hb3 hb HMAP HL HRB HBL;go_wp2_with fail
    go_ret2
    exact HF.out
 ·rw[if_pos hd] at AL;have HE:Hid (readE D name=11):=qh (by unfold readE;rw[hd];rfl);clear h hd;go_enter Tryz.func59,Tryz.ntmps59;go_wp2_with fail;refine AL.out.mono ?_;rintro e w1 ⟨rfl,rfl⟩;go_wp2_with fail
  go_ret2
  exact x8 HE.out (by decide) (Below.refl _ _)
end
theorem OR.wcells{w:World}{n c k:Nat}{B:Option Addr}{U:List (Wr × Option Addr × Nat)}(h:OR w n 94 4 B c (U.map wrRow))(hk:k<U.length):∃b,B=some ⟨b,0,none⟩/\b<w.heap.size/\∀w':World,w'.heap[b]?=w.heap[b]?->w'.cell? ⟨b,k*4,none⟩=some (.int .i64 U[k].1.kind)/\w'.cell? ⟨b,k*4+1,none⟩=some (.string ⟨U[k].1.name.toArray⟩)/\w'.cell? ⟨b,k*4+2,none⟩=some (.int .i64 (U[k].1.off:Int))/\w'.cell? ⟨b,k*4+3,none⟩=some (.slice U[k].2.1 U[k].1.data.length U[k].2.2):=by
 obtain⟨b,rfl,_,hb⟩:=h.head' (by simp;omega);refine⟨b,rfl,hb,fun w' hw=>?_⟩;have hi:(U.map wrRow)[k]?=some (wrRow U[k]):=by simp[hk]
 have h0:=h.rs.get hi 0 rfl;have h1:=h.rs.get hi 1 rfl;have h2:=h.rs.get hi 2 rfl;have h3:=h.rs.get hi 3 rfl;rw[Nat.zero_add] at h0 h1 h2 h3;have e:∀o,w'.cell? ⟨b,o,none⟩=w.cell? ⟨b,o,none⟩:=fun o=>World.cell?_of_block (w:=w) (a:=⟨b,o,none⟩) hw
 exact⟨(e _).trans h0,(e _).trans h1,(e _).trans h2,(e _).trans h3⟩
section
variable {S:Nat->Prop} {w w':World} {g mf ms:Nat} {A:Option Addr} {c:Nat} {D:DSt}
end
section
variable {S:Nat->Prop} {w w':World} {g mf ms:Nat} {A:Option Addr} {c:Nat} {D:DSt}
end
theorem OV.mods{S:Nat->Prop}{w a:World}{base c:Nat}{e:TypeId}{A:Option Addr}{xs:List Value}(h:OV w base e A c xs)(m:Mods S w a)(hn:∀k,A.map (·.block)=some k->¬S k):OV a base e A c xs:=by
 refine⟨h.1,?_⟩
 rcases h.2 with h2 | ⟨g,cap,cur,hv,hg,hh,r⟩
 ·exact .inl h2
 ·injection hv with hv1 hv2 hv3
  subst hv1 hv3;exact .inr ⟨g,_,cur,rfl,hg,by rw[m.block g (lt_of_block hh) (hn g rfl)];exact hh,r⟩
theorem OV.ne_blk{w:World}{B g c:Nat}{e T:TypeId}{cs:Array Value}{A:Option Addr}{xs:List Value}(h:OV w B e A c xs)(hb:Blk w g T cs)(hT:T≠e):A.map (·.block)≠some g:=by
 rcases h.2 with⟨hv,_⟩ | ⟨g',cap,cur,hv,_,hg,_⟩
 ·injection hv with h1 _ _;subst h1;simp
 ·injection hv with h1 _ _;subst h1
  intro e';have e':g'=g:=by simpa using e'
  subst e';have hb':w.heap[g']?=_:=hb;rw[hg] at hb';injection hb' with hb'
  injection hb' with _ ht
  exact hT ht.symm
theorem OB.ne_blk{w:World}{B g c:Nat}{T:TypeId}{cs:Array Value}{A:Option Addr}{l:List UInt8}(h:OB w B A c l)(hb:Blk w g T cs)(hT:T≠5):A.map (·.block)≠some g:=by
 rcases h.2 with⟨hv,_⟩ | ⟨g',cap,cur,hv,_,hg,_⟩
 ·injection hv with h1 _ _;subst h1;simp
 ·injection hv with h1 _ _;subst h1
  intro e';have e':g'=g:=by simpa using e'
  subst e';have hb':w.heap[g']?=_:=hb;rw[hg] at hb';injection hb' with hb'
  injection hb' with _ ht
  exact hT ht.symm
theorem OV.blk_lt{w:World}{B c:Nat}{e:TypeId}{A:Option Addr}{xs:List Value}(h:OV w B e A c xs):∀k,A.map (·.block)=some k->B<=k/\k<w.heap.size:=fun k hk=>h.own_lt k (by cases A<;>simp_all [Value.ownBlock])
theorem OB.blk_in{w:World}{B c:Nat}{A:Option Addr}{l:List UInt8}(h:OB w B A c l):∀k,A.map (·.block)=some k->B<=k/\k<w.heap.size:=fun k hk=>h.own_lt k (by cases A<;>simp_all [Value.ownBlock])
theorem OV.take{w:World}{B c:Nat}{e:TypeId}{A:Option Addr}{xs:List Value}(h:OV w B e A c xs)(n:Nat):OV w B e A c (xs.take n):=by
 have hl:(xs.take n).length<=xs.length:=by rw[List.length_take];omega
 refine⟨by simp,?_⟩
 rcases h.2 with⟨hv,h0⟩ | ⟨g,cap,cur,hv,hg,hh,r1,r2,r3,r4⟩
 ·injection hv with h1 h2 h3
  subst h1 h3;have:xs.take n=[]:=List.eq_nil_of_length_eq_zero (by omega);rw[this];exact .inl ⟨rfl,rfl⟩
 ·injection hv with h1 h2 h3
  subst h1 h3;refine .inr ⟨g,_,cur,rfl,hg,hh,by omega,r2,r3,?_⟩;rw[Nat.mul_one] at r4 ⊢;have e5:xs.take n=cur.toList.take (min n xs.length):=by
   conv=>lhs;rw[<-r4]
   rw[List.take_take]
  rw[List.length_take,e5]
theorem OV.cells{w:World}{B c:Nat}{e:TypeId}{A:Option Addr}{xs:List Value}(h:OV w B e A c xs):A=none\/∃g cs,A=some ⟨g,0,none⟩/\Blk w g e cs:=by
 rcases h.2 with⟨hv,h0⟩ | ⟨g,cap,cur,hv,_,hg,_⟩
 ·injection hv with h1 h2 h3;exact .inl h1
 ·injection hv with h1 h2 h3;exact .inr ⟨g,cur,h1,hg⟩
theorem OB.cells{w:World}{B c:Nat}{A:Option Addr}{l:List UInt8}(h:OB w B A c l):A=none\/∃g cs,A=some ⟨g,0,none⟩/\Blk w g 5 cs:=by
 rcases h.2 with⟨hv,h0⟩ | ⟨g,cap,cur,hv,_,hg,_⟩
 ·injection hv with h1 h2 h3;exact .inl h1
 ·injection hv with h1 h2 h3;exact .inr ⟨g,cur,h1,hg⟩
theorem Blk.ne{w:World}{g k:Nat}{T U:TypeId}{cs ds:Array Value}(h:Blk w g T cs)(h':Blk w k U ds)(hT:T≠U):g≠k:=by
 rintro rfl;have h1:w.heap[g]?=_:=h;have h2:w.heap[g]?=_:=h';rw[h1] at h2;injection h2 with h2
 injection h2 with _ h2
 exact hT h2
theorem OV.lit1(w:World){base:Nat}(hb:base<=w.heap.size)(v:Value)(T:TypeId):OV (w.alloc (.cells #[v] T)) base T (some ⟨w.heap.size,0,none⟩) 1 [v] :=
 World.ownsRow_lit w #[v] 1 hb (by unfold maxLen;omega) rfl
theorem OV.cap_eq{w:World}{B B' c c':Nat}{e e':TypeId}{A:Addr}{xs ys:List Value}(h:OV w B e (some A) c xs)(k:OV w B' e' (some A) c' ys):c=c':=by
 rcases h.2 with⟨hv,_⟩ | ⟨g,cap,cur,hv,_,hh,_,_,r,_⟩
 ·injection hv with h1 _ _;cases h1
 ·rcases k.2 with⟨kv,_⟩ | ⟨g',cap',cur',kv,_,kh,_,_,r',_⟩
  ·injection kv with h1 _ _;cases h1
  ·injection hv with h1 _ h3
   injection kv with k1 _ k3
   rw[h1] at k1;injection k1 with k1
   injection k1 with k1 _ _
   subst k1;rw[hh] at kh;injection kh with kh
   injection kh with kh _ _
   subst kh h3 k3;omega
theorem qK{P:Program}(w:World)(t ty e:TypeId){i:TypeInfo}{z:Value}(ht:P.underlying t=some (.slice e))(hi:P.info? e=some i)(hz:i.zero=some z)(hz1:i.size=1)(hzs:z.cells.size=1)
  (base:Nat) (A:Option Addr) (c:Nat) (xs:List Value) (hown:OV w base e A c xs) (ad:Addr) (m d:Nat) (news:List Value) (hl:news.length=m) (hm:0<m) (hnews:∀j u,news[j]?=some u->w.cell? (ad.add j)=some u) (h1:∀u∈news,u.oneCell'=true)
  (h63:xs.length+m<=140737488355328) (hbytes:(xs.length+m)*i.bytes<=140737488355328) (hbase:base<=w.heap.size) :
  ∃(g c':Nat) (w':World),(Builtin.append_ #[t,t] ty #[.slice A xs.length c,.slice (some ad) m d]).run P w=.ok (.slice (some ⟨g,0,none⟩) (xs++news).length c') w'/\OV w' base e (some ⟨g,0,none⟩) c' (xs++news)/\OV w' base e A c xs /\
   w.grownBy w' (A.map (·.block))/\(A.map (·.block)=some g\/g=w.heap.size):=by
 have hlm:(xs++news).length=xs.length+m:=by rw[List.length_append,hl]
 obtain⟨v',w',hr,h2,h3,_,h5⟩:=run_append_own_at (P:=P) w base t ty e i z 1 i.bytes ht hi hz hz1 rfl hzs (by decide) (.slice A xs.length c) xs.length xs hown ad m d news (by omega) hnews h1 (by unfold maxLen;omega) hbytes hbase;obtain⟨g,c',rfl,_,_⟩:=h2.form (by omega);have ho:Value.ownBlock (.slice A xs.length c)=A.map (·.block):=by cases A<;>rfl
 rw[ho] at h3 h5;refine⟨g,c',w',by rw[hlm];exact hr,by unfold OV;rw[hlm];exact h2,?_,h3,?_⟩
 ·rcases hown.2 with⟨hv,h0⟩ | ⟨b,cap,cur,hv,hbg,hg,hnc,hcm,hcs,htake⟩
  ·injection hv with e1 _ e3
   subst e1 e3;have:xs=[]:=List.eq_nil_of_length_eq_zero h0;subst this;exact World.ownsRow_nil _ _ _ _
  ·injection hv with e1 _ e3
   subst e1 e3;by_cases hroom:xs.length+m<=c
   ·have hfit:xs.length*i.size+news.length<=cur.size:=(by rw[hz1,hcs];omega);have hr':=run_append_room (P:=P) w t ty e i ht hi b xs.length c cur hg ad m d news (by rw[hz1];omega) hnews h1 hroom hfit;rw[hr] at hr';injection hr' with _ hw
    subst hw;refine⟨hown.1,.inr ⟨b,c,_,rfl,hbg,setRow_heap w b cur _ e _ hg,hnc,hcm,?_,?_⟩⟩
    ·simp only[List.size_toArray,List.length_append,List.length_take,List.length_drop,Array.length_toList];rw[hz1] at hfit ⊢;omega
    ·rw[hz1];rw[Nat.mul_one] at htake ⊢;have e4:(cur.toList.take xs.length).length=xs.length:=(by rw[htake]);rw[List.append_assoc,List.take_append_of_le_length (by omega),List.take_take,Nat.min_self,htake]
   ·have holds:∀j u,xs[j]?=some u->w.cell? ((⟨b,0,none⟩:Addr).add j)=some u:=World.ownsRow.cells hown (g:=b) rfl;have hr':=run_append_grow (P:=P) w t ty e i z ht hi hz ⟨b,0,none⟩ xs.length c xs (by rw[hz1];omega) holds ad m d news (by rw[hz1];omega) hnews (by omega) (by omega) (growslice_fits (by omega) hbytes);rw[hr] at hr';injection hr' with _ hw
    subst hw;refine⟨hown.1,.inr ⟨b,c,cur,rfl,hbg,?_,hnc,hcm,hcs,htake⟩⟩;have hbl:b<w.drew.heap.size:=lt_of_block hg;exact(heap_alloc_old w.drew _ hbl).trans hg
 ·rcases h5 with h5 | h5
  ·exact .inl (by rw[<-h5];rfl)
  ·right;have:g=w.heap.size:=(by simpa [Value.ownBlock] using h5);exact this
theorem xR(w:World){o:Oper}{a:Act}{N:Act->World->Prop}{Q:Exit->Act->World->Prop}(s x:Operand)(t e:TypeId){i:TypeInfo}{z:Value}{bytes:Nat}
  (ho:o.op=.call { callee:=.builtin .append,args:=#[s,x],argTypes:=#[t,t] })
  (ht:Tryz.prog.underlying t=some (.slice e)) (hi:Tryz.prog.info? e=some i) (hz0:i.zero=some z) (hz1:i.size=1) (hz2:i.bytes=bytes) (hzs:z.cells.size=1)
  (base:Nat) (A:Option Addr) (c d b:Nat) (xs:List Value) (v:Value) (hs:a.eval s=.slice A xs.length c) (hx:a.eval x=.slice (some ⟨b,0,none⟩) 1 d)
  (hown:OV w base e A c xs) (hv:w.cell? ⟨b,0,none⟩=some v) (h1:v.oneCell'=true) (hlen:(xs.length+1)*bytes<=140737488355328) (hl2:xs.length+1<=140737488355328) (hbase:base<=w.heap.size)
  (h:∀(ys:List Value) (n g c':Nat) (w':World),Hid (ys=xs++[v])->n=xs.length+1->OV w' base e (some ⟨g,0,none⟩) c' (xs++[v])->OV w' base e A c xs->w.grownBy w' (A.map (·.block))->(A.map (·.block)=some g\/g=w.heap.size) ->
   N (a.put o.dst (.slice (some ⟨g,0,none⟩) n c')) w'):o.wp Tryz.prog a w N Q:=by
 subst hz2;obtain⟨g,c',w',hr,h2,h3,h4,h5⟩:=qK (P:=Tryz.prog) w t o.type e ht hi hz0 hz1 hzs base A c xs hown ⟨b,0,none⟩ 1 d [v] rfl (by decide) (fun j u hj=>by
  cases j with
  | zero=>simp at hj;subst hj;exact hv
  | succ j=>simp at hj) (fun u hu=>by rw[List.mem_singleton.1 hu];exact h1) hl2 hlen hbase
 unfold Oper.wp;rw[List.length_append,List.length_singleton] at hr;simp only[execOp,ho,resolve,invoke,builtin,Sem.run_bind,Sem.run_pure,Result.andThen_ok,List.map_toArray,List.map_cons,List.map_nil,hs,hx,hr];exact h (xs++[v]) _ g c' w' (qh rfl) rfl h2 h3 h4 h5
theorem yP(w:World){ops:Array Oper}{rest:List Oper}{o:Oper}{a:Act}{Q:Exit->Act->World->Prop}(hgd:o.guard=none)(s x:Operand)(t e:TypeId){i:TypeInfo}{z:Value}{bytes:Nat}
  (ho:o.op=.call { callee:=.builtin .append,args:=#[s,x],argTypes:=#[t,t] })
  (ht:Tryz.prog.underlying t=some (.slice e)) (hi:Tryz.prog.info? e=some i) (hz0:i.zero=some z) (hz1:i.size=1) (hz2:i.bytes=bytes) (hzs:z.cells.size=1)
  (base:Nat) (A:Option Addr) (c d b:Nat) (xs:List Value) (v:Value) (hs:a.eval s=.slice A xs.length c) (hx:a.eval x=.slice (some ⟨b,0,none⟩) 1 d)
  (hown:OV w base e A c xs) (hv:w.cell? ⟨b,0,none⟩=some v) (h1:v.oneCell'=true) (hlen:(xs.length+1)*bytes<=140737488355328) (hl2:xs.length+1<=140737488355328) (hbase:base<=w.heap.size)
  (h:∀(ys:List Value) (n g c':Nat) (w':World),Hid (ys=xs++[v])->n=xs.length+1->OV w' base e (some ⟨g,0,none⟩) c' (xs++[v])->OV w' base e A c xs->w.grownBy w' (A.map (·.block))->(A.map (·.block)=some g\/g=w.heap.size) ->
   wpList Tryz.prog ops Q rest (a.put o.dst (.slice (some ⟨g,0,none⟩) n c')) w'):wpList Tryz.prog ops Q (o::rest) a w:=by
 exact wpList_plain hgd fun K hK=>xR w s x t e ho ht hi hz0 hz1 hz2 hzs base A c d b xs v hs hx hown hv h1 hlen hl2 hbase fun ys n g c' w' k1 k2 k3 k4 k5 k6=>hK _ _ (h ys n g c' w' k1 k2 k3 k4 k5 k6)
end Go.Proofs.YtobdmlejabjmiaaGreatDoor
