/- Made small by a program. -/
import Derived.Test.YtobdmlejabjmiaaGreatDoorZc18
import Derived.Shelf.SlGeneric
import Derived.Shelf.SlIter.Nil
import Derived.Shelf.SortM.Plain
import Derived.Shelf.SortM.SortNone
import Derived.Ground.GgzProg
import Derived.Ground.SlgmProg
import Derived.Lib.ItoaMem
import Derived.Lib.ParseIntBCases
import Derived.Lib.Split
import Derived.Lib.LaidTab
import Derived.MakeChecks
set_option maxRecDepth 20000
set_option maxHeartbeats 8000000
namespace Go.Proofs
open Go.RowKit Go.Maps Go.Sort Go.Shelf
def Tryz.keys73_ren:Go.Shelf.Ren:=⟨fun | 7=>73 | 10=>137 | n=>n,fun | 23=>63 | 26=>9 | 3=>34 | 28=>133 | 0=>0 | 27=>132 | 33=>116 | 4=>4 | n=>n,fun | n=>n⟩
theorem Tryz.keys73:Go.Proofs.SlLaysZ.n7 Tryz.prog Tryz.keys73_ren:={
 mixed:=by kernel_rfl
 f7:=⟨Tryz.f73.name,by decide,Tryz.func73.trans (congrArg some (by kernel_rfl))⟩
 f10:=⟨Tryz.f137.name,by decide,Tryz.func137.trans (congrArg some (by kernel_rfl))⟩
 t0:=Tryz.underlying0
 a0:=Tryz.isAgg0
 z0:=Tryz.sizeOf0
 v0:=Tryz.zeroValue0
 t4:=Tryz.underlying4
 a4:=Tryz.isAgg4
 z4:=Tryz.sizeOf4
 v4:=Tryz.zeroValue4
 t23:=Tryz.underlying63
 a23:=Tryz.isAgg63
 z23:=Tryz.sizeOf63
 v23:=Tryz.zeroValue63
 t26:=Tryz.underlying9
 a26:=Tryz.isAgg9
 z26:=Tryz.sizeOf9
 v26:=Tryz.zeroValue9
 t27:=Tryz.underlying132
 a27:=Tryz.isAgg132
 z27:=Tryz.sizeOf132
 v27:=Tryz.zeroValue132
 t28:=Tryz.underlying133
 a28:=Tryz.isAgg133
 z28:=Tryz.sizeOf133
 v28:=Tryz.zeroValue133
 t33:=Tryz.underlying116
 a33:=Tryz.isAgg116
 z33:=Tryz.sizeOf116
 v33:=Tryz.zeroValue116 }
def Tryz.sorted72_ren:Go.Shelf.Ren:=⟨fun | 6=>72 | 8=>135 | 9=>136 | 11=>188 | 13=>131 | 12=>189 | 23=>187 | 24=>155 | 14=>221 | 15=>222 | 16=>223 | 17=>224 | 18=>225 | 19=>226 | 20=>227 | 21=>228 | 22=>229 | 25=>247 | 26=>217 | 27=>218 | 28=>248 | 29=>249 | 30=>250 | 31=>257 | n=>n,fun | 26=>9 | 28=>133 | 24=>79 | 0=>0 | 3=>3 | 37=>206 | 48=>198 | 50=>23 | 4=>4 | 40=>250 | 39=>249 | 45=>254 | 5=>5 | 9=>9 | 51=>279 | 55=>282 | 57=>303 | 58=>304 | 33=>116 | n=>n,fun | n=>n⟩
theorem Tryz.sorted72:Go.Proofs.SlLaysZ.n6 Tryz.prog Tryz.sorted72_ren:={
 mixed:=by kernel_rfl
 f6:=⟨Tryz.f72.name,by decide,Tryz.func72.trans (congrArg some (by kernel_rfl))⟩
 f8:=⟨Tryz.f135.name,by decide,Tryz.func135.trans (congrArg some (by kernel_rfl))⟩
 f11:=⟨Tryz.f188.name,by decide,Tryz.func188.trans (congrArg some (by kernel_rfl))⟩
 t0:=Tryz.underlying0
 a0:=Tryz.isAgg0
 z0:=Tryz.sizeOf0
 v0:=Tryz.zeroValue0
 t24:=Tryz.underlying79
 a24:=Tryz.isAgg79
 z24:=Tryz.sizeOf79
 v24:=Tryz.zeroValue79
 t26:=Tryz.underlying9
 a26:=Tryz.isAgg9
 z26:=Tryz.sizeOf9
 v26:=Tryz.zeroValue9
 t28:=Tryz.underlying133
 a28:=Tryz.isAgg133
 z28:=Tryz.sizeOf133
 v28:=Tryz.zeroValue133
 i26:=by kernel_rfl }
def Tryz.sort136_ren:Go.Shelf.Ren:=⟨fun | 6=>136 | 8=>131 | 9=>189 | 19=>187 | 20=>155 | 21=>221 | 22=>222 | 23=>223 | 24=>224 | 25=>225 | 26=>226 | 27=>227 | 28=>228 | 29=>229 | 36=>247 | 31=>217 | 32=>218 | 37=>248 | 38=>249 | 39=>250 | 41=>257 | n=>n,fun | 27=>79 | 29=>9 | 3=>3 | 32=>206 | 26=>79 | 0=>0 | 44=>198 | 46=>23 | 4=>4 | 36=>250 | 35=>249 | 41=>254 | 5=>5 | 9=>9 | 53=>279 | 57=>282 | 63=>303 | 64=>304 | n=>n,fun | n=>n⟩
theorem Tryz.sort136:Go.Proofs.SlLaysM.n6 Tryz.prog Tryz.sort136_ren:={
 mixed:=by kernel_rfl
 f6:=⟨Tryz.f136.name,by decide,Tryz.func136.trans (congrArg some (by kernel_rfl))⟩
 f8:=Tryz.func131.trans (congrArg some (by kernel_rfl))
 f9:=⟨Tryz.f189.name,by decide,Tryz.func189.trans (congrArg some (by kernel_rfl))⟩
 f19:=Tryz.func187.trans (congrArg some (by kernel_rfl))
 f20:=Tryz.func155.trans (congrArg some (by kernel_rfl))
 f21:=⟨Tryz.f221.name,by decide,Tryz.func221.trans (congrArg some (by kernel_rfl))⟩
 f22:=⟨Tryz.f222.name,by decide,Tryz.func222.trans (congrArg some (by kernel_rfl))⟩
 f23:=⟨Tryz.f223.name,by decide,Tryz.func223.trans (congrArg some (by kernel_rfl))⟩
 f24:=⟨Tryz.f224.name,by decide,Tryz.func224.trans (congrArg some (by kernel_rfl))⟩
 f25:=⟨Tryz.f225.name,by decide,Tryz.func225.trans (congrArg some (by kernel_rfl))⟩
 f26:=⟨Tryz.f226.name,by decide,Tryz.func226.trans (congrArg some (by kernel_rfl))⟩
 f27:=⟨Tryz.f227.name,by decide,Tryz.func227.trans (congrArg some (by kernel_rfl))⟩
 f28:=⟨Tryz.f228.name,by decide,Tryz.func228.trans (congrArg some (by kernel_rfl))⟩
 f29:=⟨Tryz.f229.name,by decide,Tryz.func229.trans (congrArg some (by kernel_rfl))⟩
 f31:=Tryz.func217.trans (congrArg some (by kernel_rfl))
 f32:=Tryz.func218.trans (congrArg some (by kernel_rfl))
 f36:=⟨Tryz.f247.name,by decide,Tryz.func247.trans (congrArg some (by kernel_rfl))⟩
 f37:=⟨Tryz.f248.name,by decide,Tryz.func248.trans (congrArg some (by kernel_rfl))⟩
 f38:=⟨Tryz.f249.name,by decide,Tryz.func249.trans (congrArg some (by kernel_rfl))⟩
 f39:=⟨Tryz.f250.name,by decide,Tryz.func250.trans (congrArg some (by kernel_rfl))⟩
 f41:=⟨Tryz.f257.name,by decide,Tryz.func257.trans (congrArg some (by kernel_rfl))⟩
 t0:=Tryz.underlying0
 a0:=Tryz.isAgg0
 z0:=Tryz.sizeOf0
 v0:=Tryz.zeroValue0
 t3:=Tryz.underlying3
 a3:=Tryz.isAgg3
 z3:=Tryz.sizeOf3
 v3:=Tryz.zeroValue3
 t4:=Tryz.underlying4
 a4:=Tryz.isAgg4
 z4:=Tryz.sizeOf4
 v4:=Tryz.zeroValue4
 t5:=Tryz.underlying5
 a5:=Tryz.isAgg5
 z5:=Tryz.sizeOf5
 v5:=Tryz.zeroValue5
 t9:=Tryz.underlying9
 a9:=Tryz.isAgg9
 z9:=Tryz.sizeOf9
 v9:=Tryz.zeroValue9
 t26:=Tryz.underlying79
 a26:=Tryz.isAgg79
 z26:=Tryz.sizeOf79
 v26:=Tryz.zeroValue79
 t27:=Tryz.underlying79
 a27:=Tryz.isAgg79
 z27:=Tryz.sizeOf79
 v27:=Tryz.zeroValue79
 t29:=Tryz.underlying9
 a29:=Tryz.isAgg9
 z29:=Tryz.sizeOf9
 v29:=Tryz.zeroValue9
 t32:=Tryz.underlying206
 a32:=Tryz.isAgg206
 z32:=Tryz.sizeOf206
 v32:=Tryz.zeroValue206
 t35:=Tryz.underlying249
 a35:=Tryz.isAgg249
 z35:=Tryz.sizeOf249
 v35:=Tryz.zeroValue249
 t36:=Tryz.underlying250
 a36:=Tryz.isAgg250
 z36:=Tryz.sizeOf250
 v36:=Tryz.zeroValue250
 t41:=Tryz.underlying254
 a41:=Tryz.isAgg254
 z41:=Tryz.sizeOf254
 v41:=Tryz.zeroValue254
 t44:=Tryz.underlying198
 a44:=Tryz.isAgg198
 z44:=Tryz.sizeOf198
 v44:=Tryz.zeroValue198
 t46:=Tryz.underlying23
 a46:=Tryz.isAgg23
 z46:=Tryz.sizeOf23
 v46:=Tryz.zeroValue23
 t53:=Tryz.underlying279
 a53:=Tryz.isAgg279
 z53:=Tryz.sizeOf279
 v53:=Tryz.zeroValue279
 t57:=Tryz.underlying282
 a57:=Tryz.isAgg282
 z57:=Tryz.sizeOf282
 v57:=Tryz.zeroValue282
 t63:=Tryz.underlying303
 a63:=Tryz.isAgg303
 z63:=Tryz.sizeOf303
 v63:=Tryz.zeroValue303
 t64:=Tryz.underlying304
 a64:=Tryz.isAgg304
 z64:=Tryz.sizeOf304
 v64:=Tryz.zeroValue304 }
theorem Tryz.sorts72 (m : Nat) : AnyZ.SortsIn Tryz.prog Tryz.sorted72_ren Fence.wide m :=
  ⟨fun blk off cap ss W hH hblk hsz => callsIn_wide.2 (AnyM.slices_Sort_string Tryz.sort136 blk off cap ss W hH hblk hsz),
   fun p cap W => callsIn_wide.2 (AnyM.slices_Sort_string_none Tryz.sort136 p cap W)⟩
theorem Tryz.maps_Keys_73(mb:Option Nat)(W:World):CallsIn Fence.wide 5 Tryz.prog 73 #[.map mb] W fun e w'=>e=.returned (.func (.func 137) #[] #[.pointer (some ⟨W.heap.size,0,none⟩)])/\w'=W.alloc (.cells #[.map mb] 63) :=
 AnyZ.keys_in Tryz.keys73 Fence.wide 5 trivial rfl mb W
theorem Tryz.slices_Sorted_keys_72_73{H:Type}(b nn:Nat)(D0:DataW H)(R:Value->Option (DataW H × List MemPlace))(w:World)(hown:w.ownsMap Tryz.prog 9 R b nn D0)(hmax:Maps.size D0<=maxLen)(hbytes:Maps.size D0*16<=140737488355328) :
  CallsIn Fence.wide 5 Tryz.prog 72 #[.func (.func 137) #[] #[.pointer (some ⟨w.heap.size,0,none⟩)]] (w.alloc (.cells #[.map (some b)] 63)) fun e w'=>∃(v:Value) (ss:List (List UInt8)),e=.returned v/\ss.Perm (strKeys D0) /\
   w'.ownsRow (w.alloc (.cells #[.map (some b)] 63)).heap.size 9 1 v ss.length ((ss.mergeSort (fun x y=>decide (x<=y))).map encStr)/\(v=.slice none 0 0 ↔ ss=[])/\Below (w.alloc (.cells #[.map (some b)] 63)).heap.size (w.alloc (.cells #[.map (some b)] 63)) w':=by
 have hbl:=hown.lt;have hseq:SeqGives Fence.wide 2 Tryz.prog 137 #[.pointer (some ⟨w.heap.size,0,none⟩)] encStr (fun ss=>ss.Perm (strKeys D0)) (Maps.size D0) (w.alloc (.cells #[.map (some b)] 63)) :=
  AnyZ.keys_gives (ρ:=Tryz.keys73_ren) { Tryz.keys73 with } Fence.wide _ trivial rfl (by omega) w.heap.size b nn D0 _ (by simp) (by simp) (by
   obtain⟨es,clock,hb,Ft,hs,hD⟩:=hown;exact⟨es,clock,(Below.heap_alloc _ _ b hbl).trans hb,Ft,hs,hD⟩)
 exact AnyZ.sorted_in Tryz.sorted72 Fence.wide 5 trivial trivial trivial trivial rfl (by omega) (Tryz.sorts72 _) (enters_of Tryz.func136 (by kernel_rfl) rfl) 137 #[.pointer (some ⟨w.heap.size,0,none⟩)] trivial (enters_of Tryz.func137 (by kernel_rfl) rfl) _ _ hmax hbytes _ hseq
end Go.Proofs
namespace Go.Proofs.YtobdmlejabjmiaaGreatDoor
open Go.RowKit
section
variable {w:World} {m:Nat} {es:List (Nm × Value)}
def anyV(_:Value):Option (DataW Unit × List MemPlace):=some (.lit (.bool true),[])
theorem MapAt.owns(h:MapAt encStr w m es)(hl:∀p∈es,p.1.length<=9223372036854775807)(hs:es.length<=1000000) :
  ∃D0:DataW Unit,w.ownsMap Tryz.prog 9 anyV m es.length D0/\Maps.size D0=es.length/\(strKeys D0).Perm (es.map Prod.fst):=by
 obtain⟨L,clock,rfl,hm,hn,hb,hc⟩:=h;have hrd:∀p∈L,WideElems.rd Tryz.prog 9 anyV (ent encStr p)=some (.string p.1,.lit (.bool true)):=fun p hp=>by
  have hlp:=hl (p.1,p.2.1) (List.mem_map.2 ⟨p,hp,rfl⟩);unfold WideElems.rd;have:keyOf Tryz.prog 9 (ent encStr p).key=some (.string p.1):=by
   have:=WideMaps.keyOf_string_mk (P:=Tryz.prog) (k:=9) Tryz.underlying9 (s:=⟨p.1.toArray⟩) (by unfold maxLen;simpa [ByteArray.size] using hlp);exact this
  rw[this]
  rfl
 have hrg:∀p∈L,WideElems.rg Tryz.prog 9 anyV (ent encStr p)=(.string p.1,.lit (.bool true)):=fun p hp=>WideElems.rg_of (hrd p hp)
 refine⟨_,⟨_,clock,hm,⟨by simp only[List.size_toArray,List.length_map] at hs ⊢;unfold maxLen;omega,⟨fun x hx=>?_,?_,?_⟩,fun x hx=>?_⟩,by simp,rfl⟩,?_,?_⟩
 ·obtain⟨p,hp,rfl⟩:=List.mem_map.1 hx;exact hc p hp
 ·simpa [ent,Function.comp_def] using hb
 ·have:=hn;rw[List.map_map];have e:(fun p:Ent Nm=>encStr p.1)=encStr ∘ (·.1):=rfl;show(L.map (fun p=>encStr p.1)).Nodup;rw[e,<-List.map_map];exact(List.pairwise_map.2 (hn.imp fun {a b} hne e=>hne (encStr_inj e)))
 ·obtain⟨p,hp,rfl⟩:=List.mem_map.1 hx;exact⟨_,hrd p hp⟩
 ·show((((L.map (ent encStr)).toArray.toList.map (WideElems.rg Tryz.prog 9 anyV)).foldr DataW.insert []).length)=_;rw[length_sorted];simp
 ·show(((((L.map (ent encStr)).toArray.toList.map (WideElems.rg Tryz.prog 9 anyV)).foldr DataW.insert []).map fun p=>strOf p.1)).Perm _;refine((WideShapes.sorted_perm _).map _).trans ?_;rw[List.map_map,List.map_map,List.map_map];refine List.Perm.of_eq (List.map_congr_left fun p hp=>?_);simp only[Function.comp_apply,hrg p hp]
  rfl
end
theorem zad{F:FS}(hr:Rising F){ss:List Nm}(h:ss.Perm (F.map Prod.fst)):ss.mergeSort (fun x y=>decide (x<=y))=F.map Prod.fst:=by
 rw[show(fun x y:Nm=>decide (x<=y))=leB from rfl,mergeSort_of_perm h];refine List.mergeSort_of_pairwise ?_;rw[List.pairwise_map];exact hr.imp fun {p q} hpq=>by simp only[leB,decide_eq_true_eq];exact List.le_of_lt hpq
def namesD(D:DSt):List Nm:=if D.down=true then [] else D.files.map Prod.fst
def NamesEnd(w:World)(L:List Nm)(e:Ending)(w':World):Prop :=
 ∃A c,e=.returned (.slice A L.length c)/\OV w' w.heap.size 9 A c (L.map encStr)/\Below w.heap.size w w'
section
variable {S:Nat->Prop} {w w':World} {g mf ms:Nat} {A:Option Addr} {c:Nat} {D:DSt}
theorem xd(h:DI S w g D)(hcnt:D.cnt<=1000000)(hn:∀p∈D.files,p.1.length<=9223372036854775807):Calls Tryz.prog 30 #[.pointer (some ⟨g,0,none⟩)] w (NamesEnd w (namesD D)):=by
 have AL:=qh (y9 h);obtain⟨mf,ms,A,c,h⟩:=h;cases hd:D.down
 ·rw[if_neg (by rw[hd];simp)] at AL;have hv:namesD D=D.files.map Prod.fst:=by unfold namesD;rw[hd];rfl
  rw[hv];obtain⟨es,hmap,htold,hris,_⟩:=h.fi;have hperm:=htold.keys hmap.nodup hris;have hlen:=htold.len hmap.nodup hris;have hfl:D.files.length<=1000000:=Nat.le_trans (DSt.files_len D) hcnt;obtain⟨D0,hown,hsz,hpk⟩:=hmap.owns (fun p hp=>by
   have:p.1∈D.files.map Prod.fst:=hperm.subset (List.mem_map.2 ⟨p,hp,rfl⟩);obtain⟨q,hq,e⟩:=List.mem_map.1 this;rw[<-e];exact hn q hq) (by omega)
  have CK:=qh (callsIn_wide.1 (Tryz.maps_Keys_73 (some mf) w));have CS:=qh (callsIn_wide.1 (Tryz.slices_Sorted_keys_72_73 mf es.length D0 anyV w hown (by rw[hsz];unfold maxLen;omega) (by rw[hsz];omega)));have c0:=h.blk.cell 0 rfl;have HS:Hid (∀ss:List Nm,ss.Perm (strKeys D0)->ss.mergeSort (fun x y=>decide (x<=y))=D.files.map Prod.fst):=qh fun ss hss=>zad hris ((hss.trans hpk).trans hperm)
  have hal:Below w.heap.size w (w.alloc (.cells #[.map (some mf)] 63)):=(Below.refl _ _).alloc (Nat.le_refl _) _;have HAL:=qh hal;clear h hmap htold hris hperm hlen hown hsz hpk hd hv hal;go_enter Tryz.func30,Tryz.ntmps30;go_wp2_with fail;refine AL.out.mono ?_;rintro e w1 ⟨rfl,rfl⟩;go_wp2_with fail;refine CK.out.mono ?_;rintro e w2 ⟨rfl,rfl⟩;go_wp2_with fail;refine CS.out.mono ?_;rintro e w3 ⟨v,ss,rfl,hss,hrow,hnil,hb⟩;rw[HS.out ss hss] at hrow;have hl:ss.length=(D.files.map Prod.fst).length:=by rw[<-HS.out ss hss,List.length_mergeSort]
  rw[hl] at hrow;have HF:Hid (NamesEnd w (D.files.map Prod.fst) (.returned v) w3):=qh (by
   have hrow2:w3.ownsRow (w.alloc (.cells #[.map (some mf)] 63)).heap.size 9 1 v ((D.files.map Prod.fst).map encStr).length ((D.files.map Prod.fst).map encStr):=(by rw[List.length_map];exact hrow);obtain⟨A',c',hv',hov⟩:=OV.of_own hrow2;subst hv';refine⟨A',c',by rw[List.length_map],?_,HAL.out.trans (hb.mono HAL.out.size)⟩;exact hov.base_le HAL.out.size)
  clear AL CK CS hrow hnil hb hss hl c0 HS HAL;go_wp2_with fail;go_ret;exact HF.out
 ·rw[if_pos hd] at AL;have hv:namesD D=[]:=by unfold namesD;rw[if_pos hd]
  rw[hv];clear h hd hv;go_enter Tryz.func30,Tryz.ntmps30;go_wp2_with fail;refine AL.out.mono ?_;rintro e w1 ⟨rfl,rfl⟩;go_wp2_with fail;go_ret;exact⟨none,0,rfl,OV.nil _ _ _,Below.refl _ _⟩
end
section
variable {w:World}
end
end Go.Proofs.YtobdmlejabjmiaaGreatDoor
namespace Go.Proofs.YtobdmlejabjmiaaGreatDoor
open Go.Lib
def udec(n:Int):List UInt8:=decDigits n.toNat
theorem j7(n:Nat):udec (n:Int)=decDigits n:=by simp[udec]
theorem xg{u:Nat}(h:u<18446744073709551616):nDigits u<=20:=by
 by_cases h1:1<=u
 ·have:=numDigits_eq u h1 h;split at this<;>omega
 ·rw[nDigits_small (by omega)];omega
theorem zaP{u:Nat}(h:¬u<10):decDigits u=decDigits (u / 10)++[UInt8.ofNat (48+u % 10)]:=by rw[decDigits,dif_neg h]
def parts(b:UInt8):List UInt8->List (List UInt8)
 | []=>[[]]
 | c::r=>if c=b then []::parts b r else match parts b r with
  | []=>[[c]]
  | w::ws=>(c::w)::ws
theorem parts_ne(b:UInt8):∀l,parts b l≠[]
 | []=>by simp[parts]
 | c::r=>by
  unfold parts;split
  ·simp
  ·split<;>simp
theorem za2{b:UInt8}:∀{l:List UInt8},b ∉ l->parts b l=[l]
 | [],_=>rfl
 | c::r,h=>by
  rw[List.mem_cons,not_or] at h;rw[parts,if_neg (fun e=>h.1 e.symm),za2 h.2]
theorem xS{b:UInt8}:∀{l:List UInt8},b ∉ l->∀r,parts b (l++b::r)=l::parts b r
 | [],_,r=>by rw[List.nil_append,parts,if_pos rfl]
 | c::l,h,r=>by
  rw[List.mem_cons,not_or] at h;rw[List.cons_append,parts,if_neg (fun e=>h.1 e.symm),xS h.2]
theorem qC(b:UInt8):∀l,(parts b l).length=l.count b+1
 | []=>rfl
 | c::r=>by
  unfold parts;have ih:=qC b r;split
  ·rename_i h;subst h;simp[ih]
  ·rename_i h;have hc:(c::r).count b=r.count b:=(by rw[List.count_cons];simp[h]);split
   ·rename_i e;rw[e] at ih;simp at ih
   ·rename_i w ws e;rw[e] at ih;rw[hc];simpa using ih
theorem zbJ(b:UInt8):∀(l:List UInt8),∀s∈parts b l,s.length<=l.length
 | [],s,h=>by simp[parts] at h;simp[h]
 | c::r,s,h=>by
  unfold parts at h;have ih:=zbJ b r;split at h
  ·rcases List.mem_cons.1 h with rfl | h
   ·simp
   ·have:=ih s h;simp;omega
  ·split at h
   ·rename_i e;exact absurd e (parts_ne b r)
   ·rename_i w ws e;rw[e] at ih
    rcases List.mem_cons.1 h with rfl | h
    ·have:=ih w (List.mem_cons_self ..);simp;omega
    ·have:=ih s (List.mem_cons_of_mem _ h);simp;omega
theorem zbU{b:UInt8}:∀{l:List UInt8},b∈l->∃p r,l=p++b::r/\b ∉ p
 | c::l,h=>by
  by_cases e:c=b
  ·exact⟨[],l,by rw[e];rfl,by simp⟩
  ·rcases List.mem_cons.1 h with h' | h'
   ·exact absurd h'.symm e
   ·obtain⟨p,r,h1,h2⟩:=zbU h';exact⟨c::p,r,by rw[h1];rfl,by rw[List.mem_cons,not_or];exact⟨fun x=>e x.symm,h2⟩⟩
theorem zc1{b:UInt8}:∀{l:List UInt8},b ∉ l->index l [b]=-1
 | [],_=>rfl
 | c::l,h=>by
  rw[List.mem_cons,not_or] at h;unfold index;have hb:([b]:List UInt8).isPrefixOf (c::l)=false:=by
   simp only[List.isPrefixOf,Bool.and_true];exact beq_eq_false_iff_ne.2 h.1
  rw[hb,zc1 h.2]
  rfl
theorem zc0{b:UInt8}:∀{p:List UInt8} (r:List UInt8),b ∉ p->index (p++b::r) [b]=(p.length:Int)
 | [],r,_=>by unfold index;simp
 | c::p,r,h=>by
  rw[List.mem_cons,not_or] at h;rw[List.cons_append];unfold index;have hb:([b]:List UInt8).isPrefixOf (c::(p++b::r))=false:=by
   simp only[List.isPrefixOf,Bool.and_true];exact beq_eq_false_iff_ne.2 h.1
  rw[hb,zc0 r h.2];simp only[Bool.false_eq_true,if_false];rw[if_neg (by simp)];simp
theorem jS(b:UInt8):∀(n:Nat) (l:List UInt8),l.length<=n->splitK [b] 0 (count l [b]) l=parts b l/\count l [b]=l.count b
 | 0,l,h=>by
  have:l=[]:=List.eq_nil_of_length_eq_zero (by omega);subst this;exact⟨rfl,rfl⟩
 | n+1,l,h=>by
  by_cases hm:b∈l
  ·obtain⟨p,r,rfl,hp⟩:=zbU hm;have hi:=zc0 r hp;have hd:(p++b::r).drop (p.length+1)=r:=(by rw[List.drop_append];simp);have hc:=count_hit (s:=p++b::r) (sub:=[b]) (by simp) hi;simp only[List.length_cons,List.length_nil,Nat.zero_add] at hc;rw[hd] at hc;obtain⟨i1,i2⟩:=jS b n r (by simp at h;omega);have hcp:p.count b=0:=List.count_eq_zero.2 hp;refine⟨?_,?_⟩
   ·rw[hc,Nat.add_comm 1,splitK,hi,if_neg (by simp),xS hp];simp only[Int.toNat_natCast,List.length_cons,List.length_nil,Nat.zero_add,Nat.add_zero];rw[hd,i1,List.take_left]
   ·rw[hc,i2,List.count_append,List.count_cons_self,hcp];omega
  ·have hi:=zc1 hm;have hc:=count_miss hi;refine⟨?_,by rw[hc,List.count_eq_zero.2 hm]⟩;rw[hc,splitK,za2 hm]
theorem ju(M:Nat):∀(l:List UInt8) (acc u:Nat) (r:List UInt8),parseUintM M acc l=.ok u->parseUintM M acc (l++r)=parseUintM M u r
 | [],acc,u,r,h=>by
  simp only[parseUintM] at h;injection h with h
  rw[List.nil_append,h]
 | c::l,acc,u,r,h=>by
  rw[List.cons_append];simp only[parseUintM] at h ⊢;split at h
  ·rename_i hc;rw[if_pos hc];split at h
   ·cases h
   ·rename_i h2;rw[if_neg h2];split at h
    ·cases h
    ·rename_i h3;rw[if_neg h3];exact ju M l _ u r h
  ·cases h
theorem zbI:∀(n u:Nat),u<=n->u<=18446744073709551615->parseUintM 18446744073709551615 0 (decDigits u)=.ok u
 | n,u,hn,h=>by
  by_cases h10:u<10
  ·rw[decDigits,dif_pos h10];have e:(UInt8.ofNat (48+u)).toNat=48+u:=(by rw[UInt8.toNat_ofNat'];omega);simp only[parseUintM,e];rw[if_pos (by omega),if_neg (by omega),if_neg (by omega)];congr 1;omega
  ·match n with
   | 0=>omega
   | n+1 =>
    rw[zaP h10,ju _ _ _ _ _ (zbI n (u / 10) (by omega) (by omega))];have e:(UInt8.ofNat (48+u % 10)).toNat=48+u % 10:=(by rw[UInt8.toNat_ofNat'];omega);simp only[parseUintM,e];rw[if_pos (by omega),if_neg (by omega),if_neg (by omega)];congr 1;omega
theorem dec_ne(u:Nat):decDigits u≠[]:=by
 intro h;have:=congrArg List.length h;rw[decDigits_length] at this;have:=nDigits_pos u;simp at *;omega
theorem jK{u:Nat}(h:u<=18446744073709551615):parseUintB 64 (decDigits u)=.ok u:=by
 unfold parseUintB;rw[if_neg (dec_ne u),show(2:Nat) ^ 64 - 1=18446744073709551615 by decide];exact zbI u u (Nat.le_refl _) h
theorem dec_head(u:Nat):∃c r,decDigits u=c::r/\48<=c.toNat/\c.toNat<=57:=by
 induction u using Nat.strongRecOn with
 | _ u ih =>
  by_cases h10:u<10
  ·refine⟨_,[],by rw[decDigits,dif_pos h10],?_⟩;rw[UInt8.toNat_ofNat'];omega
  ·obtain⟨c,r,h1,h2⟩:=ih (u / 10) (by omega);exact⟨c,_,by rw[zaP h10,h1];rfl,h2⟩
abbrev Rd(α:Type):=List (List UInt8)->Option (α × List (List UInt8))
def rd{α:Type}(p:List UInt8->Option α):Rd α
 | []=>none
 | s::r=>match p s with
  | some x=>some (x,r)
  | none=>none
def whole{α:Type}(m:Rd α)(l:List UInt8):Option α:=match m (parts 32 l) with
 | some (x,[])=>some x
 | _=>none
theorem qe:∀(u:Nat),∀c∈decDigits u,48<=c.toNat/\c.toNat<=57:=by
 intro u
 induction u using Nat.strongRecOn with
 | _ u ih =>
  intro c hc;by_cases h10:u<10
  ·rw[decDigits,dif_pos h10,List.mem_singleton] at hc;subst hc;rw[UInt8.toNat_ofNat'];omega
  ·rw[zaP h10,List.mem_append,List.mem_singleton] at hc
   rcases hc with hc | rfl
   ·exact ih (u / 10) (by omega) c hc
   ·rw[UInt8.toNat_ofNat'];omega
structure Sl where
 base:Nm
 last:Nat
 value:List UInt8
 has:Bool
 old:List Nm
 down:Bool
def fileN(b:Nm)(n:Nat):Nm:=b++[46]++decDigits n
def numN(b f:Nm):Option Nat :=
 if hasPrefix f (b++[46])=true then(match parseUintB 64 (trimPrefix f (b++[46])) with | .ok u=>some u | _=>none) else none
structure Sc where
 last:Nat
 best:Nat
 has:Bool
 value:List UInt8
 old:List Nm
def Sc.zero:Sc:=⟨0,0,false,[],[]⟩
def scan1(b:Nm)(F:FS)(s:Sc)(f:Nm):Sc :=
 match numN b f with
 | none=>s
 | some n =>
  if (unfrAt ((fget F f).getD []) 0).2.2=0/\(unfrAt ((fget F f).getD []) 0).2.1=(((fget F f).getD []).length:Int)/\(s.has=false\/s.best<n) then
   ⟨max s.last n,n,true,(unfrAt ((fget F f).getD []) 0).1,s.old++[f]⟩
  else⟨max s.last n,s.best,s.has,s.value,s.old++[f]⟩
def scanD(b:Nm)(D:DSt):Sc:=(namesD D).foldl (scan1 b D.files) Sc.zero
def rmD(D:DSt)(f:Nm):Int × DSt:=changeD D ⟨3,f,0,[]⟩ 0
def cleanL:List Nm->DSt->Int × DSt
 | [],D=>(0,D)
 | f::r,D=>if (rmD D f).1=0 then cleanL r (rmD D f).2 else rmD D f
def cleanD(old:List Nm)(D:DSt):Int × DSt :=
 if old=[] then(0,D) else if (cleanL old D).1=0 then syncD (cleanL old D).2 else cleanL old D
def restN(b:Nm)(s:Sc):List Nm:=if s.has=true then s.old.filter (fun f=>!(f == fileN b s.best)) else s.old
def openD(b:Nm)(D:DSt):Int × DSt:=cleanD (restN b (scanD b D)) D
def openS(b:Nm)(s:Sc):Sl:=⟨b,s.last,s.value,s.has,if s.has=true then [fileN b s.best] else [],false⟩
def putS(D:DSt)(f:Nm)(x:List UInt8):Int × DSt:=changeD D ⟨1,f,0,frameB x⟩ 0
def saveS(s:Sl)(D:DSt)(x:List UInt8):Int × Sl × DSt :=
 if s.down=true then(11,s,D)
 else if 65520<x.length then(7,s,D)
 else if (putS D (fileN s.base (s.last+1)) x).1≠0 then((putS D (fileN s.base (s.last+1)) x).1,{ s with down:=decide ((putS D (fileN s.base (s.last+1)) x).1=11) },(putS D (fileN s.base (s.last+1)) x).2)
 else if (syncD (putS D (fileN s.base (s.last+1)) x).2).1≠0 then
  ((syncD (putS D (fileN s.base (s.last+1)) x).2).1,{ s with last:=s.last+1,down:=decide ((syncD (putS D (fileN s.base (s.last+1)) x).2).1=11) },(syncD (putS D (fileN s.base (s.last+1)) x).2).2)
 else((cleanD s.old (syncD (putS D (fileN s.base (s.last+1)) x).2).2).1,⟨s.base,s.last+1,x,true,[fileN s.base (s.last+1)],decide ((cleanD s.old (syncD (putS D (fileN s.base (s.last+1)) x).2).2).1=11)⟩,(cleanD s.old (syncD (putS D (fileN s.base (s.last+1)) x).2).2).2)
def loadE(s:Sl):Int:=if s.down=true then 11 else if s.has=false then 8 else 0
/-! ### Names -/
def BaseOk(b:Nm):Prop:=(1<=b.length/\b.length<=8)/\∀c∈b,97<=c.toNat/\c.toNat<=122
theorem xJ{c:UInt8}(h:(97<=c.toNat/\c.toNat<=122)\/(48<=c.toNat/\c.toNat<=57)):nameSet.contains c=true:=by
 have h256:c.toNat<256:=c.toNat_lt;have e:c=UInt8.ofNat c.toNat:=by simp
 rw[List.contains_iff_mem,e];generalize c.toNat=n at *;have hm:n∈nameSet.map UInt8.toNat:=by
  have:nameSet.map UInt8.toNat=[97,98,99,100,101,102,103,104,105,106,107,108,109,110,111,112,113,114,115,116,117,118,119,120,121,122,48,49,50,51,52,53,54,55,56,57,46]:=by decide
  rw[this];simp only[List.mem_cons,List.not_mem_nil,or_false];omega
 obtain⟨d,hd,rfl⟩:=List.mem_map.1 hm;simpa using hd
theorem zcn{b:Nm}(hb:BaseOk b){n:Nat}(hn:n<18446744073709551616):nameOk (fileN b n)=true:=by
 have h1:=xg hn;have h2:(decDigits n).length<=20:=by rw[decDigits_length];exact h1
 unfold nameOk fileN;rw[Bool.and_eq_true,decide_eq_true_eq,List.all_eq_true];refine⟨by simp only[List.length_append,List.length_cons,List.length_nil];have:=hb.1;omega,fun c hc=>?_⟩
 rcases List.mem_append.1 hc with hc | hc
 ·rcases List.mem_append.1 hc with hc | hc
  ·exact xJ (.inl (hb.2 c hc))
  ·rw[List.mem_singleton.1 hc];decide
 ·exact xJ (.inr (qe n c hc))
theorem js(b:Nm){n:Nat}(hn:n<18446744073709551616):numN b (fileN b n)=some n:=by
 have h1:hasPrefix (fileN b n) (b++[46])=true:=by
  unfold hasPrefix fileN;rw[List.isPrefixOf_iff_prefix];exact⟨_,rfl⟩
 have h2:trimPrefix (fileN b n) (b++[46])=decDigits n:=by
  unfold trimPrefix;rw[if_pos h1];exact List.drop_left' rfl
 unfold numN;rw[if_pos h1,h2,jK (by omega)]
/-! ### Frames -/
theorem jk(x:List UInt8):(frameB x).length=x.length+8:=by unfold frameB;simp[fourB]
theorem zea{x:List UInt8}(hx:x.length<=65520):unfrAt (frameB x) 0=(x,(x.length:Int)+8,0):=by
 have:=zd9 [] x (frameB x) rfl (by omega);simp only[List.nil_append,List.length_nil] at this;rw[show((0:Nat):Int)=0 from rfl] at this;rw[this];congr 2;omega
theorem zff{b:Nm}{F:FS}{s:Sc}{n:Nat}{x:List UInt8}(hn:n<18446744073709551616)(hx:x.length<=65520)(hf:fget F (fileN b n)=some (frameB x)) :
  scan1 b F s (fileN b n)=if s.has=false\/s.best<n then⟨max s.last n,n,true,x,s.old++[fileN b n]⟩ else⟨max s.last n,s.best,s.has,s.value,s.old++[fileN b n]⟩:=by
 unfold scan1;rw[js b hn,hf];simp only[Option.getD_some,zea hx,jk,true_and];by_cases h:s.has=false\/s.best<n
 ·rw[if_pos h,if_pos ⟨by omega,h⟩]
 ·rw[if_neg h,if_neg (fun e=>h e.2)]
theorem zbT{b:Nm}{F:FS}{s:Sc}{f:Nm}(h:numN b f=none):scan1 b F s f=s:=by
 unfold scan1;rw[h]
/-! ### Cleaning -/
theorem qa{D:DSt}(h:D.fuse=0):burnD D=D:=by unfold burnD;rw[if_neg (by omega)]
theorem ze9{D:DSt}{f:Nm}(hd:D.down=false)(hf:D.fuse=0)(hn:nameOk f=true):rmD D f=(0,{ D with unsure:=D.unsure++[⟨3,f,0,[]⟩] }):=by
 have hr:refuseD D ⟨3,f,0,[]⟩ 0=0:=by
  unfold refuseD;rw[if_neg (by rw[hd];simp),if_neg (by rw[hn];simp),if_neg (by simp),if_neg (by simp[afterN])]
 unfold rmD changeD;rw[if_neg (by rw[hr];simp),qa hf,if_neg (by rw[hd];simp)]
theorem yG{D:DSt}(hd:D.down=false)(hf:D.fuse=0):syncD D=(0,{ D with sure:=D.files,unsure:=[] }):=by
 unfold syncD;rw[if_neg (by rw[hd];simp),qa hf,if_neg (by rw[hd];simp)]
theorem jD(D:DSt):cleanD [] D=(0,D):=by unfold cleanD;rw[if_pos rfl]
/-! ### A slot and its disk -/
structure Rest(D:DSt):Prop where
 dd:D.down=false
 fu:D.fuse=0
 un:D.unsure=[]
theorem Rest.files{D:DSt}(h:Rest D):D.files=D.sure:=by unfold DSt.files;rw[h.un];rfl
theorem Rest.names{D:DSt}(h:Rest D):namesD D=D.sure.map Prod.fst:=by unfold namesD;rw[if_neg (by rw[h.dd];simp),h.files]
theorem Rest.scan{D:DSt}(h:Rest D)(b:Nm):scanD b D=(D.sure.map Prod.fst).foldl (scan1 b D.sure) Sc.zero:=by unfold scanD;rw[h.names,h.files]
/-! ### Save -/
theorem za5(x:List UInt8):putD [] 0 x=x:=by
 unfold putD resizeD;simp
end Go.Proofs.YtobdmlejabjmiaaGreatDoor
namespace Go.Proofs.YtobdmlejabjmiaaGreatDoor
open Go.RowKit
theorem qU{P:Program}{w w':World}{n:String}{cs:Array Value}(h:w.var? P n=some cs)(hb:Below w.heap.size w w'):w'.var? P n=some cs:=by
 unfold World.var? at *;cases hg:P.globalNamed n with
 | none=>simp[hg] at h
 | some g =>
  simp only[hg,Option.bind_some] at h ⊢;have hlt:g<w.heap.size:=by
   rcases Nat.lt_or_ge g w.heap.size with h' | h'
   ·exact h'
   ·rw[Array.getElem?_eq_none h'] at h;simp at h
  rw[hb.block g hlt];exact h
theorem zaZ{P:Program}{w:World}{n:String}{d:DataW Unit}:∀{l:List (String × DataW Unit)} {ps:List MemPlace},DataW.LaidVars P w l ps->(n,d)∈l ->
  ∃g t cs fuel p,P.globalNamed n=some g/\(P.globals[g]?).map (·.type)=some t/\w.var? P n=some cs/\DataW.trod (fun _=>()) P w 0 (fun _=>true) false fuel t cs.toList=some (d,p)
 | [],_,_,h=>by cases h
 | (m,e)::r,ps,hl,h=>by
  obtain⟨g,t,cs,fuel,p,q,h1,h2,h3,h4,h5,_⟩:=hl
  rcases List.mem_cons.1 h with h | h
  ·injection h with e1 e2
   subst e1 e2;exact⟨g,t,cs,fuel,p,h1,h2,h3,h4⟩
  ·exact zaZ h5 h
theorem zcL{P:Program}{w:World}{l:List (String × DataW Unit)}{n:String}{k:IntKind}{zs:List Int}{g:Nat}{t e:TypeId}{m:Nat}(h:laidMet P l w)(hm:(n,Lib.tabData k zs)∈l)
  (hg:P.globalNamed n=some g) (hty:(P.globals[g]?).map (·.type)=some t) (ht:P.underlying t=some (.array m e)) (he:P.underlying e=some (.int k)) (hce:P.cellsOf e=1) (hct:P.cellsOf t=m):Lib.TabIs P w n k zs:=by
 obtain⟨ps,hl,_⟩:=h;obtain⟨g',t',cs,fuel,p,h1,h2,h3,h4⟩:=zaZ hl hm;obtain rfl:=Option.some.inj (hg.symm.trans h1);obtain rfl:=Option.some.inj (hty.symm.trans h2);unfold Lib.TabIs;rw[h3,<-Lib.cells_of_tab ht he hce hct h4]
end Go.Proofs.YtobdmlejabjmiaaGreatDoor
