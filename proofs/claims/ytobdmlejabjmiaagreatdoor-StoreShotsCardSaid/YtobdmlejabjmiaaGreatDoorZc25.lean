/- Made small by a program. -/
import Derived.Test.YtobdmlejabjmiaaGreatDoorZc17
set_option maxRecDepth 20000
set_option maxHeartbeats 8000000
namespace Go.Proofs.YtobdmlejabjmiaaGreatDoor
open Go.RowKit
abbrev TEn:TypeId:=44
theorem qk:(Tryz.prog.info? TEn).map (fun i=>(i.zero,i.size,i.bytes))=some (some (.agg entryZ),5,56):=by kernel_rfl
theorem zaR:(Tryz.prog.info? TEn).map (·.size)=some ([.bool true,.bool true,.bool true,.bool true,.bool true]:List Value).length:=by kernel_rfl
abbrev ERow:=En × Option Addr × Nat
def er(x:ERow):List Value:=[.int .u64 (x.1.idx:Int),.int .u64 (x.1.term:Int),.int .i64 x.1.kind,.int .i64 x.1.delta,.slice x.2.1 x.1.dat.length x.2.2]
theorem er_one(x:ERow):∀v∈er x,v.oneCell'=true:=by
 intro v hv;simp only[er,List.mem_cons,List.not_mem_nil,or_false] at hv
 rcases hv with rfl | rfl | rfl | rfl | rfl<;>rfl
theorem zez(es:List ERow):∀r∈es.map er,r.length=5:=by
 intro r hr;obtain⟨x,_,rfl⟩:=List.mem_map.1 hr
 rfl
theorem zeA(es:List ERow):∀r∈es.map er,∀v∈r,v.oneCell'=true:=by
 intro r hr;obtain⟨x,_,rfl⟩:=List.mem_map.1 hr;exact er_one x
structure EL(w:World)(E:Option Addr)(es:List ERow):Prop where
 rs:RS w E 5 (es.map er)
 rb:∀x∈es,RB w x.2.1 x.1.dat/\x.1.dat.length<=x.2.2/\x.2.2<=9223372036854775807
structure EO(w:World)(base:Nat)(E:Option Addr)(ec:Nat)(es:List ERow):Prop where
 row:OR w base TEn 5 E ec (es.map er)
 ob:∀x∈es,OB w base x.2.1 x.2.2 x.1.dat
section
variable {w w':World} {base ec:Nat} {E:Option Addr} {es:List ERow}
theorem EL.below(h:EL w E es)(hb:Below w.heap.size w w'):EL w' E es:=⟨h.rs.below hb,fun x hx=>⟨(h.rb x hx).1.below hb,(h.rb x hx).2⟩⟩
theorem EO.nil(w:World)(base:Nat):EO w base none 0 []:=⟨OR.nil _ _ _ _,fun x hx=>by cases hx⟩
theorem EO.el(h:EO w base E ec es):EL w E es:=⟨h.row.rs,fun x hx=>⟨(h.ob x hx).rb,(h.ob x hx).cap⟩⟩
theorem EO.mods{T:Nat->Prop}(h:EO w base E ec es)(m:Mods T w w')(hT:∀b,base<=b->b<w.heap.size->¬T b):EO w' base E ec es :=
 ⟨h.row.mods m (fun b hb=>hT b (h.row.blk_lt b hb).1 (h.row.blk_lt b hb).2),fun x hx=>(h.ob x hx).mods m (fun b hb=>hT b ((h.ob x hx).blk_in b hb).1 ((h.ob x hx).blk_in b hb).2)⟩
theorem EO.below(h:EO w base E ec es)(hb:Below w.heap.size w w'):EO w' base E ec es:=⟨h.row.below hb,fun x hx=>(h.ob x hx).below hb⟩
theorem EO.base_le{base':Nat}(h:EO w base E ec es)(hb:base'<=base):EO w base' E ec es:=⟨h.row.mono hb,fun x hx=>(h.ob x hx).base_le hb⟩
theorem EL.at_(h:EL w E es){k:Nat}(hk:k<es.length):∃b off,E=some ⟨b,off,none⟩/\b<w.heap.size/\w.rangeAt b (off+k*5) (er es[k]):=by
 obtain⟨b,off,e,hb,hc⟩:=h.rs.row (i:=k) (by rw[List.length_map];exact hk);refine⟨b,off,e,hb,fun j v hj=>hc j v ?_⟩;rw[List.getElem_map];exact hj
def NewE(w:World)(es:List ERow)(e:Ending)(w':World):Prop :=
 ∃(A:Option Addr) (c:Nat) (es':List ERow),e=.returned (.slice A es'.length c)/\es'.map Prod.fst=es.map Prod.fst/\EO w' w.heap.size A c es'/\Below w.heap.size w w'
theorem EO.snoc{n:Nat}{A':Option Addr}{c':Nat}{x:ERow}(h:EO w base E ec es)(hx:OB w base x.2.1 x.2.2 x.1.dat)(hg:w.grownBy w' (E.map (·.block)))(hr:OR w' base TEn 5 A' c' ((es++[x]).map er))(hn:n<=base):EO w' n A' c' (es++[x]) :=
 ⟨hr.mono hn,fun y hy=>by
  have hy':OB w base y.2.1 y.2.2 y.1.dat:=(List.mem_append.1 hy).elim (h.ob y) (fun e=>by rw[List.mem_singleton.1 e];exact hx);exact(hy'.grown_row hg (fun b hb=>hy'.ne_row h.row (by decide) b hb)).base_le hn⟩
theorem jw(E:Option Addr)(c:Nat)(es:List ERow)(w:World)(h:EL w E es)(hn:es.length*56<=140737488351232)(hd:∀x∈es,x.1.dat.length<=140737488351232) :
  Calls Tryz.prog 10 #[.slice E es.length c] w (NewE w es):=by
 obtain⟨i0,hi0,hz0,hz1,hz2⟩:=info_parts qk;have HL:=qh h;have HDL:=qh hd;clear h hd;go_enter Tryz.func10,Tryz.ntmps10;go_wp2_with fail;go_loopw [3,4] (fun s3 s4 wr=>∃(k:Nat) (A:Option Addr) (ac n3:Nat) (es':List ERow),k<=es.length/\s4=.int .i64 (k:Int)/\n3=es'.length/\s3=.slice A n3 ac/\Hid (es'.map Prod.fst=(es.take k).map Prod.fst)/\Hid (EO wr w.heap.size A ac es')/\Hid (Below w.heap.size w wr))
  (fun _ s4 _=>es.length - (intOf s4).toNat)
 case atStart=>exact⟨0,none,0,0,[],Nat.zero_le _,rfl,rfl,rfl,qh rfl,qh (EO.nil _ _),qh (Below.refl _ _)⟩
 case round =>
  obtain⟨k,A,ac,n3,es',hk,rfl,hn3,rfl,HM,HO,HB⟩:=hrel;by_cases hlt:k<es.length
  ·have hEL:=HL.out.below HB.out;obtain⟨b,off,rfl,hb,hc⟩:=hEL.at_ hlt;have hx:=hEL.rb es[k] (List.getElem_mem hlt);have hxl:=HDL.out es[k] (List.getElem_mem hlt);have HT:Hid ((es.take (k+1)).map Prod.fst=(es.take k).map Prod.fst++[es[k].1]):=qh (by rw[List.take_succ_eq_append_getElem hlt,List.map_append];rfl);obtain⟨x,hxe⟩:∃x,x=es[k]:=⟨_,rfl⟩;rw[<-hxe] at hc hx hxl HT;obtain⟨⟨i,t,kd,dl,dt⟩,D,dc⟩:=x;simp only[er] at hc hx hxl HT;have RG:=qh hc;have HX:=qh hx;have hal:Below wr.heap.size wr (wr.alloc (.cells entryZ TEn)):=(Below.refl _ _).alloc (Nat.le_refl _) _;have Z:=qh (Blk.new wr entryZ TEn);have hbs:=HB.out.size;have Y0:=Z.out.setRow (enC i t kd dl dt D dc);have hb1:=below_setRow (g:=wr.heap.size) hal (Nat.le_refl _) (enC i t kd dl dt D dc);obtain⟨w1,hw1⟩:∃w1,w1=(wr.alloc (.cells entryZ TEn)).setRow wr.heap.size (enC i t kd dl dt D dc):=⟨_,rfl⟩;rw[<-hw1] at Y0 hb1;have HW1:=qh hw1.symm;have Y:=qh Y0;have HB1:=qh hb1;have hbl:Below w1.heap.size w1 (w1.alloc (.cells #[] 5)):=(Below.refl _ _).alloc (Nat.le_refl _) _;have c4:=(Y0.kept hbl).cell 4 (v:=.slice D dt.length dc) rfl;have RD:=qh (hx.1.below (hb1.trans (hbl.mono hb1.size)));have hlt1:=Y0.lt;have hr1:=hb1.size;subst hn3;have HLK:Hid (es'.length=k):=qh (by have:=congrArg List.length HM.out;rw[List.length_map,List.length_map,List.length_take] at this;omega);clear hxe hEL hc hx hal hw1 Y0 hb1 hbl;unfold entryZ enC at *;go_wp2_with (first
    | (refine wpList_load_mid rfl TEn (.tmp 14) rfl b (off+k*5) rfl [.int .u64 (i:Int),.int .u64 (t:Int),.int .i64 kd,.int .i64 dl,.slice D dt.length dc] _ RG.out Tryz.underlying44 rfl zaR ?_)
    | (refine wpList_store_row rfl TEn (.tmp 5) (.tmp 15) rfl wr.heap.size #[.int .u64 (i:Int),.int .u64 (t:Int),.int .i64 kd,.int .i64 dl,.slice D dt.length dc] rfl rfl _ _ Z.out zB rfl (by simp[Value.oneCell']) ?_;rw[HW1.out])
    | (at_builtin;refine zO _ rfl (.tmp 16) (.tmp 18) rfl (wr.heap.size+1) _ _ _ _ [] dt rfl rfl (OB.made0 _ hlt1) RD.out (by simp;omega) (by simp;omega) ?_;intro z C cc w4 hz hzl1 hzl2 hob hg;have HZ:=qh hz.out;have hb4:Below w1.heap.size w1 w4:=((Below.refl _ _).alloc (Nat.le_refl _) _).grown hg (by simp) (by simp[Value.ownBlock]);have q4:=(Y.out.kept hb4).cell 4 (v:=.slice D dt.length dc) rfl;have r4:=(Y.out.kept hb4).free 4;have Y5:Blk (w4.setCell ⟨wr.heap.size,4,none⟩ (.slice C z.length cc)) wr.heap.size TEn #[.int .u64 (i:Int),.int .u64 (t:Int),.int .i64 kd,.int .i64 dl,.slice C z.length cc]:=(Y.out.kept hb4).setCell 4 (.slice C z.length cc);have O5:=hob.setCell (a:=⟨wr.heap.size,4,none⟩) (by simp) (.slice C z.length cc);have hb5:=(HB1.out.trans (hb4.mono HB1.out.size)).setCell (p:=⟨wr.heap.size,4,none⟩) (Nat.le_refl _) (.slice C z.length cc);have Y5H:=qh Y5;obtain⟨w5,hw5⟩:∃w5,w5=w4.setCell ⟨wr.heap.size,4,none⟩ (.slice C z.length cc):=⟨_,rfl⟩;rw[<-hw5] at O5 hb5;have HW5:=qh hw5.symm;have H5:=qh (And.intro O5 hb5);have hbl5:Below w5.heap.size w5 (w5.alloc (.cells #[.int .u64 (i:Int),.int .u64 (t:Int),.int .i64 kd,.int .i64 dl,.slice C z.length cc] TEn)):=(Below.refl _ _).alloc (Nat.le_refl _) _;have HO5:=qh ((HO.out.below hb5).below hbl5);have hs5:w.heap.size<=(w5.alloc (.cells #[.int .u64 (i:Int),.int .u64 (t:Int),.int .i64 kd,.int .i64 dl,.slice C z.length cc] TEn)).heap.size:=Nat.le_trans (Nat.le_trans hbs hb5.size) hbl5.size;have HBL:=qh hbl5;clear hz hob hg hb4 c4 Y5 O5 hb5 hw5 hbl5)
    | (refine wpList_load_row rfl TEn (.tmp 5) rfl wr.heap.size rfl TEn #[.int .u64 (i:Int),.int .u64 (t:Int),.int .i64 kd,.int .i64 dl,.slice C z.length cc] (0,0) _ Y5H.out Tryz.underlying44 rfl zB ?_;rw[HW5.out])
    | (at_builtin;go_loud (refine ya _ rfl (.tmp 21) (.tmp 23) 22 TEn rfl Tryz.underlying22 hi0 hz0 hz1 hz2 rfl (by decide) w.heap.size A _ ac 1 (es'.map er) [[.int .u64 (i:Int),.int .u64 (t:Int),.int .i64 kd,.int .i64 dl,.slice C z.length cc]] (by rw[List.length_map];rfl) rfl HO5.out.row (RS.lit (Blk.new w5 #[.int .u64 (i:Int),.int .u64 (t:Int),.int .i64 kd,.int .i64 dl,.slice C z.length cc] TEn)) (by simp) (by simp[Value.oneCell']) (by have:=HLK.out;simp;omega) (by have:=HLK.out;simp;omega) hs5 ?_);intro ys A9 c9 w9 hys hy1 hy2 hrow hg9 hA9;have HYS:=hys;have HROW:=qh hrow;have HG9:=qh hg9;clear hys hrow hg9 hA9 hy1 hy2))
   go_roundw
   case rel =>
    have hz:z=dt:=(by simpa using HZ.out);have hys:=HYS.out;have hrow:=HROW.out;subst hz;rw[hys] at hrow ⊢;have O6:=(H5.out.1.below HBL.out).base_le (base':=w.heap.size) (by omega);have hb5:Below w.heap.size w (w5.alloc (.cells #[.int .u64 (i:Int),.int .u64 (t:Int),.int .i64 kd,.int .i64 dl,.slice C z.length cc] TEn)):=(HB.out.trans (H5.out.2.mono hbs)).alloc (Nat.le_trans hbs H5.out.2.size) _;have hb9:Below w.heap.size w w9:=hb5.grown HG9.out hs5 (fun b hb=>(HO5.out.row.blk_lt b hb).1);rw[show es'.map er++[[Value.int .u64 (i:Int),.int .u64 (t:Int),.int .i64 kd,.int .i64 dl,.slice C z.length cc]]=(es'++[((⟨i,t,kd,dl,z⟩:En),C,cc)]).map er from by rw[List.map_append];rfl] at hrow;refine⟨k+1,A9,c9,_,es'++[(⟨i,t,kd,dl,z⟩,C,cc)],by omega,by go_num,?_,rfl,qh ?_,qh (EO.snoc HO5.out O6 HG9.out hrow (Nat.le_refl _)),qh hb9⟩
    ·simp
    ·rw[List.map_append,HM.out];exact HT.out.symm
   case measure=>simp[intOf];omega
  ·obtain rfl:k=es.length:=(by omega);have hm:es'.map Prod.fst=es.map Prod.fst:=(by have:=HM.out;rwa [List.take_length] at this);clear HM;have HM:=qh hm;subst hn3;clear hm;go_wp2_with fail;go_ret;exact⟨A,ac,es',rfl,HM.out,HO.out,HB.out⟩
end
end Go.Proofs.YtobdmlejabjmiaaGreatDoor
