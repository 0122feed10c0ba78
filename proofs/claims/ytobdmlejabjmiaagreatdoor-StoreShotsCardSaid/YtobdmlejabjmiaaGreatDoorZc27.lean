/- Made small by a program. -/
import Derived.Test.YtobdmlejabjmiaaGreatDoorZc26
import Derived.LaidEqlPtr
set_option maxRecDepth 20000
set_option maxHeartbeats 8000000
namespace Go.Proofs.YtobdmlejabjmiaaGreatDoor
open Go.RowKit
open Go.Lib (parseUintB decDigits)
structure WEnv(B:Nat)(w:World):Prop where
 se:SEnv B w
 max:∃m,∀w',Below B w w'->w'.cell? ⟨5,0,none⟩=some (.int .i64 m)
theorem WEnv.below{B:Nat}{w w':World}(h:WEnv B w)(hb:Below B w w'):WEnv B w':=by
 obtain⟨h1,⟨m,h2⟩⟩:=h;exact⟨h1.below hb,m,fun v hv=>h2 v (hb.trans hv)⟩
theorem zfm(s:List UInt8):Lib.splitB ⟨#[46]⟩ 0 (Lib.countB ⟨s.toArray⟩ ⟨#[46]⟩) ⟨s.toArray⟩=(parts 46 s).map (fun l=>⟨l.toArray⟩)/\Lib.countB ⟨s.toArray⟩ ⟨#[46]⟩+1=(parts 46 s).length:=by
 have hc:Lib.countB ⟨s.toArray⟩ ⟨#[46]⟩=Lib.count s [46]:=rfl;obtain⟨h1,h2⟩:=jS 46 s.length s (Nat.le_refl _);refine⟨?_,by rw[hc,h2,qC]⟩;have h:=Lib.splitB_data ⟨#[46]⟩ 0 (Lib.countB ⟨s.toArray⟩ ⟨#[46]⟩) ⟨s.toArray⟩;have h':(Lib.splitB ⟨#[46]⟩ 0 (Lib.countB ⟨s.toArray⟩ ⟨#[46]⟩) ⟨s.toArray⟩).map (·.data.toList)=parts 46 s:=by rw[h,hc];exact h1
 rw[<-h',List.map_map]
 conv=>lhs;rw[<-List.map_id (Lib.splitB ⟨#[46]⟩ 0 (Lib.countB ⟨s.toArray⟩ ⟨#[46]⟩) ⟨s.toArray⟩)]
 rfl
theorem splitDot(s:List UInt8)(B:Nat)(w:World)(hs:s.length<4294967281)(hE:WEnv B w) :
  Calls Tryz.prog 129 #[.string ⟨s.toArray⟩,.string ⟨#[46]⟩] w fun e w'=>e=.returned (.slice (some ⟨w.heap.size,0,none⟩) (parts 46 s).length (parts 46 s).length)/\w'=w.alloc (.cells ((parts 46 s).map encStr).toArray 9):=by
 obtain⟨m,hm⟩:=hE.max;obtain⟨h1,h2⟩:=zfm s;refine(Tryz.strings_Split ⟨s.toArray⟩ ⟨#[46]⟩ m w (by simpa [ByteArray.size] using hs) (hm w (Below.refl _ _)) (by decide)).mono ?_;rintro e w' ⟨rfl,rfl⟩;rw[h1,h2,List.map_map];exact⟨rfl,rfl⟩
def PartsE(o:Option (Nat × Nat))(w:World)(e:Ending)(w':World):Prop :=
 Below w.heap.size w w'/\∃x y:Int,e=.returned (.tuple #[.int .u64 x,.int .u64 y,.bool o.isSome])/\∀a b,o=some (a,b)->x=(a:Int)/\y=(b:Int)
theorem jv{o:Option (Nat × Nat)}{w w':World}{x y:Int}(h:o=none)(hb:Below w.heap.size w w'):PartsE o w (.returned (.tuple #[.int .u64 x,.int .u64 y,.bool false])) w':=by
 subst h;exact⟨hb,x,y,rfl,fun a b h=>by cases h⟩
theorem zdN{o:Option (Nat × Nat)}{w w':World}{a b:Nat}(h:o=some (a,b))(hb:Below w.heap.size w w'):PartsE o w (.returned (.tuple #[.int .u64 (a:Int),.int .u64 (b:Int),.bool true])) w':=by
 subst h;exact⟨hb,_,_,rfl,fun c d h=>by injection h with h;injection h with h1 h2;subst h1 h2;exact⟨rfl,rfl⟩⟩
theorem walParts(s:List UInt8)(B:Nat)(w:World)(hs:s.length<=1000)(hE:WEnv B w)(hB:B<=w.heap.size) :
  Calls Tryz.prog 65 #[.string ⟨s.toArray⟩] w (PartsE (partsN s) w):=by
 obtain⟨o,ho⟩:∃o,o=partsN s:=⟨_,rfl⟩;rw[<-ho];unfold partsN at ho;have SP:=splitDot s B w (by omega) hE;have hpl:=zbJ 46 s;obtain⟨L,hL⟩:∃L,L=parts 46 s:=⟨_,rfl⟩;rw[<-hL] at ho SP hpl;clear hL;have HSP:=qh SP;by_cases h3:L.length=3
 ·obtain⟨a,b,c,rfl⟩:∃a b c,L=[a,b,c]:=by
   match L,h3 with
   | [a,b,c],_=>exact⟨a,b,c,rfl⟩
  have hb0:=Blk.new w #[.string ⟨a.toArray⟩,.string ⟨b.toArray⟩,.string ⟨c.toArray⟩] 9;have hbl:Below w.heap.size w (w.alloc (.cells #[.string ⟨a.toArray⟩,.string ⟨b.toArray⟩,.string ⟨c.toArray⟩] 9)):=(Below.refl _ _).alloc (Nat.le_refl _) _;have hlb:=hpl b (by simp);have hlc:=hpl c (by simp);have HBL:=qh hbl;have HBK:=qh hb0;simp only[List.map_cons,List.map_nil,List.length_cons,List.length_nil,encStr] at HSP;rw[show([.string ⟨a.toArray⟩,.string ⟨b.toArray⟩,.string ⟨c.toArray⟩]:List Value).toArray=#[.string ⟨a.toArray⟩,.string ⟨b.toArray⟩,.string ⟨c.toArray⟩] from rfl] at HSP;have hE1:=hE.se.below (hbl.mono hB);have HE1:=qh hE1;have PB:=qh (ze0 b B _ (by omega) hE1);generalize w.alloc (.cells #[.string ⟨a.toArray⟩,.string ⟨b.toArray⟩,.string ⟨c.toArray⟩] 9)=w1 at *;have c0:=HBK.out.cell 0 rfl;have c1:=HBK.out.cell 1 rfl;have c2:=HBK.out.cell 2 rfl;by_cases ha:a=[119]
  ·subst ha;have HO:Hid (o=match parseUintB 64 b,parseUintB 64 c with | .ok x,.ok y=>some (x,y) | _,_=>none):=qh ho;clear ho SP h3 hb0 hbl hpl hE hE1 hlb;go_enter Tryz.func65,Tryz.ntmps65;go_wp2_with (go_at_call 129;refine HSP.out.mono ?_);first | rintro e w2 ⟨rfl,rfl⟩ | rintro e w2 rfl rfl
   clear HSP;go_wp2_with (go_at_call 122;refine PB.out.mono ?_);rintro e w3 ⟨hb3,hpb⟩;have HB3:=qh hb3;have PC:=qh (ze0 c B w3 (by omega) (HE1.out.below (hb3.mono (Nat.le_trans hB HBL.out.size))));have d2:=(HBK.out.kept hb3).cell 2 rfl;clear hb3 PB c0 c1 c2
   rcases hpb with⟨u,hu,rfl⟩ | ⟨hu,x,N,rfl⟩
   ·go_wp2_with (go_at_call 122;refine PC.out.mono ?_);rintro e w4 ⟨hb4,hpc⟩;have HB4:=qh (HBL.out.trans ((HB3.out.trans (hb4.mono HB3.out.size)).mono HBL.out.size));clear hb4 PC d2
    rcases hpc with⟨v,hv,rfl⟩ | ⟨hv,y,M,rfl⟩
    ·have HO2:Hid (o=some (u,v)):=qh (by rw[HO.out,hu,hv]);clear HO hu hv;go_wp2_with fail
     go_quiet (fail)
     go_wp2_with fail
     go_ret3
     exact zdN HO2.out (zl HB4.out _)
    ·have HO2:Hid (o=none):=qh (by
      rw[HO.out];split
      ·rename_i h1 h2;exact absurd h2 (hv _)
      ·rfl)
     clear HO hu hv;go_wp2_with fail
     go_quiet (fail)
     go_wp2_with fail
     go_ret3
     exact jv HO2.out (zl HB4.out _)
   ·go_wp2_with (go_at_call 122;refine PC.out.mono ?_);rintro e w4 ⟨hb4,hpc⟩;have HB4:=qh (HBL.out.trans ((HB3.out.trans (hb4.mono HB3.out.size)).mono HBL.out.size));have HO2:Hid (o=none):=qh (by
     rw[HO.out];split
     ·rename_i h1 h2;exact absurd h1 (hu _)
     ·rfl)
    clear hb4 PC d2 HO hu
    rcases hpc with⟨v,hv,rfl⟩ | ⟨hv,y,M,rfl⟩
    all_goals
     clear hv;go_wp2_with fail
     go_quiet (fail)
     go_wp2_with fail
     go_ret3
     exact jv HO2.out (zl HB4.out _)
  ·have HO:Hid (o=none):=qh (by rw[ho];simp only[if_neg ha]);have hab:(a == [119])=false:=(by simpa using ha);clear ho SP h3 hb0 hbl hpl hE hE1 hlb PB;go_enter Tryz.func65,Tryz.ntmps65;go_wp2_with (go_at_call 129;refine HSP.out.mono ?_);first | rintro e w2 ⟨rfl,rfl⟩ | rintro e w2 rfl rfl
   clear HSP;go_wp2_with fail
   go_ret3
   exact jv HO.out HBL.out
 ·have HO:Hid (o=none):=qh (by
   rw[ho];split
   ·exact absurd rfl h3
   ·rfl)
  have h3b:(((L.length:Nat):Int) == 3)=false:=by rw[beq_eq_false_iff_ne];omega
  have HBL:Hid (Below w.heap.size w (w.alloc (.cells (L.map encStr).toArray 9))):=qh ((Below.refl _ _).alloc (Nat.le_refl _) _);generalize w.alloc (.cells (L.map encStr).toArray 9)=w1 at *;clear ho SP hpl hE;generalize L.length=n at *;go_enter Tryz.func65,Tryz.ntmps65;go_wp2_with (go_at_call 129;refine HSP.out.mono ?_);first | rintro e w2 ⟨rfl,rfl⟩ | rintro e w2 rfl rfl
  clear HSP;go_wp2_with fail
  go_ret3
  exact jv HO.out HBL.out
end Go.Proofs.YtobdmlejabjmiaaGreatDoor
namespace Go.Proofs.YtobdmlejabjmiaaGreatDoor
open Go.RowKit
theorem zbL(q:Nat)(w:World):(binOp .neq TP (.pointer (some ⟨q,0,none⟩)) (.pointer (some ⟨q,0,none⟩))).run Tryz.prog w=.ok (.bool false) w:=by
 have hT:=Tryz.underlying159;have hS:=Tryz.sizeOf158;simp only[binOp];unfold Op.equal;rw[show Op.maxDepth=9999+1 from rfl];unfold Op.equalIn;simp only[Sem.run_bind,run_underlying hT,Result.andThen_ok]
 go_simp
 simp[run_sameAddr_same]
theorem za3{q r:Nat}{w:World}{ca cb:Array Value}(hne:q≠r)(ha:Blk w q TG ca)(hb:Blk w r TG cb):(binOp .neq TP (.pointer (some ⟨q,0,none⟩)) (.pointer (some ⟨r,0,none⟩))).run Tryz.prog w=.ok (.bool true) w:=by
 have hT:=Tryz.underlying159;have hS:=Tryz.sizeOf158;have h:=run_sameAddr_other (P:=Tryz.prog) w (a:=⟨q,0,none⟩) (b:=⟨r,0,none⟩) (fun e=>hne (by injection e)) ha hb;simp only[binOp];unfold Op.equal;rw[show Op.maxDepth=9999+1 from rfl];unfold Op.equalIn;simp only[Sem.run_bind,run_underlying hT,Result.andThen_ok]
 go_simp
structure RL(T:Nat->Prop)(w:World)(X:Option Addr)(L:List (Option Addr × Nat × List UInt8)):Prop where
 rbb:RBB w X L
 row:0<L.length->∀b,X.map (·.block)=some b->¬T b
 rcs:∀y∈L,0<y.2.2.length->∀b,y.1.map (·.block)=some b->¬T b
theorem RV.mods{T:Nat->Prop}{w w':World}{A:Option Addr}{xs:List Value}(h:RV w A xs)(m:Mods T w w')(hn:0<xs.length->∀k,A.map (·.block)=some k->¬T k):RV w' A xs:=by
 refine⟨fun h0=>?_⟩;obtain⟨b,off,e,hb,hc⟩:=h.at_ h0;exact⟨b,off,e,Nat.lt_of_lt_of_le hb m.size,fun j y hy=>(m.cell (p:=⟨b,_,none⟩) hb (hn h0 b (by rw[e];rfl))).trans (hc j y hy)⟩
theorem RL.mods{T U:Nat->Prop}{w w':World}{X:Option Addr}{L:List (Option Addr × Nat × List UInt8)}(h:RL T w X L)(m:Mods U w w')(hU:∀b,b<w.heap.size->U b->T b):RL T w' X L:=by
 have h0:0<(L.map fun t:Option Addr × Nat × List UInt8=>Value.slice t.1 t.2.2.length t.2.1).length->0<L.length:=fun h=>by simpa using h
 refine⟨⟨h.rbb.reads.mods m (fun hl k hk hu=>?_),fun t ht=>⟨(h.rbb.each t ht).1.mods m (fun hl k hk hu=>?_),(h.rbb.each t ht).2⟩⟩,h.row,h.rcs⟩
 ·obtain⟨b,off,e,hb,_⟩:=h.rbb.reads.at_ hl;have e2:b=k:=by rw[e] at hk;simpa using hk
  subst e2;exact h.row (h0 hl) b hk (hU b hb hu)
 ·obtain⟨b,off,e,hb,_⟩:=(h.rbb.each t ht).1.at_ hl;have e2:b=k:=by rw[e] at hk;simpa using hk
  subst e2;exact h.rcs t ht hl b hk (hU b hb hu)
structure Lg.fine(l:Lg):Prop where
 seg:∀s∈l.segs,s.stop<=100000000/\s.marks.length<=1000000/\s.name.length<=1000/\s.first<=1000000000000
 nx:l.next<=1000000000000
 era:l.era<=1000000000000
 sl:l.segs.length<=1000000
 rl:l.recs.length<=1000000
 rc:∀r∈l.recs,r.length<=100000
section
variable {B g sc rc:Nat} {S F T S' F':Nat->Prop} {w w1 wr w':World} {l l':Lg} {D D':DSt} {Z Z1:List (Sg × Pl)} {Y:List (List UInt8 × Option Addr × Nat)} {SA RA:Option Addr} {s s':Sg} {z:Pl}
theorem LB.keepMarks(h:LB B S F w g D Z Y SA sc RA rc){zm:Nat}{cs:Array Value}(hb:Blk w zm 3 cs)(hS:¬S zm)(m:Mods (·=zm) w w')(hz:∀z∈Z,z.2.m=zm->OV w' B 3 (some ⟨zm,0,none⟩) z.2.c (z.1.marks.map encMark)):LB B S F w' g D Z Y SA sc RA rc where
 di:=h.di.mods m (fun b _ hs e=>hS (by rw[<-e];exact hs))
 sv:=h.sv.mods m (fun k hk e=>h.sv.ne_blk hb (by decide) (by rw[hk,e]))
 rv:=h.rv.mods m (fun k hk e=>h.rv.ne_blk hb (by decide) (by rw[hk,e]))
 sg:=fun z hz'=>by
  by_cases e:z.2.m=zm
  ·refine⟨(h.sg z hz').blk.mods m ((h.sg z hz').blk.ne hb (by decide)),?_,(h.sg z hz').pos⟩;have:=hz z hz' e;rw[<-e] at this;exact this
  ·exact(h.sg z hz').mods m ((h.sg z hz').blk.ne hb (by decide)) e
 rc:=fun y hy=>(h.rc y hy).mods m (fun h0 k hk e=>by
  obtain⟨cs',hc⟩:=h.yb y hy h0 k hk;exact hc.ne hb (by decide) e)
 fs:=h.fs
 fr:=h.fr
 fq:=h.fq
 fy:=h.fy
 yb:=fun y hy h0 b e=>by
  obtain⟨cs',hc⟩:=h.yb y hy h0 b e;exact⟨cs',hc.mods m (fun e'=>hc.ne hb (by decide) e')⟩
 dis:=h.dis
 bnd:=fun b hb'=>⟨(h.bnd b hb').1,Nat.lt_of_lt_of_le (h.bnd b hb').2 m.size⟩
 sge:=h.sge
 qn:=h.qn
 mn:=h.mn
theorem LB.segSet(h:LB B S F w g D (Z1++[(s,z)]) Y SA sc RA rc){mb mc:Nat}(hs:s'.name=s.name/\s'.first=s.first)(hp:0<s'.marks.length)(hm:OV w B 3 (some ⟨mb,0,none⟩) mc (s'.marks.map encMark))(hf:F mb)(hn:∀y∈Z1,y.2.m≠mb) :
  LB B S F (w.setCell ⟨z.q,2,none⟩ (.slice (some ⟨mb,0,none⟩) s'.marks.length mc)) g D (Z1++[(s',⟨z.q,mb,mc⟩)]) Y SA sc RA rc:=by
 have hz:=h.sg (s,z) (by simp);have hq:=(h.fq (s,z) (by simp)).1;have hqs:¬S z.q:=h.dis _ hq;have m:Mods (·=z.q) w (w.setCell ⟨z.q,2,none⟩ (.slice (some ⟨mb,0,none⟩) s'.marks.length mc)):=(Mods.refl (·=z.q) w).setCell ⟨z.q,_,none⟩ (.inl rfl) _;have hzb:Blk w z.q TG (sgV s z):=hz.blk;have hqn:=h.qn;have hmn:=h.mn;rw[List.map_append,List.nodup_append] at hqn hmn;have hne:∀y∈Z1,y.2.q≠z.q:=fun y hy=>hqn.2.2 _ (List.mem_map.2 ⟨y,hy,rfl⟩) _ (by simp)
 refine⟨h.di.mods m (fun b _ hs e=>hqs (by rw[<-e];exact hs)),?_,h.rv.mods m (fun k hk e=>h.rv.ne_blk hzb (by decide) (by rw[hk,e])),?_,?_,h.fs,h.fr,?_,h.fy,?_,h.dis,fun b hb'=>⟨(h.bnd b hb').1,Nat.lt_of_lt_of_le (h.bnd b hb').2 m.size⟩,h.sge,?_,?_⟩
 ·have h1:=h.sv.mods m (fun k hk e=>h.sv.ne_blk hzb (by decide) (by rw[hk,e]));simpa [ptrV] using h1
 ·intro y hy
  rcases List.mem_append.1 hy with hy | hy
  ·have hy':=h.sg y (List.mem_append_left _ hy);refine hy'.mods m (hne y hy) ?_;obtain⟨cs,hb⟩:=hy'.mblk;exact hb.ne hzb (by decide)
  ·rw[List.mem_singleton.1 hy];refine⟨?_,hm.mods m (fun k hk e=>hm.ne_blk hzb (by decide) (by rw[hk,e])),hp⟩;have h1:=hzb.setCell 2 (.slice (some ⟨mb,0,none⟩) s'.marks.length mc);have e:(sgV s z).setIfInBounds 2 (.slice (some ⟨mb,0,none⟩) s'.marks.length mc)=sgV s' ⟨z.q,mb,mc⟩:=by
    simp[sgV,hs.1,hs.2]
   rw[e] at h1;exact h1
 ·exact fun y hy=>(h.rc y hy).mods m (fun h0 k hk e=>by
   obtain⟨cs',hc⟩:=h.yb y hy h0 k hk;exact hc.ne hzb (by decide) e)
 ·intro y hy
  rcases List.mem_append.1 hy with hy | hy
  ·exact h.fq y (List.mem_append_left _ hy)
  ·rw[List.mem_singleton.1 hy];exact⟨hq,hf⟩
 ·intro y hy h0 b e;obtain⟨cs',hc⟩:=h.yb y hy h0 b e;exact⟨cs',hc.mods m (fun e'=>hc.ne hzb (by decide) e')⟩
 ·rw[List.map_append,List.nodup_append];exact hqn
 ·rw[List.map_append,List.nodup_append];refine⟨hmn.1,by simp,fun a ha b hb=>?_⟩;obtain⟨y,hy,rfl⟩:=List.mem_map.1 ha;have hb':b=mb:=by simpa using hb
  rw[hb'];exact hn y hy
theorem LB.segAdd(h:LB B S F w g D Z Y SA sc RA rc){SA':Option Addr}{sc':Nat}(hs:SgAt w' B s z)(m:Mods T w w')(hT:∀k,T k->SA.map (·.block)=some k\/w.heap.size<=k)(hsv:OV w' B TP SA' sc' (Z.map ptrV++[ptrV (s,z)]))(hF:∀b,F b->F' b)(hS:∀b,F' b->¬S b)(hB:∀b,F' b->B<=b/\b<w'.heap.size)
  (hsa:∀b,SA'.map (·.block)=some b->F' b) (hq:F' z.q/\F' z.m) (hqn:∀y∈Z,y.2.q≠z.q) (hmn:∀y∈Z,y.2.m≠z.m):LB B S F' w' g D (Z++[(s,z)]) Y SA' sc' RA rc:=by
 have hTs:∀k,k<w.heap.size->T k->SA.map (·.block)=some k:=fun k hk ht=>by
  rcases hT k ht with h1 | h1
  ·exact h1
  ·omega
 have hTb:∀{e:TypeId} {k:Nat} {cs:Array Value},Blk w k e cs->TP≠e->¬T k:=fun {e k cs} hb hne ht=>by
  have h1:=hTs k hb.lt ht;exact h.sv.ne_blk hb (Ne.symm hne) h1
 refine⟨h.di.mods m (fun b hb hs' ht=>?_),by rw[List.map_append];exact hsv,h.rv.mods m (fun k hk ht=>?_),?_,?_,hsa,fun b e=>hF b (h.fr b e),?_,fun y hy h0 b e=>hF b (h.fy y hy h0 b e),?_,hS,hB,h.sge,?_,?_⟩
 ·exact h.dis b (h.fs b (hTs b hb ht)) hs'
 ·rcases h.rv.cells with e | ⟨b,cs,e,hb⟩
  ·rw[e] at hk;simp at hk
  ·rw[e] at hk;have:b=k:=(by simpa using hk);subst this;exact hTb hb (by decide) ht
 ·intro y hy
  rcases List.mem_append.1 hy with hy | hy
  ·have hy':=h.sg y hy;obtain⟨cs,hb⟩:=hy'.mblk;exact hy'.mods m (hTb hy'.blk (by decide)) (hTb hb (by decide))
  ·rw[List.mem_singleton.1 hy];exact hs
 ·exact fun y hy=>(h.rc y hy).mods m (fun h0 k hk ht=>by
   obtain⟨cs',hc⟩:=h.yb y hy h0 k hk;exact hTb hc (by decide) ht)
 ·intro y hy
  rcases List.mem_append.1 hy with hy | hy
  ·exact⟨hF _ (h.fq y hy).1,hF _ (h.fq y hy).2⟩
  ·rw[List.mem_singleton.1 hy];exact hq
 ·intro y hy h0 b e;obtain⟨cs',hc⟩:=h.yb y hy h0 b e;exact⟨cs',hc.mods m (hTb hc (by decide))⟩
 ·rw[List.map_append,List.nodup_append];refine⟨h.qn,by simp,fun a ha b hb=>?_⟩;obtain⟨y,hy,rfl⟩:=List.mem_map.1 ha;have hb':b=z.q:=by simpa using hb
  rw[hb'];exact hqn y hy
 ·rw[List.map_append,List.nodup_append];refine⟨h.mn,by simp,fun a ha b hb=>?_⟩;obtain⟨y,hy,rfl⟩:=List.mem_map.1 ha;have hb':b=z.m:=by simpa using hb
  rw[hb'];exact hmn y hy
theorem LB.recAdd(h:LB B S F w g D Z Y SA sc RA rc){RA':Option Addr}{rc':Nat}{y:List UInt8 × Option Addr × Nat}(hr:RB w' y.2.1 y.1)(m:Mods T w w')(hT:∀k,T k->RA.map (·.block)=some k\/w.heap.size<=k)(hrv:OV w' B TB RA' rc' (Y.map recV++[recV y]))(hF:∀b,F b->F' b)(hS:∀b,F' b->¬S b)(hB:∀b,F' b->B<=b/\b<w'.heap.size)
  (hra:∀b,RA'.map (·.block)=some b->F' b) (hy:0<y.1.length->∀b,y.2.1.map (·.block)=some b->F' b/\∃cs,Blk w' b 5 cs):LB B S F' w' g D Z (Y++[y]) SA sc RA' rc':=by
 have hTs:∀k,k<w.heap.size->T k->RA.map (·.block)=some k:=fun k hk ht=>by
  rcases hT k ht with h1 | h1
  ·exact h1
  ·omega
 have hTb:∀{e:TypeId} {k:Nat} {cs:Array Value},Blk w k e cs->TB≠e->¬T k:=fun {e k cs} hb hne ht=>by
  have h1:=hTs k hb.lt ht;exact h.rv.ne_blk hb (Ne.symm hne) h1
 refine⟨h.di.mods m (fun b hb hs' ht=>?_),h.sv.mods m (fun k hk ht=>?_),by rw[List.map_append];exact hrv,?_,?_,fun b e=>hF b (h.fs b e),hra,?_,?_,?_,hS,hB,h.sge,h.qn,h.mn⟩
 ·exact h.dis b (h.fr b (hTs b hb ht)) hs'
 ·rcases h.sv.cells with e | ⟨b,cs,e,hb⟩
  ·rw[e] at hk;simp at hk
  ·rw[e] at hk;have:b=k:=(by simpa using hk);subst this;exact hTb hb (by decide) ht
 ·intro z hz;have hz':=h.sg z hz;obtain⟨cs,hb⟩:=hz'.mblk;exact hz'.mods m (hTb hz'.blk (by decide)) (hTb hb (by decide))
 ·intro u hu
  rcases List.mem_append.1 hu with hu | hu
  ·exact(h.rc u hu).mods m (fun h0 k hk ht=>by
    obtain⟨cs',hc⟩:=h.yb u hu h0 k hk;exact hTb hc (by decide) ht)
  ·rw[List.mem_singleton.1 hu];exact hr
 ·exact fun z hz=>⟨hF _ (h.fq z hz).1,hF _ (h.fq z hz).2⟩
 ·intro u hu h0 b e
  rcases List.mem_append.1 hu with hu | hu
  ·exact hF b (h.fy u hu h0 b e)
  ·rw[List.mem_singleton.1 hu] at h0 e;exact(hy h0 b e).1
 ·intro u hu h0 b e
  rcases List.mem_append.1 hu with hu | hu
  ·obtain⟨cs',hc⟩:=h.yb u hu h0 b e;exact⟨cs',hc.mods m (hTb hc (by decide))⟩
  ·rw[List.mem_singleton.1 hu] at h0 e;exact(hy h0 b e).2
structure ApAt(B:Nat)(w1 wr:World)(z:Pl)(s:Sg)(A:Option Addr)(c:Nat)(bs:List UInt8)(mb mc:Nat)(ms:List Nat):Prop where
 ob:OB wr w1.heap.size A c bs
 mr:OV wr B 3 (some ⟨mb,0,none⟩) mc (ms.map encMark)
 old:OV wr B 3 (some ⟨z.m,0,none⟩) z.c (s.marks.map encMark)
 pre:∃t,ms=s.marks++t
 mb:mb=z.m\/w1.heap.size<=mb
 zm:z.m<w1.heap.size
 mods:Mods (·=z.m) w1 wr
variable {A A':Option Addr} {c c' mb mc:Nat} {bs bs':List UInt8} {ms:List Nat}
theorem ApAt.mblk(h:ApAt B w1 wr z s A c bs mb mc ms):∃cs,Blk wr mb 3 cs:=by
 rcases h.mr.cells with e | ⟨g,cs,e,hb⟩
 ·cases e
 ·injection e with e;injection e with e _ _;subst e;exact⟨cs,hb⟩
theorem ApAt.zblk(h:ApAt B w1 wr z s A c bs mb mc ms):∃cs,Blk wr z.m 3 cs:=by
 rcases h.old.cells with e | ⟨g,cs,e,hb⟩
 ·cases e
 ·injection e with e;injection e with e _ _;subst e;exact⟨cs,hb⟩
theorem ApAt.below(h:ApAt B w1 wr z s A c bs mb mc ms)(hb:Below wr.heap.size wr w'):ApAt B w1 w' z s A c bs mb mc ms :=
 ⟨h.ob.below hb,h.mr.below hb,h.old.below hb,h.pre,h.mb,h.zm,h.mods.below hb⟩
theorem ApAt.addB(h:ApAt B w1 wr z s A c bs mb mc ms)(ho:OB w' w1.heap.size A' c' bs')(hg:wr.grownBy w' (Value.slice A bs.length c).ownBlock):ApAt B w1 w' z s A' c' bs' mb mc ms:=by
 have m:Mods (fun k=>A.map (·.block)=some k) wr w':=Mods.of_grown hg (fun k e=>by cases A<;>simp_all [Value.ownBlock]);obtain⟨cs,hc⟩:=h.mblk;obtain⟨ds,hd⟩:=h.zblk;refine⟨ho,h.mr.mods m (fun k hk e=>?_),h.old.mods m (fun k hk e=>?_),h.pre,h.mb,h.zm,h.mods.trans m (fun i hi=>.inr (h.ob.blk_in i hi).1)⟩
 ·have e2:mb=k:=by simpa using hk
  subst e2;exact h.ob.ne_blk hc (by decide) e
 ·have e2:z.m=k:=by simpa using hk
  subst e2;exact h.ob.ne_blk hd (by decide) e
theorem ApAt.addM(h:ApAt B w1 wr z s A c bs mb mc ms){g:Nat}{v:Nat}(hk:OV w' B 3 (some ⟨g,0,none⟩) c' ((ms++[v]).map encMark))(ho:OV w' B 3 (some ⟨mb,0,none⟩) mc (ms.map encMark))(hg:wr.grownBy w' (some mb))(hat:some mb=some g\/g=wr.heap.size):ApAt B w1 w' z s A c bs g c' (ms++[v]):=by
 have m:Mods (·=mb) wr w':=Mods.of_grown hg (fun k e=>by injection e with e;exact e.symm);obtain⟨cs,hc⟩:=h.mblk;refine⟨h.ob.mods m (fun k hk e=>h.ob.ne_blk hc (by decide) (by rw[hk,e])),hk,?_,?_,?_,h.zm,h.mods.trans m (fun i hi=>?_)⟩
 ·by_cases e:mb=z.m
  ·subst e;have ec:=h.mr.cap_eq h.old;subst ec;obtain⟨t,rfl⟩:=h.pre;have:=ho.take s.marks.length;rw[List.map_append,List.take_append_of_le_length (by simp),List.take_of_length_le (by simp)] at this;exact this
  ·exact h.old.mods m (fun k hk e'=>by
    have e2:z.m=k:=(by simpa using hk);exact e (by rw[e2,e']))
 ·obtain⟨t,rfl⟩:=h.pre;exact⟨t++[v],by simp⟩
 ·rcases hat with e | e
  ·injection e with e;subst e;exact h.mb
  ·right;rw[e];exact h.mods.size
 ·rcases h.mb with e | e
  ·left;rw[hi,e]
  ·right;rw[hi];exact e
structure ToAt(B:Nat)(w:World)(l:Lg)(Z:List (Sg × Pl))(z:Pl)(wx:World):Prop where
 sg:SgAt wx B l.to z
 bel:Below w.heap.size w wx
 how:(l.fits=true/\∃Z1,Z=Z1++[(l.to,z)])\/(l.fits=false/\w.heap.size<=z.q/\w.heap.size<=z.m)
theorem ToAt.own{z:Pl}{wx:World}(h:ToAt B w l Z z wx)(hl:LB B S F w g D Z Y SA sc RA rc):∀b,b<w.heap.size->(b=z.q\/b=z.m)->F b:=by
 intro b hb he
 rcases h.how with⟨_,Z1,hZ⟩ | ⟨_,h1,h2⟩
 ·have:=hl.fq (l.to,z) (by rw[hZ];simp)
  rcases he with e | e<;>rw[e]
  ·exact this.1
  ·exact this.2
 ·omega
theorem ToAt.ns{z:Pl}{wx:World}(h:ToAt B w l Z z wx)(hl:LB B S F w g D Z Y SA sc RA rc):¬S z.q/\¬S z.m:=by
 refine⟨fun hs=>?_,fun hs=>?_⟩
 ·have hb:=hl.di.bnd _ hs;exact hl.dis _ (h.own hl _ hb (.inl rfl)) hs
 ·have hb:=hl.di.bnd _ hs;exact hl.dis _ (h.own hl _ hb (.inr rfl)) hs
theorem ApAt.sg(ht:SgAt w1 B s z)(ha:ApAt B w1 wr z s A c bs mb mc ms):SgAt wr B s z:=by
 obtain⟨cs,hb⟩:=ht.mblk;exact⟨ht.blk.mods ha.mods (ht.blk.ne hb (by decide)),ha.old,ht.pos⟩
theorem ApAt.lx{p:Nat}(h:LX B S F w p g l D Z Y SA sc RA rc)(ht:ToAt B w l Z z w1)(ha:ApAt B w1 wr z l.to A c bs mb mc ms):LX B S F wr p g l D Z Y SA sc RA rc:=by
 have h1:=h.lb.below ht.bel;have hp1:=h.blk.kept ht.bel;obtain⟨cs,hb⟩:=ht.sg.mblk;refine⟨hp1.mods ha.mods (hp1.ne hb (by decide)),h.fp,h.zs,h.ys,h1.keepMarks hb (ht.ns h.lb).2 ha.mods fun z' hz' e=>?_⟩
 rcases ht.how with⟨_,Z1,hZ⟩ | ⟨_,_,h3⟩
 ·rw[hZ] at hz'
  rcases List.mem_append.1 hz' with hz' | hz'
  ·exfalso;have hn:=h.lb.mn;rw[hZ,List.map_append,List.nodup_append] at hn;exact hn.2.2 _ (List.mem_map.2 ⟨z',hz',rfl⟩) z.m (by simp) e
  ·rw[List.mem_singleton.1 hz'];exact ha.old
 ·have:=(h.lb.bnd _ (h.lb.fq z' hz').2).2;omega
theorem LX.addSeg{p g8 c8 n:Nat}{w8:World}(h:LX B S F w p g l D Z Y SA sc RA rc)(_hB:B<=w.heap.size)(hs:SgAt w B s z)(hg:w.grownBy w8 (SA.map (·.block)))(ho:OV w8 B TP (some ⟨g8,0,none⟩) c8 (Z.map ptrV++[ptrV (s,z)]))(_hat:SA.map (·.block)=some g8\/g8=w.heap.size)(hn:n=l.segs.length+1)
  (hF:∀b,F b->F' b) (hS:∀b,F' b->¬S b) (hb:∀b,F' b->B<=b/\b<w8.heap.size) (hg8:F' g8) (hq:F' z.q/\F' z.m) (hqn:∀y∈Z,y.2.q≠z.q) (hmn:∀y∈Z,y.2.m≠z.m) :
  LX B S F' (w8.setCell ⟨p,2,none⟩ (.slice (some ⟨g8,0,none⟩) n c8)) p g { l with segs:=l.segs++[s] } D (Z++[(s,z)]) Y (some ⟨g8,0,none⟩) c8 RA rc:=by
 have m:Mods (fun k=>SA.map (·.block)=some k) w w8:=Mods.of_grown hg (fun k e=>e);have hpn:¬SA.map (·.block)=some p:=fun e=>h.lb.sv.ne_blk h.blk (by decide) e
 have hp8:=h.blk.mods m hpn;obtain⟨cs,hmb⟩:=hs.mblk;have hs8:SgAt w8 B s z:=hs.mods m (fun e=>h.lb.sv.ne_blk hs.blk (by decide) e) (fun e=>h.lb.sv.ne_blk hmb (by decide) e);have h8:=h.lb.segAdd (w':=w8) (SA':=some ⟨g8,0,none⟩) (sc':=c8) hs8 m (fun k hk=>.inl hk) ho hF hS hb (fun b e=>by
  have e2:g8=b:=by simpa using e
  rw[<-e2];exact hg8) hq hqn hmn
 have mp:Mods (·=p) w8 (w8.setCell ⟨p,2,none⟩ (.slice (some ⟨g8,0,none⟩) n c8)):=(Mods.refl (·=p) w8).setCell ⟨p,_,none⟩ (.inl rfl) _;refine⟨?_,hF _ h.fp,?_,h.ys,h8.setP hp8 (hS _ (hF _ h.fp)) mp⟩
 ·have h1:=hp8.setCell 2 (.slice (some ⟨g8,0,none⟩) n c8);have e:(logV g l SA sc RA rc).setIfInBounds 2 (.slice (some ⟨g8,0,none⟩) n c8)=logV g { l with segs:=l.segs++[s] } (some ⟨g8,0,none⟩) c8 RA rc:=by
   subst hn;simp[logV]
  rw[e] at h1;exact h1
 ·rw[List.map_append,h.zs];rfl
structure JoinAt(B:Nat)(S S5 F:Nat->Prop)(W:World)(p g:Nat)(l:Lg)(D:DSt)(Y:List (List UInt8 × Option Addr × Nat))(RA:Option Addr)(rc:Nat)(z:Pl)(mb mc:Nat)(ms:List Nat)(wx:World)(Zi:List (Sg × Pl))(SA:Option Addr)(sc:Nat)(F2:Nat->Prop):Prop where
 lx:LX B S5 F2 wx p g { l with segs:=Zi.map Prod.fst++[l.to] } D (Zi++[(l.to,z)]) Y SA sc RA rc
 zi:Zi.map Prod.fst=if l.fits=true then l.segs.dropLast else l.segs
 f2:∀b,F2 b->F b\/W.heap.size<=b
 fm:F2 mb
 mn:∀y∈Zi,y.2.m≠mb
 mods:Mods (fun b=>S b\/F b) W wx
 mr:OV wx B 3 (some ⟨mb,0,none⟩) mc (ms.map encMark)
theorem LX.addRec{p g8 c8 n:Nat}{w8:World}{y:List UInt8 × Option Addr × Nat}(h:LX B S F w p g l D Z Y SA sc RA rc)(hr:RB w8 y.2.1 y.1)(hg:w.grownBy w8 (RA.map (·.block)))(ho:OV w8 B TB (some ⟨g8,0,none⟩) c8 (Y.map recV++[recV y]))(hn:n=l.recs.length+1)
  (hF:∀b,F b->F' b) (hS:∀b,F' b->¬S b) (hb:∀b,F' b->B<=b/\b<w8.heap.size) (hg8:F' g8) (hy:0<y.1.length->∀b,y.2.1.map (·.block)=some b->F' b/\∃cs,Blk w8 b 5 cs) :
  LX B S F' (w8.setCell ⟨p,3,none⟩ (.slice (some ⟨g8,0,none⟩) n c8)) p g { l with recs:=l.recs++[y.1] } D Z (Y++[y]) SA sc (some ⟨g8,0,none⟩) c8:=by
 have m:Mods (fun k=>RA.map (·.block)=some k) w w8:=Mods.of_grown hg (fun k e=>e);have hpn:¬RA.map (·.block)=some p:=fun e=>h.lb.rv.ne_blk h.blk (by decide) e
 have hp8:=h.blk.mods m hpn;have h8:=h.lb.recAdd (w':=w8) (RA':=some ⟨g8,0,none⟩) (rc':=c8) hr m (fun k hk=>.inl hk) ho hF hS hb (fun b e=>by
  have e2:g8=b:=by simpa using e
  rw[<-e2];exact hg8) hy
 have mp:Mods (·=p) w8 (w8.setCell ⟨p,3,none⟩ (.slice (some ⟨g8,0,none⟩) n c8)):=(Mods.refl (·=p) w8).setCell ⟨p,_,none⟩ (.inl rfl) _;refine⟨?_,hF _ h.fp,h.zs,?_,h8.setP hp8 (hS _ (hF _ h.fp)) mp⟩
 ·have h1:=hp8.setCell 3 (.slice (some ⟨g8,0,none⟩) n c8);have e:(logV g l SA sc RA rc).setIfInBounds 3 (.slice (some ⟨g8,0,none⟩) n c8)=logV g { l with recs:=l.recs++[y.1] } SA sc (some ⟨g8,0,none⟩) c8:=by
   subst hn;simp[logV]
  rw[e] at h1;exact h1
 ·rw[List.map_append,h.ys];rfl
theorem LX.setMarks{p mb mc:Nat}{Z1:List (Sg × Pl)}(h:LX B S F w p g l D (Z1++[(s,z)]) Y SA sc RA rc)(hl:l.segs=Z1.map Prod.fst++[s])(hs:s'.name=s.name/\s'.first=s.first)(hp:0<s'.marks.length)(hm:OV w B 3 (some ⟨mb,0,none⟩) mc (s'.marks.map encMark))(hf:F mb)(hn:∀y∈Z1,y.2.m≠mb) :
  LX B S F (w.setCell ⟨z.q,2,none⟩ (.slice (some ⟨mb,0,none⟩) s'.marks.length mc)) p g { l with segs:=Z1.map Prod.fst++[s'] } D (Z1++[(s',⟨z.q,mb,mc⟩)]) Y SA sc RA rc:=by
 have hzb:=(h.lb.sg (s,z) (by simp)).blk;have m:Mods (·=z.q) w (w.setCell ⟨z.q,2,none⟩ (.slice (some ⟨mb,0,none⟩) s'.marks.length mc)):=(Mods.refl (·=z.q) w).setCell ⟨z.q,_,none⟩ (.inl rfl) _;refine⟨?_,h.fp,by simp,h.ys,h.lb.segSet hs hp hm hf hn⟩;have h1:=h.blk.mods m (h.blk.ne hzb (by decide));have e:logV g l SA sc RA rc=logV g { l with segs:=Z1.map Prod.fst++[s'] } SA sc RA rc:=by
  simp only[logV];rw[hl];simp
 rw[e] at h1;exact h1
theorem JoinAt.same{S5:Nat->Prop}{W wc:World}{D1:DSt}{p mb mc:Nat}{ms:List Nat}(hx:LX B S5 F wc p g l D1 Z Y SA sc RA rc)(hZ:Z=Z1++[(l.to,z)])(hf:l.fits=true)(hmr:OV wc B 3 (some ⟨mb,0,none⟩) mc (ms.map encMark))
  (hns:¬S5 mb) (hmb:B<=mb/\mb<wc.heap.size) (hw:mb=z.m\/W.heap.size<=mb) (h0:LX B S F W p g l D Z Y SA sc RA rc) (hm:Mods (fun b=>S b\/F b) W wc) :
  JoinAt B S S5 F W p g l D1 Y RA rc z mb mc ms wc Z1 SA sc (fun b=>F b\/b=mb):=by
 subst hZ;have hs:l.segs=Z1.map Prod.fst++[l.to]:=by rw[<-hx.zs];simp
 have hfz:=hx.lb.fq (l.to,z) (by simp);refine⟨?_,?_,fun b hb=>?_,.inr rfl,fun y hy e=>?_,hm,hmr⟩
 ·rw[<-hs];refine⟨hx.blk,.inl hx.fp,hx.zs,hx.ys,hx.lb.wide (fun b hb=>.inl hb) (fun b hb=>?_) (fun b hb=>?_)⟩
  ·rcases hb with hb | rfl
   ·exact hx.lb.dis b hb
   ·exact hns
  ·rcases hb with hb | rfl
   ·exact hx.lb.bnd b hb
   ·exact hmb
 ·rw[if_pos hf,hs,List.dropLast_concat]
 ·rcases hb with hb | rfl
  ·exact .inl hb
  ·rcases hw with e | e
   ·rw[e];exact .inl hfz.2
   ·exact .inr e
 ·rcases hw with e2 | e2
  ·have:=hx.lb.mn;rw[List.map_append,List.nodup_append] at this;exact this.2.2 y.2.m (List.mem_map.2 ⟨y,hy,rfl⟩) z.m (by simp) (by rw[e,e2])
  ·have:=(h0.lb.sg y (List.mem_append_left _ hy)).lt.2;omega
theorem JoinAt.added{S5:Nat->Prop}{W w8:World}{D1:DSt}{p mb mc g8 c8 n:Nat}{ms:List Nat}(hx:LX B S5 F w p g l D1 Z Y SA sc RA rc)(hsg:SgAt w B l.to z)(hf:l.fits=false)(hq:W.heap.size<=z.q/\W.heap.size<=z.m)(hzs:¬S5 z.q/\¬S5 z.m)
  (hmr:OV w B 3 (some ⟨mb,0,none⟩) mc (ms.map encMark)) (hns:¬S5 mb) (hmb:B<=mb/\mb<w.heap.size) (hw:mb=z.m\/W.heap.size<=mb) (h0:LX B S F W p g l D Z Y SA sc RA rc) (hm:Mods (fun b=>S b\/F b) W w) (hB:B<=W.heap.size)
  (hg:w.grownBy w8 (SA.map (·.block))) (ho:OV w8 B TP (some ⟨g8,0,none⟩) c8 (Z.map ptrV++[ptrV (l.to,z)])) (hat:SA.map (·.block)=some g8\/g8=w.heap.size) (hn:n=l.segs.length+1) :
  JoinAt B S S5 F W p g l D1 Y RA rc z mb mc ms (w8.setCell ⟨p,2,none⟩ (.slice (some ⟨g8,0,none⟩) n c8)) Z (some ⟨g8,0,none⟩) c8 (fun b=>F b\/b=mb\/b=z.q\/b=z.m\/b=g8):=by
 have hWs:W.heap.size<=w.heap.size:=hm.size;have hw8:w.heap.size<=w8.heap.size:=hg.size;have hg8:=(ho.blk_lt g8 rfl);have hz:=hsg.lt;have hmbW:W.heap.size<=mb:=by rcases hw with e | e<;>omega
 have hyl:∀y∈Z,y.2.q<W.heap.size/\y.2.m<W.heap.size:=fun y hy=>(h0.lb.sg y hy).lt
 have m8:Mods (fun k=>SA.map (·.block)=some k) w w8:=Mods.of_grown hg (fun k e=>e);obtain⟨cs,hmk⟩:∃cs,Blk w mb 3 cs:=by
  rcases hmr.cells with e | ⟨g',cs,e,hb⟩
  ·cases e
  ·injection e with e;injection e with e _ _;subst e;exact⟨cs,hb⟩
 have hA:=hx.addSeg (F':=fun b=>F b\/b=mb\/b=z.q\/b=z.m\/b=g8) (Nat.le_trans hB hWs) hsg hg ho hat hn (fun b hb=>.inl hb)
  (fun b hb=>by
   rcases hb with hb | rfl | rfl | rfl | rfl
   ·exact hx.lb.dis b hb
   ·exact hns
   ·exact hzs.1
   ·exact hzs.2
   ·rcases hat with e | e
    ·exact hx.lb.dis _ (hx.lb.fs _ e)
    ·intro hs;have:=hx.lb.di.bnd _ hs;omega)
  (fun b hb=>by
   rcases hb with hb | rfl | rfl | rfl | rfl
   ·have:=hx.lb.bnd b hb;exact⟨this.1,by omega⟩
   ·exact⟨hmb.1,by omega⟩
   ·exact⟨by omega,by omega⟩
   ·exact⟨by omega,by omega⟩
   ·exact hg8)
  (.inr (.inr (.inr (.inr rfl)))) ⟨.inr (.inr (.inl rfl)),.inr (.inr (.inr (.inl rfl)))⟩ (fun y hy e=>by have:=(hyl y hy).1;omega) (fun y hy e=>by have:=(hyl y hy).2;omega)
 have hl:l.segs=Z.map Prod.fst:=hx.zs.symm;have hpn:¬SA.map (·.block)=some p:=fun e=>hx.lb.sv.ne_blk hx.blk (by decide) e
 have mp:Mods (·=p) w8 (w8.setCell ⟨p,2,none⟩ (.slice (some ⟨g8,0,none⟩) n c8)):=(Mods.refl (·=p) w8).setCell ⟨p,_,none⟩ (.inl rfl) _;refine⟨?_,?_,fun b hb=>?_,.inr (.inl rfl),fun y hy e=>by have:=(hyl y hy).2;omega,?_,?_⟩
 ·rw[hl] at hA;exact hA
 ·rw[hf,hl];simp
 ·rcases hb with hb | rfl | rfl | rfl | rfl
  ·exact .inl hb
  ·exact .inr hmbW
  ·exact .inr hq.1
  ·exact .inr hq.2
  ·rcases hat with e | e
   ·exact .inl (hx.lb.fs _ e)
   ·exact .inr (by omega)
 ·exact(hm.trans m8 (fun i hi=>.inl (.inr (hx.lb.fs _ hi)))).trans mp (fun i hi=>.inl (.inr (by rw[hi];exact hx.fp)))
 ·have hnm:¬SA.map (·.block)=some mb:=fun e=>hx.lb.sv.ne_blk hmk (by decide) e
  have h8:=hmr.mods m8 (fun k hk e=>hnm (by
   have e2:mb=k:=(by simpa using hk);rw[e2];exact e))
  have hmk8:=hmk.mods m8 (fun e=>hx.lb.sv.ne_blk hmk (by decide) e);exact h8.mods mp (fun k hk e=>by
   have e2:mb=k:=(by simpa using hk);subst e2;exact hmk8.ne (hx.blk.mods m8 hpn) (by decide) e)
theorem LX.addClone{p g8 c8 n n0 c':Nat}{w8:World}{A':Option Addr}{r:List UInt8}(h:LX B S F w p g l D Z Y SA sc RA rc)(hob:OB w n0 A' c' r)(hB:B<=n0)(hn0:n0<=w.heap.size)(hS0:∀b,S b->b<n0)
  (hg:w.grownBy w8 (RA.map (·.block))) (ho:OV w8 B TB (some ⟨g8,0,none⟩) c8 (Y.map recV++[recV (r,A',c')])) (hat:RA.map (·.block)=some g8\/g8=w.heap.size) (hn:n=l.recs.length+1) :
  LX B S (fun b=>F b\/(n0<=b/\b<w8.heap.size)) (w8.setCell ⟨p,3,none⟩ (.slice (some ⟨g8,0,none⟩) n c8)) p g { l with recs:=l.recs++[r] } D Z (Y++[(r,A',c')]) SA sc (some ⟨g8,0,none⟩) c8:=by
 have hw8:w.heap.size<=w8.heap.size:=hg.size;have hg8:=ho.blk_lt g8 rfl;have m8:Mods (fun k=>RA.map (·.block)=some k) w w8:=Mods.of_grown hg (fun k e=>e);have hne:∀k,A'.map (·.block)=some k->¬RA.map (·.block)=some k:=fun k hk e=>by
  obtain⟨cs,hb⟩:=hob.blk k hk;exact h.lb.rv.ne_blk hb (by decide) e
 refine h.addRec (y:=(r,A',c')) ((hob.mods m8 hne).rb) hg ho hn (fun b hb=>.inl hb) (fun b hb=>?_) (fun b hb=>?_) ?_ (fun h0 b hb=>?_)
 ·rcases hb with hb | hb
  ·exact h.lb.dis b hb
  ·intro hs;have:=hS0 b hs;omega
 ·rcases hb with hb | hb
  ·have:=h.lb.bnd b hb;exact⟨this.1,by omega⟩
  ·exact⟨by omega,hb.2⟩
 ·rcases hat with e | e
  ·exact .inl (h.lb.fr _ e)
  ·exact .inr ⟨by omega,hg8.2⟩
 ·obtain⟨cs,hb'⟩:=hob.blk b hb;have h1:=hob.blk_in b hb;have hb2:Blk w b 5 cs:=hb';exact⟨.inr ⟨h1.1,by omega⟩,cs,hb2.mods m8 (hne b hb)⟩
end
end Go.Proofs.YtobdmlejabjmiaaGreatDoor
