/- Made small by a program. -/
import Derived.Test.YtobdmlejabjmiaaGreatDoorZc29
set_option maxRecDepth 20000
set_option maxHeartbeats 8000000
namespace Go.Proofs.YtobdmlejabjmiaaGreatDoor
open Go.Lib
theorem zd8(p d f q:List UInt8)(hf:f=four4 d.length++four4 (crc (four4 d.length++d))++d)(hd:d.length<=65536):unfrAt (p++(f++q)) (p.length:Int)=(d,(p.length:Int)+8+(d.length:Int),0):=by
 have hfl:f.length=8+d.length:=by rw[hf];simp[four4];omega
 have hcl:crc (four4 d.length++d)<4294967296:=by unfold crc;omega
 have e0:(p++(f++q)).drop p.length=f++q:=List.drop_left' rfl;have e4:(p++(f++q)).drop (p.length+4)=four4 (crc (four4 d.length++d))++(d++q):=by
  rw[<-List.drop_drop,e0,hf,List.append_assoc,List.append_assoc];exact List.drop_left' rfl
 have e8:(p++(f++q)).drop (p.length+8)=d++q:=by
  rw[<-List.drop_drop,e0,hf,List.append_assoc (four4 d.length++_)];exact List.drop_left' (by simp[four4])
 have t4:(f++q).take 4=four4 d.length:=by rw[hf,List.append_assoc,List.append_assoc];exact List.take_left' rfl
 have hn:unB (four4 d.length)=d.length:=zbk (by omega);have td:(d++q).take d.length=d:=List.take_left' rfl;rw[unfrAt,if_pos (by simp;omega),if_neg (by simp;omega),Int.toNat_natCast,e0,e4,e8,t4,hn,if_neg (by omega),if_neg (by simp;omega),if_pos]
 ·rw[td]
 ·rw[td,List.take_left' (show(four4 (crc (four4 d.length++d))).length=4 from rfl),zbk hcl]
theorem ze5(p q r:List UInt8)(n:Nat)(hn:n<18446744073709551616)(hr:r.length<=65520):recAt (p++(recB n r++q)) p.length n=some (r,p.length+(recB n r).length):=by
 have hl:=jJ n;have hpl:(putNum n).length<=9:=by
  unfold putNum;simp only[List.length_cons,List.length_reverse];omega
 have hd:(putNum n++r).length<=65536:=by rw[List.length_append];omega
 have hu:=zd8 p (putNum n++r) (recB n r) q rfl hd;have hnum:=qz [] r n hn;rw[List.nil_append] at hnum;have hnum0:numAt (putNum n++r) 0=((n:Int),((putNum n).length:Int),0):=by simpa using hnum
 unfold recAt;rw[hu];simp only[hnum0];rw[if_pos ⟨trivial,trivial,trivial⟩];have hrl:(recB n r).length=8+(putNum n++r).length:=by unfold recB;exact jH _
 rw[hrl];congr 1;refine Prod.ext ?_ ?_
 ·simp
 ·show((p.length:Int)+8+((putNum n++r).length:Int)).toNat=_;omega
theorem recB_pos(n:Nat)(r:List UInt8):0<(recB n r).length:=by unfold recB;rw[jH];omega
theorem zaD:∀(L:List (List UInt8)) (n k:Nat) (p:List UInt8),(∀r∈L,r.length<=65520)->n+L.length<18446744073709551616->(recsB n L).length<=k->scanR (p++recsB n L) k p.length n=(L,marksB p.length n L)
 | [],n,k,p,_,_,_=>by
  cases k with
  | zero=>rfl
  | succ k=>simp[scanR,recsB,marksB]
 | r::t,n,k,p,h,hn,hk=>by
  have hr:=recB_pos n r;rw[recsB,List.length_append] at hk;obtain⟨k,rfl⟩:∃j,k=j+1:=⟨k - 1,by omega⟩;simp only[List.length_cons] at hn;have h1:=ze5 p (recsB (n+1) t) r n (by omega) (h r (List.mem_cons_self ..));have h2:=zaD t (n+1) k (p++recB n r) (fun x hx=>h x (List.mem_cons_of_mem _ hx)) (by omega) (by omega);rw[List.append_assoc,List.length_append] at h2;rw[recsB,scanR,if_pos (by simp only[List.length_append];omega),h1];simp only[h2,marksB]
theorem zdY(L:List (List UInt8))(n:Nat)(h:∀r∈L,r.length<=65520)(hn:n+L.length<18446744073709551616):scanF (recsB n L) n=(L,marksB 0 n L):=by
 have:=zaD L n (recsB n L).length [] h hn (Nat.le_refl _);simpa [scanF] using this
theorem qt:∀(L:List (List UInt8)) (i n:Nat),(i::marksB i n L).getLastD 0=i+(recsB n L).length
 | [],i,n=>by simp[marksB,recsB]
 | r::t,i,n=>by
  have h:=qt t (i+(recB n r).length) (n+1);rw[marksB,recsB,List.length_append];simp only[List.getLastD_cons] at h ⊢;rw[h];omega
theorem zfg{b:List UInt8}{n j k m:Nat}(h:scanR b k m (n+j)=((scanF b n).1.drop j,(scanF b n).2.drop j))(hk:b.length<=m+k)(hm:m<b.length){r:List UInt8}{nx:Nat}(hr:recAt b m (n+j)=some (r,nx)) :
  (scanF b n).1[j]?=some r/\(scanF b n).2[j]?=some nx/\∃k',scanR b k' nx (n+(j+1))=((scanF b n).1.drop (j+1),(scanF b n).2.drop (j+1))/\b.length<=nx+k':=by
 obtain⟨k',rfl⟩:∃i,k=i+1:=⟨k - 1,by omega⟩;rw[scanR,if_pos hm,hr] at h;injection h with h1 h2
 have e1:(scanF b n).1[j]?=some r:=by
  have:((scanF b n).1.drop j)[0]?=some r:=by rw[<-h1];rfl
  simpa using this
 have e2:(scanF b n).2[j]?=some nx:=by
  have:((scanF b n).2.drop j)[0]?=some nx:=by rw[<-h2];rfl
  simpa using this
 refine⟨e1,e2,k',?_,by have:=(zdg hr).1;omega⟩;refine Prod.ext ?_ ?_
 ·show(scanR b k' nx (n+(j+1))).1=(scanF b n).1.drop (j+1);rw[<-List.drop_drop,<-h1];rfl
 ·show(scanR b k' nx (n+(j+1))).2=(scanF b n).2.drop (j+1);rw[<-List.drop_drop,<-h2];rfl
theorem zdn{b:List UInt8}{n j k m:Nat}(h:scanR b k m (n+j)=((scanF b n).1.drop j,(scanF b n).2.drop j))(he:¬m<b.length\/recAt b m (n+j)=none):(scanF b n).1.drop j=[]/\(scanF b n).2.drop j=[]:=by
 have e:scanR b k m (n+j)=([],[]):=by
  cases k with
  | zero=>rfl
  | succ k =>
   rw[scanR]
   rcases he with he | he
   ·rw[if_neg he]
   ·split
    ·rw[he]
    ·rfl
 rw[e] at h;injection h with h1 h2
 exact⟨h1.symm,h2.symm⟩
/-! ### One segment,opened anew -/
theorem zR:walName 0 1=[119,46,48,46,49]:=by
 have h0:Go.Lib.decDigits 0=[48]:=by rw[Go.Lib.decDigits];simp
 have h1:Go.Lib.decDigits 1=[49]:=by rw[Go.Lib.decDigits];simp
 unfold walName;rw[h0,h1];rfl
theorem zdO:partsN (walName 0 1)=some (0,1):=by
 rw[zR];have h:parts 46 [119,46,48,46,49]=[[119],[48],[49]]:=by simp[parts]
 have h0:Go.Lib.parseUintB 64 [48]=.ok 0:=by decide
 have h1:Go.Lib.parseUintB 64 [49]=.ok 1:=by decide
 unfold partsN;rw[h];simp[h0,h1]
def dskB(r:Int)(b:List UInt8):DSt:=⟨[(walName 0 1,b)],[],r,0,false⟩
def lgB(x:List (List UInt8)):Lg:=⟨0,[⟨walName 0 1,1,0::marksB 0 1 x⟩],x,1,false⟩
theorem zdM:nameOk (walName 0 1)=true:=by rw[zR];decide
theorem syncD_B(r:Int)(b:List UInt8):syncD (dskB r b)=(0,dskB r b):=rfl
theorem zei(r:Int)(x:List (List UInt8))(h:∀y∈x,y.length<=65520)(hr:((recsB 1 x).length:Int)<=r)(_hr2:r<=4194304) :
  ∃D1,appendW ⟨0,[⟨walName 0 1,1,[0]⟩],[],1,false⟩ (dskB r []) x=(0,lgB x,D1)/\D1.cnt<=2/\syncW (lgB x) D1=(0,lgB x,dskB r (recsB 1 x)):=by
 by_cases hx:x=[]
 ·subst hx;refine⟨dskB r [],?_,by show(1:Nat)<=2;omega,?_⟩
  ·unfold appendW;rw[if_neg (by simp),if_neg (by simp),if_pos rfl];rfl
  ·unfold syncW;rw[if_neg (by simp[lgB]),syncD_B];rfl
 ·refine⟨⟨[(walName 0 1,[])],[⟨1,walName 0 1,0,recsB 1 x⟩],r,0,false⟩,?_,by show(2:Nat)<=2;omega,?_⟩
  ·have hto:Lg.to ⟨0,[⟨walName 0 1,1,[0]⟩],[],1,false⟩=⟨walName 0 1,1,[0]⟩:=rfl;have hp:putW (dskB r []) (walName 0 1) 0 (recsB 1 x)=(0,⟨[(walName 0 1,[])],[⟨1,walName 0 1,0,recsB 1 x⟩],r,0,false⟩):=by
    have hrf:refuseD (dskB r []) ⟨1,walName 0 1,0,recsB 1 x⟩ ((0:Nat):Int)=0:=by
     unfold refuseD;simp[dskB,DSt.files,zdM,fget,afterN,fsize];omega
    unfold putW changeD;rw[if_neg (by rw[hrf];simp)];simp[burnD,dskB]
   have hany:¬(x.any fun r=>decide (65520<r.length))=true:=by
    rw[List.any_eq_true];rintro⟨y,hy,h2⟩;have:=h y hy;simp at h2;omega
   unfold appendW;rw[if_neg (by simp),if_neg hany,if_neg hx,hto];have hp2:putW (dskB r []) (Sg.mk (walName 0 1) 1 [0]).name (Sg.mk (walName 0 1) 1 [0]).stop (recsB (Lg.mk 0 [⟨walName 0 1,1,[0]⟩] [] 1 false).next x)=(0,⟨[(walName 0 1,[])],[⟨1,walName 0 1,0,recsB 1 x⟩],r,0,false⟩):=hp;rw[hp2,if_neg (by simp)]
   rfl
  ·unfold syncW;rw[if_neg (by simp[lgB])];have:putD [] 0 (recsB 1 x)=recsB 1 x:=(by simp[putD,resizeD]);simp[syncD,burnD,DSt.files,doF,fset,fget,this,dskB,Lg.fell,lgB]
end Go.Proofs.YtobdmlejabjmiaaGreatDoor
namespace Go.Proofs.YtobdmlejabjmiaaGreatDoor
open Go.RowKit
theorem yu:walName 0 1=[119,46,48,46,49]:=by
 have h0:Lib.decDigits 0=[48]:=by rw[Lib.decDigits];simp
 have h1:Lib.decDigits 1=[49]:=by rw[Lib.decDigits];simp
 unfold walName;rw[h0,h1];rfl
theorem zbH(r:Int)(_h0:0<=r):openW (dsk0 r)=(0,⟨0,[⟨walName 0 1,1,[0]⟩],[],1,false⟩,⟨[(walName 0 1,[])],[],r,0,false⟩):=by
 rw[qA rfl rfl];have hn:nameOk (walName 0 1)=true:=by rw[yu];decide
 have hp:putW (dsk0 r) (walName 0 1) 0 []=(0,⟨[],[⟨1,walName 0 1,0,[]⟩],r,0,false⟩):=by
  unfold putW changeD;have hr:refuseD (dsk0 r) ⟨1,walName 0 1,0,[]⟩ ((0:Nat):Int)=0:=by
   unfold refuseD;simp[dsk0,DSt.files,hn,fget,afterN]
  rw[if_neg (by rw[hr];simp)];simp[burnD,dsk0]
 unfold loadF;rw[if_pos rfl,hp];simp[syncD,burnD,DSt.files,doF,fset,fget,putD,resizeD]
section
variable {w:World}
end
def lg1:Lg:=⟨0,[⟨walName 0 1,1,[0]⟩],[],1,false⟩
def dsk1(r:Int):DSt:=⟨[(walName 0 1,[])],[],r,0,false⟩
section
variable {B g:Nat} {S F:Nat->Prop} {w w':World}
theorem zef(r:Int)(h0:0<=r)(h:DI S w g (dsk0 r))(hB:B<=w.heap.size)(hS:∀b,S b->B<=b)(hE:SEnv B w) :
  Calls Tryz.prog 27 #[.pointer (some ⟨g,0,none⟩)] w fun e w'=>∃(p:Nat) (S' F':Nat->Prop),e=.returned (.tuple #[.pointer (some ⟨p,0,none⟩),.int .i64 0])/\LR B S' F' w' p g lg1 (dsk1 r)/\(∀b,S' b->S b\/w.heap.size<=b)/\(∀b,F' b->w.heap.size<=b)/\Mods S w w':=by
 have h1:=zdt (B:=B) h rfl rfl hB hS hE (by show(0:Nat)<=1000;omega);rw[zbH r h0] at h1;refine h1.mono ?_;rintro e w' ⟨p,S',F',rfl,hl,k1,k2,k3⟩;exact⟨p,S',F',rfl,hl,k1,k2,k3⟩
end
abbrev TF:TypeId:=124
def fdRow(f:Fd):List Value:=[.string ⟨f.name.toArray⟩,.int .u64 (f.era:Int),.int .u64 (f.first:Int)]
theorem zdI:(Tryz.prog.info? TF).map (·.size)=some 3:=by kernel_rfl
section
variable {B p g sc rc:Nat} {S F:Nat->Prop} {w w':World} {l:Lg} {D:DSt} {Z:List (Sg × Pl)} {Y:List (List UInt8 × Option Addr × Nat)} {SA RA:Option Addr} {s:Sg} {z:Pl}
theorem LX.addRead{g8 c8 n n0 c':Nat}{w8:World}{A':Option Addr}{r:List UInt8}(h:LX B S F w p g l D Z Y SA sc RA rc)(hrb:RB w A' r)(hrk:0<r.length->∀b,A'.map (·.block)=some b->n0<=b/\∃cs,Blk w b 5 cs)(hB:B<=n0)(hn0:n0<=w.heap.size)(hS0:∀b,S b->b<n0)
  (hg:w.grownBy w8 (RA.map (·.block))) (ho:OV w8 B TB (some ⟨g8,0,none⟩) c8 (Y.map recV++[recV (r,A',c')])) (hat:RA.map (·.block)=some g8\/g8=w.heap.size) (hn:n=l.recs.length+1) :
  LX B S (fun b=>F b\/(n0<=b/\b<w8.heap.size)) (w8.setCell ⟨p,3,none⟩ (.slice (some ⟨g8,0,none⟩) n c8)) p g { l with recs:=l.recs++[r] } D Z (Y++[(r,A',c')]) SA sc (some ⟨g8,0,none⟩) c8:=by
 have hw8:w.heap.size<=w8.heap.size:=hg.size;have hg8:=ho.blk_lt g8 rfl;have m8:Mods (fun k=>RA.map (·.block)=some k) w w8:=Mods.of_grown hg (fun k e=>e);have hne:0<r.length->∀k,A'.map (·.block)=some k->¬RA.map (·.block)=some k:=fun h0 k hk e=>by
  obtain⟨_,cs,hb⟩:=hrk h0 k hk;exact h.lb.rv.ne_blk hb (by decide) e
 refine h.addRec (y:=(r,A',c')) (hrb.mods m8 hne) hg ho hn (fun b hb=>.inl hb) (fun b hb=>?_) (fun b hb=>?_) ?_ (fun h0 b hb=>?_)
 ·rcases hb with hb | hb
  ·exact h.lb.dis b hb
  ·intro hs;have:=hS0 b hs;omega
 ·rcases hb with hb | hb
  ·have:=h.lb.bnd b hb;exact⟨this.1,by omega⟩
  ·exact⟨by omega,hb.2⟩
 ·rcases hat with e | e
  ·exact .inl (h.lb.fr _ e)
  ·exact .inr ⟨by omega,hg8.2⟩
 ·obtain⟨h1,cs,hb'⟩:=hrk h0 b hb;have hlt:=hb'.lt;exact⟨.inr ⟨h1,by omega⟩,cs,hb'.mods m8 (hne h0 b hb)⟩
theorem LX.addMark{g8 c8 n v:Nat}{w8:World}{Z1:List (Sg × Pl)}(h:LX B S F w p g l D (Z1++[(s,z)]) Y SA sc RA rc)(hl:l.segs=Z1.map Prod.fst++[s])
  (hg:w.grownBy w8 (some z.m)) (hk:OV w8 B 3 (some ⟨g8,0,none⟩) c8 (s.marks.map encMark++[encMark v])) (ho:OV w8 B 3 (some ⟨z.m,0,none⟩) z.c (s.marks.map encMark)) (hat:some z.m=some g8\/g8=w.heap.size) (hn:n=s.marks.length+1) (_hB:B<=w.heap.size) :
  LX B S (fun b=>F b\/b=g8) (w8.setCell ⟨z.q,2,none⟩ (.slice (some ⟨g8,0,none⟩) n c8)) p g { l with segs:=Z1.map Prod.fst++[{ s with marks:=s.marks++[v] }] } D (Z1++[({ s with marks:=s.marks++[v] },⟨z.q,g8,c8⟩)]) Y SA sc RA rc:=by
 have hz:=h.lb.sg (s,z) (by simp);have hfz:=h.lb.fq (s,z) (by simp);obtain⟨cs,hmb⟩:=hz.mblk;have m8:Mods (·=z.m) w w8:=Mods.of_grown hg (fun k e=>by injection e with e;exact e.symm);have hsz:w.heap.size<=w8.heap.size:=hg.size;have hg8:=hk.blk_lt g8 rfl;have hmn:=h.lb.mn;rw[List.map_append,List.nodup_append] at hmn;have hne:∀y∈Z1,y.2.m≠z.m:=fun y hy=>hmn.2.2 _ (List.mem_map.2 ⟨y,hy,rfl⟩) _ (by simp)
 have h8:LX B S F w8 p g l D (Z1++[(s,z)]) Y SA sc RA rc:=by
  refine⟨h.blk.mods m8 (h.blk.ne hmb (by decide)),h.fp,h.zs,h.ys,h.lb.keepMarks hmb (h.lb.dis _ hfz.2) m8 fun z' hz' e=>?_⟩
  rcases List.mem_append.1 hz' with hz' | hz'
  ·exact absurd e (hne z' hz')
  ·rw[List.mem_singleton.1 hz'];exact ho
 have h9:LX B S (fun b=>F b\/b=g8) w8 p g l D (Z1++[(s,z)]) Y SA sc RA rc:=by
  refine⟨h8.blk,.inl h8.fp,h8.zs,h8.ys,h8.lb.wide (fun b hb=>.inl hb) (fun b hb=>?_) (fun b hb=>?_)⟩
  ·rcases hb with hb | rfl
   ·exact h8.lb.dis b hb
   ·rcases hat with e | e
    ·injection e with e;rw[<-e];exact h.lb.dis _ hfz.2
    ·intro hs;have:=h.lb.di.bnd _ hs;omega
  ·rcases hb with hb | rfl
   ·exact h8.lb.bnd b hb
   ·exact hg8
 subst hn;have:=h9.setMarks (s':={ s with marks:=s.marks++[v] }) (mb:=g8) (mc:=c8) hl ⟨rfl,rfl⟩ (by simp) (by simpa using hk) (.inr rfl) (fun y hy e=>by
  rcases hat with e2 | e2
  ·injection e2 with e2;exact hne y hy (by rw[e,e2])
  ·have:=(h.lb.sg y (List.mem_append_left _ hy)).lt.2;omega)
 simpa using this
structure ScanO(B:Nat)(S F F':Nat->Prop)(w:World)(p g:Nat)(l:Lg)(D:DSt)(Z:List (Sg × Pl))(Y:List (List UInt8 × Option Addr × Nat))(SA:Option Addr)(sc:Nat)(RA:Option Addr)(rc:Nat)(b:List UInt8)(DA:Option Addr)(dc:Nat)(wr:World):Prop where
 lx:LX B S F' wr p g l D Z Y SA sc RA rc
 data:OB wr w.heap.size DA dc b
 mods:Mods (fun x=>S x\/F x) w wr
 ff:∀x,F' x->F x\/w.heap.size<=x
section
variable {b:List UInt8} {DA:Option Addr} {dc:Nat} {wr wa:World} {F':Nat->Prop}
theorem ScanO.below(h:ScanO B S F F' w p g l D Z Y SA sc RA rc b DA dc wr)(hb:Below wr.heap.size wr wa):ScanO B S F F' w p g l D Z Y SA sc RA rc b DA dc wa :=
 ⟨h.lx.below hb,h.data.below hb,h.mods.below hb,h.ff⟩
theorem ScanO.addRead{g8 c8 n n0 c':Nat}{w8:World}{A':Option Addr}{r:List UInt8}(h:ScanO B S F F' w p g l D Z Y SA sc RA rc b DA dc wr)(hrb:RB wr A' r)(hrk:0<r.length->∀b,A'.map (·.block)=some b->n0<=b/\∃cs,Blk wr b 5 cs)(hB:B<=w.heap.size)(hn1:w.heap.size<=n0)(hn0:n0<=wr.heap.size)(hS0:∀b,S b->b<n0)
  (hg:wr.grownBy w8 (RA.map (·.block))) (ho:OV w8 B TB (some ⟨g8,0,none⟩) c8 (Y.map recV++[recV (r,A',c')])) (hat:RA.map (·.block)=some g8\/g8=wr.heap.size) (hn:n=l.recs.length+1) :
  ScanO B S F (fun b=>F' b\/(n0<=b/\b<w8.heap.size)) w p g { l with recs:=l.recs++[r] } D Z (Y++[(r,A',c')]) SA sc (some ⟨g8,0,none⟩) c8 b DA dc (w8.setCell ⟨p,3,none⟩ (.slice (some ⟨g8,0,none⟩) n c8)):=by
 have m8:Mods (fun k=>RA.map (·.block)=some k) wr w8:=Mods.of_grown hg (fun k e=>e);have hp8:=h.lx.blk.mods m8 (h.lx.lb.rv.ne_blk h.lx.blk (by decide));have mp:Mods (·=p) w8 (w8.setCell ⟨p,3,none⟩ (.slice (some ⟨g8,0,none⟩) n c8)):=(Mods.refl (·=p) w8).setCell ⟨p,_,none⟩ (.inl rfl) _;have d8:OB w8 w.heap.size DA dc b:=h.data.mods m8 (fun k hk e=>by
  obtain⟨cs,hb⟩:=h.data.blk k hk;exact h.lx.lb.rv.ne_blk hb (by decide) e)
 refine⟨h.lx.addRead hrb hrk (Nat.le_trans hB hn1) hn0 hS0 hg ho hat hn,d8.mods mp (fun k hk e=>d8.ne_blk hp8 (by decide) (by rw[hk,e])),?_,fun x hx=>hx.elim (h.ff x) (fun hx=>.inr (by omega))⟩;refine(h.mods.trans m8 (fun i hi=>?_)).trans mp (fun i hi=>?_)
 ·rcases h.ff i (h.lx.lb.fr i hi) with h1 | h1
  ·exact .inl (.inr h1)
  ·exact .inr h1
 ·rcases h.ff p h.lx.fp with h1 | h1
  ·exact .inl (.inr (by rw[hi];exact h1))
  ·exact .inr (by rw[hi];exact h1)
theorem ScanO.addMark{g8 c8 n v:Nat}{w8:World}{Z1:List (Sg × Pl)}(h:ScanO B S F F' w p g l D (Z1++[(s,z)]) Y SA sc RA rc b DA dc wr)(hl:l.segs=Z1.map Prod.fst++[s])
  (hg:wr.grownBy w8 (some z.m)) (hk:OV w8 B 3 (some ⟨g8,0,none⟩) c8 (s.marks.map encMark++[encMark v])) (ho:OV w8 B 3 (some ⟨z.m,0,none⟩) z.c (s.marks.map encMark)) (hat:some z.m=some g8\/g8=wr.heap.size) (hn:n=s.marks.length+1) (hB:B<=w.heap.size) :
  ScanO B S F (fun b=>F' b\/b=g8) w p g { l with segs:=Z1.map Prod.fst++[{ s with marks:=s.marks++[v] }] } D (Z1++[({ s with marks:=s.marks++[v] },⟨z.q,g8,c8⟩)]) Y SA sc RA rc b DA dc (w8.setCell ⟨z.q,2,none⟩ (.slice (some ⟨g8,0,none⟩) n c8)):=by
 have hz:=h.lx.lb.sg (s,z) (by simp);have hfz:=h.lx.lb.fq (s,z) (by simp);obtain⟨cs,hmb⟩:=hz.mblk;have m8:Mods (·=z.m) wr w8:=Mods.of_grown hg (fun k e=>by injection e with e;exact e.symm);have hq8:=hz.blk.mods m8 (hz.blk.ne hmb (by decide));have mq:Mods (·=z.q) w8 (w8.setCell ⟨z.q,2,none⟩ (.slice (some ⟨g8,0,none⟩) n c8)):=(Mods.refl (·=z.q) w8).setCell ⟨z.q,_,none⟩ (.inl rfl) _;have d8:OB w8 w.heap.size DA dc b:=h.data.mods m8 (fun k hk e=>h.data.ne_blk hmb (by decide) (by rw[hk,e]));have hs:w.heap.size<=wr.heap.size:=h.mods.size;refine⟨h.lx.addMark hl hg hk ho hat hn (Nat.le_trans hB hs),d8.mods mq (fun k hk e=>d8.ne_blk hq8 (by decide) (by rw[hk,e])),?_,fun x hx=>hx.elim (h.ff x) (fun hx=>?_)⟩
 ·refine(h.mods.trans m8 (fun i hi=>?_)).trans mq (fun i hi=>?_)
  ·rcases h.ff _ hfz.2 with h1 | h1
   ·exact .inl (.inr (by rw[hi];exact h1))
   ·exact .inr (by rw[hi];exact h1)
  ·rcases h.ff _ hfz.1 with h1 | h1
   ·exact .inl (.inr (by rw[hi];exact h1))
   ·exact .inr (by rw[hi];exact h1)
 ·rcases hat with e | e
  ·injection e with e;rw[hx,<-e];exact h.ff _ hfz.2
  ·right;rw[hx,e];exact hs
end
end
theorem zdH:(Tryz.prog.info? TF).map (fun i=>(i.zero,i.size,i.bytes))=some (some (.agg #[.string ⟨#[]⟩,.int .u64 0,.int .u64 0]),3,32):=by kernel_rfl
section
variable {B g:Nat} {S:Nat->Prop} {w w':World} {D:DSt}
end
end Go.Proofs.YtobdmlejabjmiaaGreatDoor
namespace Go.Proofs.YtobdmlejabjmiaaGreatDoor
open Go.Lib
end Go.Proofs.YtobdmlejabjmiaaGreatDoor
namespace Go.Proofs.YtobdmlejabjmiaaGreatDoor
open Go.RowKit
structure RowsB(w:World)(B:Nat)(A:Option Addr)(c:Nat)(Y:List (List UInt8 × Option Addr × Nat)):Prop where
 rv:OV w B TB A c (Y.map recV)
 rc:∀y∈Y,OB w B y.2.1 y.2.2 y.1
section
variable {B c:Nat} {T:Nat->Prop} {w w':World} {A:Option Addr} {Y:List (List UInt8 × Option Addr × Nat)}
theorem RowsB.below(h:RowsB w B A c Y)(hb:Below w.heap.size w w'):RowsB w' B A c Y:=⟨h.rv.below hb,fun y hy=>(h.rc y hy).below hb⟩
theorem RowsB.add{A':Option Addr}{c':Nat}{y:List UInt8 × Option Addr × Nat}(h:RowsB w B A c Y)(ho:OB w B y.2.1 y.2.2 y.1)(hg:w.grownBy w' (A.map (·.block)))(hr:OV w' B TB A' c' (Y.map recV++[recV y])):RowsB w' B A' c' (Y++[y]):=by
 have m:Mods (fun k=>A.map (·.block)=some k) w w':=Mods.of_grown hg (fun k e=>e);have ne:∀(x:List UInt8 × Option Addr × Nat),OB w B x.2.1 x.2.2 x.1->OB w' B x.2.1 x.2.2 x.1:=fun x hx=>hx.mods m (fun k hk e=>by
  obtain⟨cs,hb⟩:=hx.blk k hk;exact h.rv.ne_blk hb (by decide) e)
 refine⟨by rw[List.map_append];exact hr,fun x hx=>?_⟩
 rcases List.mem_append.1 hx with hx | hx
 ·exact ne x (h.rc x hx)
 ·rw[List.mem_singleton.1 hx];exact ne y ho
theorem RowsB.rl(h:RowsB w B A c Y)(hT:∀b,T b->b<B)(hl:∀y∈Y,y.1.length<=140737488355328):RL T w A (Y.map fun y=>(y.2.1,y.2.2,y.1)):=by
 refine⟨⟨?_,fun t ht=>?_⟩,fun _ b hb ht=>?_,fun t ht _ b hb h2=>?_⟩
 ·rw[List.map_map];exact h.rv.rv
 ·obtain⟨y,hy,rfl⟩:=List.mem_map.1 ht;exact⟨(h.rc y hy).rb,hl y hy⟩
 ·have:=(h.rv.blk_lt b hb).1;have:=hT b ht;omega
 ·obtain⟨y,hy,rfl⟩:=List.mem_map.1 ht;have:=((h.rc y hy).blk_in b hb).1;have:=hT b h2;omega
theorem tb_info2:(Tryz.prog.info? 34).map (fun i=>(i.zero,i.size,i.bytes))=some (some (.slice none 0 0),1,24):=by kernel_rfl
end
section
variable {B p g sc rc mb:Nat} {S F:Nat->Prop} {w w':World} {l:Lg} {D:DSt} {Z:List (Sg × Pl)} {Y:List (List UInt8 × Option Addr × Nat)} {SA RA:Option Addr}
end
section
variable {B c:Nat} {T T0 U:Nat->Prop} {w w':World} {A X:Option Addr} {L:List (Option Addr × Nat × List UInt8)}
end
end Go.Proofs.YtobdmlejabjmiaaGreatDoor
