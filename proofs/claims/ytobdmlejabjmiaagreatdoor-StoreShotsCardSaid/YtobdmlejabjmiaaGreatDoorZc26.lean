/- Made small by a program. -/
import Derived.Test.YtobdmlejabjmiaaGreatDoorZc20
set_option maxRecDepth 20000
set_option maxHeartbeats 8000000
namespace Go.Proofs.YtobdmlejabjmiaaGreatDoor
open Go.Lib
structure Sg where
 name:Nm
 first:Nat
 marks:List Nat
def Sg.stop(s:Sg):Nat:=s.marks.getLastD 0
def Sg.next(s:Sg):Nat:=s.first+(s.marks.length - 1)
structure Lg where
 era:Nat
 segs:List Sg
 recs:List (List UInt8)
 first:Nat
 down:Bool
def Lg.next(l:Lg):Nat:=l.first+l.recs.length
def walName(era first:Nat):Nm:=[119,46]++decDigits era++[46]++decDigits first
def partsN(n:Nm):Option (Nat × Nat) :=
 match parts 46 n with
 | [a,b,c]=>if a=[119] then(match parseUintB 64 b,parseUintB 64 c with | .ok x,.ok y=>some (x,y) | _,_=>none) else none
 | _=>none
structure Fd where
 name:Nm
 era:Nat
 first:Nat
def foundL(l:List Nm):List Fd:=l.filterMap fun n=>(partsN n).map fun p=>⟨n,p.1,p.2⟩
def eraL(l:List Fd):Nat:=l.foldl (fun m f=>max m f.era) 0
def insF(f:Fd):List Fd->List Fd
 | []=>[f]
 | g::r=>if f.first<g.first then f::g::r else g::insF f r
def sortF(l:List Fd):List Fd:=l.foldl (fun acc f=>insF f acc) []
def recAt(b:List UInt8)(i want:Nat):Option (List UInt8 × Nat) :=
 if (unfrAt b (i:Int)).2.2=0/\(numAt (unfrAt b (i:Int)).1 0).2.2=0/\(numAt (unfrAt b (i:Int)).1 0).1=(want:Int) then
  some ((unfrAt b (i:Int)).1.drop (numAt (unfrAt b (i:Int)).1 0).2.1.toNat,(unfrAt b (i:Int)).2.1.toNat) else none
def scanR(b:List UInt8):Nat->Nat->Nat->List (List UInt8) × List Nat
 | 0,_,_=>([],[])
 | k+1,i,want =>
  if i<b.length then
   match recAt b i want with
   | none=>([],[])
   | some (r,n)=>(r::(scanR b k n (want+1)).1,n::(scanR b k n (want+1)).2)
  else([],[])
def scanF(b:List UInt8)(f:Nat):List (List UInt8) × List Nat:=scanR b b.length 0 f
def cutS(D:DSt)(f:Nm)(n:Nat):Int × DSt:=changeD D ⟨2,f,n,[]⟩ (n:Int)
def putW(D:DSt)(f:Nm)(off:Nat)(x:List UInt8):Int × DSt:=changeD D ⟨1,f,off,x⟩ (off:Int)
def unfit(l:Lg)(wh:Bool)(f:Fd):Bool:=decide (f.era≠l.era) || !wh || (decide (l.segs≠[]) && decide (f.first≠l.next))
def takeF(l:Lg)(D:DSt)(f:Fd):Lg :=
 {l with first:=if l.segs=[] then f.first else l.first,segs:=l.segs++[⟨f.name,f.first,0::(scanF ((fget D.files f.name).getD []) f.first).2⟩],recs:=l.recs++(scanF ((fget D.files f.name).getD []) f.first).1 }
def stopF(D:DSt)(f:Fd):Nat:=(0::(scanF ((fget D.files f.name).getD []) f.first).2).getLastD 0
def loadF:List Fd->Lg->Bool->DSt->Int × Lg × DSt
 | [],l,_,D =>
  if l.segs=[] then
   if (putW D (walName l.era 1) 0 []).1≠0 then((putW D (walName l.era 1) 0 []).1,l,(putW D (walName l.era 1) 0 []).2)
   else((syncD (putW D (walName l.era 1) 0 []).2).1,{ l with segs:=[⟨walName l.era 1,1,[0]⟩] },(syncD (putW D (walName l.era 1) 0 []).2).2)
  else((syncD D).1,l,(syncD D).2)
 | f::r,l,wh,D =>
  if unfit l wh f=true then
   if (rmD D f.name).1≠0 then((rmD D f.name).1,l,(rmD D f.name).2) else loadF r l wh (rmD D f.name).2
  else if stopF D f=((fget D.files f.name).getD []).length then loadF r (takeF l D f) true D
  else if (cutS D f.name (stopF D f)).1≠0 then((cutS D f.name (stopF D f)).1,takeF l D f,(cutS D f.name (stopF D f)).2)
  else loadF r (takeF l D f) false (cutS D f.name (stopF D f)).2
def openW(D:DSt):Int × Lg × DSt:=loadF (sortF (foundL (namesD D))) ⟨eraL (foundL (namesD D)),[],[],1,false⟩ true D
/-! ### Calls -/
def Lg.fell(l:Lg)(e:Int):Lg:={ l with down:=l.down || decide (e=11) }
def recB(n:Nat)(r:List UInt8):List UInt8:=frameB (putNum n++r)
def recsB:Nat->List (List UInt8)->List UInt8
 | _,[]=>[]
 | n,r::t=>recB n r++recsB (n+1) t
def marksB:Nat->Nat->List (List UInt8)->List Nat
 | _,_,[]=>[]
 | i,n,r::t=>(i+(recB n r).length)::marksB (i+(recB n r).length) (n+1) t
def Lg.fits(l:Lg):Bool:=match l.segs.getLast? with | some s=>decide (s.stop<512) | none=>false
def Lg.to(l:Lg):Sg:=match l.segs.getLast? with | some s=>if s.stop<512 then s else⟨walName l.era l.next,l.next,[0]⟩ | none=>⟨walName l.era l.next,l.next,[0]⟩
def appendW(l:Lg)(D:DSt)(L:List (List UInt8)):Int × Lg × DSt :=
 if l.down=true then(11,l,D)
 else if L.any (fun r=>decide (65520<r.length))=true then(7,l,D)
 else if L=[] then(0,l,D)
 else if (putW D l.to.name l.to.stop (recsB l.next L)).1≠0 then
  ((putW D l.to.name l.to.stop (recsB l.next L)).1,l.fell (putW D l.to.name l.to.stop (recsB l.next L)).1,(putW D l.to.name l.to.stop (recsB l.next L)).2)
 else(0,{ l with segs:=(if l.fits=true then l.segs.dropLast else l.segs)++[{ l.to with marks:=l.to.marks++marksB l.to.stop l.next L }],recs:=l.recs++L },(putW D l.to.name l.to.stop (recsB l.next L)).2)
def syncW(l:Lg)(D:DSt):Int × Lg × DSt:=if l.down=true then(11,l,D) else((syncD D).1,l.fell (syncD D).1,(syncD D).2)
def removeW:List Nm->Lg->DSt->Int × Lg × DSt
 | [],l,D=>syncW l D
 | f::r,l,D=>if (rmD D f).1≠0 then((rmD D f).1,l.fell (rmD D f).1,(rmD D f).2) else removeW r (l.fell (rmD D f).1) (rmD D f).2
def readW(l:Lg)(i:Nat):List UInt8 × Int :=
 if l.down=true then([],11) else if i<l.first then([],13) else if l.next<=i then([],8) else(l.recs.getD (i - l.first) [],0)
def dropLoop(upto:Nat):Nat->Lg->DSt->Int × Lg × DSt
 | 0,l,D=>(0,l,D)
 | k+1,l,D =>
  match l.segs with
  | a::b::r =>
   if b.first<=upto then
    if (removeW [a.name] l D).1≠0 then removeW [a.name] l D
    else dropLoop upto k { (removeW [a.name] l D).2.1 with recs:=l.recs.drop (b.first - l.first),segs:=b::r,first:=b.first } (removeW [a.name] l D).2.2
   else(0,l,D)
  | _=>(0,l,D)
def dropW(l:Lg)(D:DSt)(upto:Nat):Int × Lg × DSt :=
 if l.down=true then(11,l,D) else if l.next<upto then(12,l,D)
 else if (syncW l D).1≠0 then syncW l D
 else dropLoop upto l.segs.length (syncW l D).2.1 (syncW l D).2.2
def resetW(l:Lg)(D:DSt)(next:Nat):Int × Lg × DSt :=
 if l.down=true then(11,l,D) else if next=0 then(1,l,D)
 else if (putW D (walName (l.era+1) next) 0 []).1≠0 then
  ((putW D (walName (l.era+1) next) 0 []).1,l.fell (putW D (walName (l.era+1) next) 0 []).1,(putW D (walName (l.era+1) next) 0 []).2)
 else if (syncW l (putW D (walName (l.era+1) next) 0 []).2).1≠0 then syncW l (putW D (walName (l.era+1) next) 0 []).2
 else removeW (l.segs.map Sg.name) { (syncW l (putW D (walName (l.era+1) next) 0 []).2).2.1 with era:=l.era+1,segs:=[⟨walName (l.era+1) next,next,[0]⟩],recs:=[],first:=next } (syncW l (putW D (walName (l.era+1) next) 0 []).2).2.2
theorem zV(D:DSt)(c:Wr)(off:Int):(changeD D c off).2.cnt<=D.cnt+1:=by
 unfold changeD;split
 ·exact Nat.le_succ _
 ·split
  ·simp only[DSt.cnt,zC,zo];omega
  ·simp only[DSt.cnt,zC,zo,List.length_append,List.length_cons,List.length_nil];omega
theorem zfv{b:List UInt8}{i:Int}:(unfrAt b i).2.2=0->0<=i/\(unfrAt b i).2.1=i+8+((unfrAt b i).1.length:Int)/\(unfrAt b i).2.1<=(b.length:Int)/\(unfrAt b i).1.length<=65536:=by
 unfold unfrAt;split
 ·split
  ·intro h;exact absurd h (by decide)
  ·split
   ·intro h;exact absurd h (by decide)
   ·split
    ·intro h;exact absurd h (by decide)
    ·split
     ·intro _;simp only[List.length_take,List.length_drop];omega
     ·intro h;exact absurd h (by decide)
 ·intro h;exact absurd h (by decide)
theorem zdg{b:List UInt8}{i want:Nat}{r:List UInt8}{n:Nat}(h:recAt b i want=some (r,n)):i+8<=n/\n<=b.length/\r.length<=65536:=by
 unfold recAt at h;split at h
 ·rename_i hc;obtain⟨h1,h2,h3,h4⟩:=zfv hc.1;injection h with h
  injection h with h5 h6
  subst h5 h6;rw[List.length_drop];omega
 ·cases h
end Go.Proofs.YtobdmlejabjmiaaGreatDoor
namespace Go.Proofs.YtobdmlejabjmiaaGreatDoor
open Go.RowKit
abbrev TL:TypeId:=119
abbrev TG:TypeId:=158
abbrev TP:TypeId:=159
abbrev TB:TypeId:=34
structure Pl where
 q:Nat
 m:Nat
 c:Nat
def encMark(n:Nat):Value:=.int .i64 (n:Int)
abbrev sgV(s:Sg)(z:Pl):Array Value:=#[.string ⟨s.name.toArray⟩,.int .u64 (s.first:Int),.slice (some ⟨z.m,0,none⟩) s.marks.length z.c]
structure SgAt(w:World)(B:Nat)(s:Sg)(z:Pl):Prop where
 blk:Blk w z.q TG (sgV s z)
 mr:OV w B 3 (some ⟨z.m,0,none⟩) z.c (s.marks.map encMark)
 pos:0<s.marks.length
abbrev ptrV(z:Sg × Pl):Value:=.pointer (some ⟨z.2.q,0,none⟩)
abbrev recV(y:List UInt8 × Option Addr × Nat):Value:=.slice y.2.1 y.1.length y.2.2
abbrev logV(g:Nat)(l:Lg)(SA:Option Addr)(sc:Nat)(RA:Option Addr)(rc:Nat):Array Value :=
 #[.pointer (some ⟨g,0,none⟩),.int .u64 (l.era:Int),.slice SA l.segs.length sc,.slice RA l.recs.length rc,.int .u64 (l.first:Int),.bool l.down]
structure LB(B:Nat)(S F:Nat->Prop)(w:World)(g:Nat)(D:DSt)(Z:List (Sg × Pl))(Y:List (List UInt8 × Option Addr × Nat))(SA:Option Addr)(sc:Nat)(RA:Option Addr)(rc:Nat):Prop where
 di:DI S w g D
 sv:OV w B TP SA sc (Z.map ptrV)
 rv:OV w B TB RA rc (Y.map recV)
 sg:∀z∈Z,SgAt w B z.1 z.2
 rc:∀y∈Y,RB w y.2.1 y.1
 fs:∀b,SA.map (·.block)=some b->F b
 fr:∀b,RA.map (·.block)=some b->F b
 fq:∀z∈Z,F z.2.q/\F z.2.m
 fy:∀y∈Y,0<y.1.length->∀b,y.2.1.map (·.block)=some b->F b
 yb:∀y∈Y,0<y.1.length->∀b,y.2.1.map (·.block)=some b->∃cs,Blk w b 5 cs
 dis:∀b,F b->¬S b
 bnd:∀b,F b->B<=b/\b<w.heap.size
 sge:∀b,S b->B<=b
 qn:(Z.map fun z=>z.2.q).Nodup
 mn:(Z.map fun z=>z.2.m).Nodup
structure LX(B:Nat)(S F:Nat->Prop)(w:World)(p g:Nat)(l:Lg)(D:DSt)(Z:List (Sg × Pl))(Y:List (List UInt8 × Option Addr × Nat))(SA:Option Addr)(sc:Nat)(RA:Option Addr)(rc:Nat):Prop where
 blk:Blk w p TL (logV g l SA sc RA rc)
 fp:F p
 zs:Z.map Prod.fst=l.segs
 ys:Y.map Prod.fst=l.recs
 lb:LB B S F w g D Z Y SA sc RA rc
def LR(B:Nat)(S F:Nat->Prop)(w:World)(p g:Nat)(l:Lg)(D:DSt):Prop:=∃Z Y SA sc RA rc,LX B S F w p g l D Z Y SA sc RA rc
section
variable {B p g sc rc:Nat} {S F T S' F':Nat->Prop} {w w':World} {l l':Lg} {D D':DSt} {Z:List (Sg × Pl)} {Y:List (List UInt8 × Option Addr × Nat)} {SA RA:Option Addr} {s:Sg} {z:Pl}
theorem SgAt.mods(h:SgAt w B s z)(m:Mods T w w')(h1:¬T z.q)(h2:¬T z.m):SgAt w' B s z :=
 ⟨h.blk.mods m h1,h.mr.mods m (fun k hk=>by
  have e:z.m=k:=by simpa using hk
  rw[<-e];exact h2),h.pos⟩
theorem SgAt.below(h:SgAt w B s z)(hb:Below w.heap.size w w'):SgAt w' B s z:=⟨h.blk.kept hb,h.mr.below hb,h.pos⟩
theorem SgAt.mblk(h:SgAt w B s z):∃cs,Blk w z.m 3 cs:=by
 rcases h.mr.cells with e | ⟨g,cs,e,hb⟩
 ·cases e
 ·injection e with e;injection e with e _ _;subst e;exact⟨cs,hb⟩
theorem SgAt.lt(h:SgAt w B s z):z.q<w.heap.size/\z.m<w.heap.size:=⟨h.blk.lt,by obtain⟨cs,hb⟩:=h.mblk;exact hb.lt⟩
theorem LB.mods(h:LB B S F w g D Z Y SA sc RA rc)(m:Mods T w w')(hT:∀b,F b->¬T b)(hd:DI S' w' g D')(hn:∀b,S' b->S b\/w.heap.size<=b)(hB:B<=w.heap.size):LB B S' F w' g D' Z Y SA sc RA rc where
 di:=hd
 sv:=h.sv.mods m (fun k hk=>hT k (h.fs k hk))
 rv:=h.rv.mods m (fun k hk=>hT k (h.fr k hk))
 sg:=fun z hz=>(h.sg z hz).mods m (hT _ (h.fq z hz).1) (hT _ (h.fq z hz).2)
 rc:=fun y hy=>(h.rc y hy).mods m (fun h0 k hk=>hT k (h.fy y hy h0 k hk))
 fs:=h.fs
 fr:=h.fr
 fq:=h.fq
 fy:=h.fy
 yb:=fun y hy h0 b e=>by
  obtain⟨cs,hc⟩:=h.yb y hy h0 b e;exact⟨cs,hc.mods m (hT b (h.fy y hy h0 b e))⟩
 dis:=fun b hb hs=>by
  rcases hn b hs with h1 | h1
  ·exact h.dis b hb h1
  ·have:=(h.bnd b hb).2;omega
 bnd:=fun b hb=>⟨(h.bnd b hb).1,Nat.lt_of_lt_of_le (h.bnd b hb).2 m.size⟩
 sge:=fun b hs=>by
  rcases hn b hs with h1 | h1
  ·exact h.sge b h1
  ·omega
 qn:=h.qn
 mn:=h.mn
theorem LB.below(h:LB B S F w g D Z Y SA sc RA rc)(hb:Below w.heap.size w w'):LB B S F w' g D Z Y SA sc RA rc where
 di:=h.di.below hb
 sv:=h.sv.below hb
 rv:=h.rv.below hb
 sg:=fun z hz=>(h.sg z hz).below hb
 rc:=fun y hy=>(h.rc y hy).below hb
 fs:=h.fs
 fr:=h.fr
 fq:=h.fq
 fy:=h.fy
 yb:=fun y hy h0 b e=>by
  obtain⟨cs,hc⟩:=h.yb y hy h0 b e;exact⟨cs,hc.kept hb⟩
 dis:=h.dis
 bnd:=fun b hb'=>⟨(h.bnd b hb').1,Nat.lt_of_lt_of_le (h.bnd b hb').2 hb.size⟩
 sge:=h.sge
 qn:=h.qn
 mn:=h.mn
theorem LB.wide(h:LB B S F w g D Z Y SA sc RA rc)(hF:∀b,F b->F' b)(hd:∀b,F' b->¬S b)(hb:∀b,F' b->B<=b/\b<w.heap.size):LB B S F' w g D Z Y SA sc RA rc :=
 ⟨h.di,h.sv,h.rv,h.sg,h.rc,fun b e=>hF b (h.fs b e),fun b e=>hF b (h.fr b e),fun z hz=>⟨hF _ (h.fq z hz).1,hF _ (h.fq z hz).2⟩,fun y hy h0 b e=>hF b (h.fy y hy h0 b e),h.yb,hd,hb,h.sge,h.qn,h.mn⟩
theorem LB.setP{cs:Array Value}(h:LB B S F w g D Z Y SA sc RA rc)(hp:Blk w p TL cs)(hs:¬S p)(m:Mods (·=p) w w'):LB B S F w' g D Z Y SA sc RA rc where
 di:=h.di.mods m (fun b _ hb e=>hs (by rw[<-e];exact hb))
 sv:=h.sv.mods m (fun k hk e=>h.sv.ne_blk hp (by decide) (by rw[hk,e]))
 rv:=h.rv.mods m (fun k hk e=>h.rv.ne_blk hp (by decide) (by rw[hk,e]))
 sg:=fun z hz=>(h.sg z hz).mods m ((h.sg z hz).blk.ne hp (by decide)) (by obtain⟨cs,hb⟩:=(h.sg z hz).mblk;exact hb.ne hp (by decide))
 rc:=fun y hy=>(h.rc y hy).mods m (fun h0 k hk e=>by
  obtain⟨cs',hc⟩:=h.yb y hy h0 k hk;exact hc.ne hp (by decide) e)
 fs:=h.fs
 fr:=h.fr
 fq:=h.fq
 fy:=h.fy
 yb:=fun y hy h0 b e=>by
  obtain⟨cs',hc⟩:=h.yb y hy h0 b e;exact⟨cs',hc.mods m (fun e'=>hc.ne hp (by decide) e')⟩
 dis:=h.dis
 bnd:=fun b hb'=>⟨(h.bnd b hb').1,Nat.lt_of_lt_of_le (h.bnd b hb').2 m.size⟩
 sge:=h.sge
 qn:=h.qn
 mn:=h.mn
end
end Go.Proofs.YtobdmlejabjmiaaGreatDoor
namespace Go.Proofs.YtobdmlejabjmiaaGreatDoor
open Go.RowKit
open Go.Lib (parseUintB decDigits)
section
variable {B p g sc rc:Nat} {S F:Nat->Prop} {w w':World} {l:Lg} {D:DSt} {Z:List (Sg × Pl)} {Y:List (List UInt8 × Option Addr × Nat)} {SA RA:Option Addr} {s:Sg} {z:Pl} {cs:Array Value}
theorem jg{n:Nat}(hn:n<18446744073709551616):(decDigits n).length<=20:=by rw[Go.Lib.decDigits_length];exact xg hn
theorem xA{e n:Nat}(he:e<18446744073709551616)(hn:n<18446744073709551616):(walName e n).length<=43:=by
 have h1:=jg he;have h2:=jg hn;unfold walName;simp only[List.length_append,List.length_cons,List.length_nil];omega
theorem jA(hb:Blk w p TL cs)(era:Nat)(h1:cs[1]?=some (.int .u64 (era:Int)))(he:era<18446744073709551616)(n:Nat)(hn:n<18446744073709551616)(hE:SEnv B w)(hB:B<=w.heap.size) :
  Calls Tryz.prog 97 #[.pointer (some ⟨p,0,none⟩),.int .u64 (n:Int)] w fun e w'=>e=.returned (.string ⟨(walName era n).toArray⟩)/\Below w.heap.size w w':=by
 have hd1:=jg he;have hd2:=jg hn;have hcat:=jE [119,46] (decDigits era) (by simp;omega);obtain⟨x1,hx1⟩:∃x1,x1=[119,46]++decDigits era:=⟨_,rfl⟩;have hcat2:=jE x1 [46] (by rw[hx1];simp;omega);obtain⟨x2,hx2⟩:∃x2,x2=x1++[46]:=⟨_,rfl⟩;have hcat3:=jE x2 (decDigits n) (by rw[hx2,hx1];simp;omega);have HW:Hid (walName era n=x2++decDigits n):=qh (by rw[hx2,hx1];rfl);rw[<-hx1] at hcat;rw[<-hx2] at hcat2;clear hx1 hx2;have c1:=hb.cell 1 h1;have F1:=zce (era:Int) (by omega) (by omega) w (hE.pow w (Below.refl _ _));rw[j7] at F1;have FF1:=qh F1;have HE:=qh hE;have hn0:(0:Int)<=(n:Int):=by omega
 have hn1:(n:Int)<=18446744073709551615:=by omega
 clear hE hb h1 hd1 hd2 F1;go_enter Tryz.func97,Tryz.ntmps97;go_wp2_with (go_at_call 128;refine FF1.out.mono ?_);rintro e w1 ⟨rfl,hb1⟩;have F2:=zce (n:Int) hn0 hn1 w1 (HE.out.pow w1 (hb1.mono hB));rw[j7] at F2;have FF2:=qh F2;have HB1:=qh hb1;clear F2 hb1 c1 FF1;go_wp2_with (go_at_call 128;refine FF2.out.mono ?_);rintro e w2 ⟨rfl,hb2⟩;have HB2:=qh (HB1.out.trans (hb2.mono HB1.out.size));clear hb2;go_wp2_with fail;go_ret;exact⟨by rw[HW.out];first | rfl | trivial,HB2.out⟩
theorem stop_get(s:Sg)(h:0<s.marks.length):s.stop=s.marks[s.marks.length - 1]'(by omega):=by
 unfold Sg.stop;rw[List.getLastD_eq_getLast?,List.getLast?_eq_getElem?,List.getElem?_eq_getElem (by omega)]
 rfl
theorem SgAt.last(h:SgAt w B s z):w.cell? ⟨z.m,s.marks.length - 1,none⟩=some (.int .i64 (s.stop:Int)):=by
 have hp:=h.pos;obtain⟨b,off,e,_,hc⟩:=h.mr.rv.cell (j:=s.marks.length - 1) (by rw[List.length_map];omega);have e0:off=0/\b=z.m:=by injection e with e;injection e with e1 e2 _;exact⟨e2.symm,e1.symm⟩
 rw[e0.1,e0.2,Nat.zero_add] at hc;rw[hc];simp only[List.getElem_map,encMark];rw[stop_get s hp]
theorem qO(h:SgAt w B s z)(hl:s.marks.length<=1000000000) :
  Calls Tryz.prog 96 #[.pointer (some ⟨z.q,0,none⟩)] w fun e w'=>e=.returned (.int .i64 (s.stop:Int))/\∃m,w'=w.drewN m:=by
 have hp:=h.pos;have c2:=h.blk.cell 2 rfl;have cl:=h.last;have hcap:=h.mr.cap;rw[List.length_map] at hcap;have hw:IntKind.i64.wrap ((s.marks.length:Int) - 1)=((s.marks.length - 1:Nat):Int):=by rw[IntWalk.i64_in _ (by omega)];omega
 have hi0:(0:Int)<=((s.marks.length - 1:Nat):Int):=by omega
 have hi1:((s.marks.length - 1:Nat):Int)<(s.marks.length:Int):=by omega
 clear h;go_enter Tryz.func96,Tryz.ntmps96;go_wp2_with fail
 go_quiet (fail)
 go_wp2_with fail;go_ret;exact⟨rfl,_,rfl⟩
theorem zfh(h:SgAt w B s z)(hl:s.marks.length<=1000000000)(hf:s.first+s.marks.length<18446744073709551616) :
  Calls Tryz.prog 134 #[.pointer (some ⟨z.q,0,none⟩)] w fun e w'=>e=.returned (.int .u64 (s.next:Int))/\∃m,w'=w.drewN m:=by
 have hp:=h.pos;have c1:=h.blk.cell 1 rfl;have c2:=h.blk.cell 2 rfl;have hw:IntKind.i64.wrap ((s.marks.length:Int) - 1)=((s.marks.length - 1:Nat):Int):=by rw[IntWalk.i64_in _ (by omega)];omega
 have hw2:IntKind.u64.wrap ((s.marks.length - 1:Nat):Int)=((s.marks.length - 1:Nat):Int):=IntWalk.u64_in _ (by omega);have hw3:IntKind.u64.wrap ((s.first:Int)+((s.marks.length - 1:Nat):Int))=((s.first+(s.marks.length - 1):Nat):Int):=by rw[IntWalk.u64_in _ (by omega)];omega
 clear h;go_enter Tryz.func134,Tryz.ntmps134;go_wp2_with fail
 go_quiet (fail)
 go_wp2_with fail;go_ret;exact⟨rfl,_,rfl⟩
theorem LX.lens(h:LX B S F w p g l D Z Y SA sc RA rc):Z.length=l.segs.length/\Y.length=l.recs.length:=by
 have h1:=congrArg List.length h.zs;have h2:=congrArg List.length h.ys;rw[List.length_map] at h1 h2;exact⟨h1,h2⟩
theorem zds(hb:Blk w p TL cs)(n:Nat)(h4:cs[4]?=some (.int .u64 (n:Int))) :
  Calls Tryz.prog 79 #[.pointer (some ⟨p,0,none⟩)] w fun e w'=>e=.returned (.int .u64 (n:Int))/\w=w':=by
 have c4:=hb.cell 4 h4;clear hb;go_enter Tryz.func79,Tryz.ntmps79;go_wp2_with fail;go_ret;exact⟨rfl,rfl⟩
theorem xM(hb:Blk w p TL cs)(f n c:Nat)(A:Option Addr)(h4:cs[4]?=some (.int .u64 (f:Int)))(h3:cs[3]?=some (.slice A n c))(hf:f+n<9223372036854775808) :
  Calls Tryz.prog 81 #[.pointer (some ⟨p,0,none⟩)] w fun e w'=>e=.returned (.int .u64 ((f+n:Nat):Int))/\∃m,w'=w.drewN m:=by
 have c4:=hb.cell 4 h4;have c3:=hb.cell 3 h3;have hw2:IntKind.u64.wrap (n:Int)=(n:Int):=IntWalk.u64_in _ (by omega);have hw3:IntKind.u64.wrap ((f:Int)+(n:Int))=((f+n:Nat):Int):=by rw[IntWalk.u64_in _ (by omega)];omega
 clear hb h3 h4;go_enter Tryz.func81,Tryz.ntmps81;go_wp2_with fail
 go_quiet (fail)
 go_wp2_with fail;go_ret;exact⟨rfl,_,rfl⟩
theorem jz(hb:Blk w p TL cs)(d:Bool)(h5:cs[5]?=some (.bool d)) :
  Calls Tryz.prog 92 #[.pointer (some ⟨p,0,none⟩)] w fun e w'=>e=.returned (.int .i64 (if d=true then 11 else 0))/\w=w':=by
 have c5:=hb.cell 5 h5;clear hb h5;cases d <;>
 ·go_enter Tryz.func92,Tryz.ntmps92;go_wp2_with fail;go_ret;exact⟨rfl,rfl⟩
theorem zdr(hb:Blk w p TL cs)(d:Bool)(h1:cs[5]?=some (.bool d))(e0:Int) :
  Calls Tryz.prog 93 #[.pointer (some ⟨p,0,none⟩),.int .i64 e0] w fun e w'=>e=.returned (.int .i64 e0)/\w'=w.setCell ⟨p,5,none⟩ (.bool (d || decide (e0=11))):=by
 have c6:=hb.cell 5 h1;have f6:=hb.free 5;clear hb h1;cases d
 ·by_cases he:e0=11
  ·subst he;go_enter Tryz.func93,Tryz.ntmps93;go_wp2_with fail;go_ret;exact⟨rfl,rfl⟩
  ·have heb:(e0 == 11)=false:=(by simpa using he);have hed:decide (e0=11)=false:=(by simpa using he);rw[hed];clear hed;go_enter Tryz.func93,Tryz.ntmps93;go_wp2_with fail;go_ret;exact⟨rfl,rfl⟩
 ·go_enter Tryz.func93,Tryz.ntmps93;go_wp2_with fail;go_ret;exact⟨rfl,rfl⟩
end
end Go.Proofs.YtobdmlejabjmiaaGreatDoor
namespace Go.Proofs.YtobdmlejabjmiaaGreatDoor
open Go.RowKit
section
variable {B p g sc rc:Nat} {S F S' T:Nat->Prop} {w w':World} {l l':Lg} {D D':DSt} {Z:List (Sg × Pl)} {Y:List (List UInt8 × Option Addr × Nat)} {SA RA:Option Addr}
theorem LX.below(h:LX B S F w p g l D Z Y SA sc RA rc)(hb:Below w.heap.size w w'):LX B S F w' p g l D Z Y SA sc RA rc :=
 ⟨h.blk.kept hb,h.fp,h.zs,h.ys,h.lb.below hb⟩
theorem LX.ps(h:LX B S F w p g l D Z Y SA sc RA rc):¬S p:=h.lb.dis p h.fp
theorem LX.mods(h:LX B S F w p g l D Z Y SA sc RA rc)(m:Mods T w w')(hT:∀b,F b->¬T b)(hd:DI S' w' g D')(hn:∀b,S' b->S b\/w.heap.size<=b)(hB:B<=w.heap.size):LX B S' F w' p g l D' Z Y SA sc RA rc :=
 ⟨h.blk.mods m (hT p h.fp),h.fp,h.zs,h.ys,h.lb.mods m hT hd hn hB⟩
theorem LX.disk(h:LX B S F w p g l D Z Y SA sc RA rc)(hB:B<=w.heap.size)(hd:DI (Sx S w w') w' g D')(m:Mods S w w'):LX B (Sx S w w') F w' p g l D' Z Y SA sc RA rc :=
 h.mods m h.lb.dis hd (fun _b hb=>hb.elim .inl (fun hb=>.inr hb.1)) hB
theorem LX.set(h:LX B S F w p g l D Z Y SA sc RA rc)(j:Nat)(v:Value)(hrow:(logV g l SA sc RA rc).setIfInBounds j v=logV g l' SA sc RA rc)(e1:l'.segs=l.segs)(e2:l'.recs=l.recs):LX B S F (w.setCell ⟨p,j,none⟩ v) p g l' D Z Y SA sc RA rc:=by
 have m:Mods (·=p) w (w.setCell ⟨p,j,none⟩ v):=(Mods.refl (·=p) w).setCell ⟨p,_,none⟩ (.inl rfl) _;have hb:=h.blk.setCell j v;rw[hrow] at hb;exact⟨hb,h.fp,by rw[e1];exact h.zs,by rw[e2];exact h.ys,h.lb.setP h.blk h.ps m⟩
theorem LX.same(h:LX B S F w p g l D Z Y SA sc RA rc)(e:l=l'):LX B S F w p g l' D Z Y SA sc RA rc:=by subst e;exact h
theorem zc3(l:Lg)(h:l.down=false):({ l with down:=false }:Lg)=l:=by
 obtain⟨a1,a2,a3,a4,a5⟩:=l;simp only at h;subst h
 rfl
def LKeep(B:Nat)(S F:Nat->Prop)(w:World)(p g:Nat)(Z:List (Sg × Pl))(Y:List (List UInt8 × Option Addr × Nat))(SA:Option Addr)(sc:Nat)(RA:Option Addr)(rc:Nat)(v:Value)(l':Lg)(D':DSt)(e:Ending)(w':World):Prop :=
 e=.returned v/\∃S':Nat->Prop,LX B S' F w' p g l' D' Z Y SA sc RA rc/\(∀b,S' b->S b\/w.heap.size<=b)/\Mods (fun b=>S b\/b=p) w w'
theorem zbm(h:LX B S F w p g l D Z Y SA sc RA rc)(hB:B<=w.heap.size)(hcnt:D.cnt<=1000000) :
  Calls Tryz.prog 44 #[.pointer (some ⟨p,0,none⟩)] w (LKeep B S F w p g Z Y SA sc RA rc (.int .i64 (syncW l D).1) (syncW l D).2.1 (syncW l D).2.2):=by
 have AL:=qh (jz h.blk l.down rfl);cases hd:l.down with
 | true =>
  rw[hd,if_pos rfl] at AL;have e:syncW l D=(11,l,D):=by unfold syncW;rw[if_pos hd]
  rw[e];have HF:Hid (LKeep B S F w p g Z Y SA sc RA rc (.int .i64 11) l D (.returned (.int .i64 11)) w):=qh ⟨rfl,S,h,fun b hb=>.inl hb,Mods.refl _ _⟩;clear h hcnt hd e;go_enter Tryz.func44,Tryz.ntmps44;go_wp2_with (go_at_call 92;refine AL.out.mono ?_);first | rintro e w1 ⟨rfl,rfl⟩ | rintro e w1 rfl rfl
  clear AL;go_wp2_with fail;go_ret;exact HF.out
 | false =>
  rw[hd,if_neg (by simp)] at AL;obtain⟨q,hq⟩:∃q,q=syncD D:=⟨_,rfl⟩;have e:syncW l D=(q.1,l.fell q.1,q.2):=by unfold syncW;rw[if_neg (by rw[hd];simp),hq]
  rw[e];have SY:=xB h.lb.di hcnt;rw[<-hq] at SY;have HSY:=qh SY;have c0:=h.blk.cell 0 rfl;have HS:=qh h;have HD:=qh hd;clear h hcnt hd e SY hq;go_enter Tryz.func44,Tryz.ntmps44;go_wp2_with (first | (go_at_call 92;refine AL.out.mono ?_;rintro e w1 ⟨rfl,rfl⟩) | (go_at_call 90;refine HSY.out.mono ?_));rintro e w2 ⟨rfl,hd2,m2⟩;have h2:=HS.out.disk hB hd2 m2;have DD:=qh (zdr h2.blk l.down rfl q.1);have HF:Hid (LKeep B S F w p g Z Y SA sc RA rc (.int .i64 q.1) (l.fell q.1) q.2 (.returned (.int .i64 q.1)) (w2.setCell ⟨p,5,none⟩ (.bool (l.down || decide (q.1=11))))):=qh ⟨rfl,_,h2.set 5 _ rfl rfl rfl,fun b hb=>hb.elim .inl (fun hb=>.inr hb.1),(m2.mono fun b _ hb=>.inl hb).setCell ⟨p,5,none⟩ (.inl (.inr rfl)) _⟩;clear hd2 m2 h2 AL HSY c0;go_wp2_with (go_at_call 93;refine DD.out.mono ?_);rintro e w3 ⟨rfl,rfl⟩;clear DD;go_wp2_with fail;go_ret;exact HF.out
def RemAt(B:Nat)(S F:Nat->Prop)(w:World)(p g:Nat)(l:Lg)(D:DSt)(Z:List (Sg × Pl))(Y:List (List UInt8 × Option Addr × Nat))(SA:Option Addr)(sc:Nat)(RA:Option Addr)(rc:Nat)(L:List Nm)(k:Nat)(wr:World):Prop :=
 ∃(S':Nat->Prop) (lk:Lg) (Dk:DSt),LX B S' F wr p g lk Dk Z Y SA sc RA rc/\(∀b,S' b->S b\/w.heap.size<=b)/\Mods (fun b=>S b\/b=p) w wr/\removeW L l D=removeW (L.drop k) lk Dk/\Dk.cnt<=D.cnt+k
theorem zb0(h:LX B S F w p g l D Z Y SA sc RA rc)(hB:B<=w.heap.size)(L:List Nm)(hcnt:D.cnt+L.length<=1000000)(A:Option Addr)(c:Nat)(hA:RV w A (L.map encStr))(hS:0<L.length->∀b,A.map (·.block)=some b->¬S b/\b≠p)(hL:∀f∈L,f.length<=1000)(hLc:L.length<=c/\c<=9223372036854775807) :
  Calls Tryz.prog 95 #[.pointer (some ⟨p,0,none⟩),.slice A L.length c] w (LKeep B S F w p g Z Y SA sc RA rc (.int .i64 (removeW L l D).1) (removeW L l D).2.1 (removeW L l D).2.2):=by
 obtain⟨r,hr⟩:∃r,r=removeW L l D:=⟨_,rfl⟩;rw[<-hr];have HRR:=qh hr;have HA0:Hid (RemAt B S F w p g l D Z Y SA sc RA rc L 0 w):=qh ⟨S,l,D,h,fun b hb=>.inl hb,Mods.refl _ _,rfl,Nat.le_refl _⟩;have HA:=qh hA;have HSS:=qh hS;have HLL:=qh hL;clear h hr hA hS hL;go_enter Tryz.func95,Tryz.ntmps95;go_wp2_with fail;go_loopw [10] (fun i wr=>∃k:Nat,k<=L.length/\i=.int .i64 (k:Int)/\Hid (RemAt B S F w p g l D Z Y SA sc RA rc L k wr)) (fun i _=>L.length - (intOf i).toNat)
 case atStart=>exact⟨0,Nat.zero_le _,rfl,HA0⟩
 case round =>
  clear HA0;obtain⟨k,hk,rfl,HC⟩:=hrel;obtain⟨S',lk,Dk,hx,hS',hm,hcl,hck⟩:=HC.out;by_cases hlt:k<L.length
  ·have hki:(k:Int)<(L.length:Int):=(by omega);have hki0:(0:Int)<=(k:Int):=(by omega);obtain⟨b,off,rfl,hbl,hc0⟩:=HA.out.cell (j:=k) (by simpa using hlt);have hsb:=HSS.out (by omega) b rfl;have hc:wr.cell? ⟨b,off+k,none⟩=some ((L.map encStr)[k]'(by simpa using hlt)):=(hm.cell (p:=⟨b,off+k,none⟩) hbl (fun h=>h.elim hsb.1 hsb.2)).trans hc0;have hf:(L.map encStr)[k]'(by simpa using hlt)=.string ⟨L[k].toArray⟩:=(by simp[encStr]);rw[hf] at hc;have hfl:=HLL.out _ (List.getElem_mem hlt);have hdrop:L.drop k=L[k]::L.drop (k+1):=List.drop_eq_getElem_cons hlt;obtain⟨q,hq⟩:∃q,q=rmD Dk L[k]:=⟨_,rfl⟩;have hrm:=xX L[k] hx.lb.di (by omega) (by omega);rw[show changeD Dk ⟨3,L[k],0,[]⟩ 0=q from hq.symm] at hrm;have RM:=qh hrm;have HQC:Hid (q.2.cnt<=D.cnt+(k+1)):=qh (by
    have h1:q.2.cnt<=Dk.cnt+1:=(by rw[hq];unfold rmD;exact zV _ _ _);omega)
   have HCL:Hid (removeW L l D=if q.1≠0 then(q.1,lk.fell q.1,q.2) else removeW (L.drop (k+1)) (lk.fell q.1) q.2):=qh (by rw[hcl,hdrop,removeW,hq]);have d0:wr.cell? ⟨p,0,none⟩=some (.pointer (some ⟨g,0,none⟩)):=hx.blk.cell 0 rfl;have HR:=qh hx;have HM:=qh hm;have HS':=qh hS';generalize L[k]=f at *;clear hx hf HC hdrop hfl hcl hck hrm hq hm hS' hc0;go_wp2_with (go_at_call 31;refine RM.out.mono ?_);rintro e w1 ⟨rfl,hd1,m1⟩;have hR1:=HR.out.disk (Nat.le_trans hB HM.out.size) hd1 m1;have DD:=qh (zdr hR1.blk lk.down rfl q.1);have HR2:Hid (LX B (Sx S' wr w1) F (w1.setCell ⟨p,5,none⟩ (.bool (lk.down || decide (q.1=11)))) p g (lk.fell q.1) q.2 Z Y SA sc RA rc):=qh (hR1.set 5 _ rfl rfl rfl);have HM2:Hid (Mods (fun b=>S b\/b=p) w (w1.setCell ⟨p,5,none⟩ (.bool (lk.down || decide (q.1=11))))):=qh ((HM.out.trans m1 (fun i hi=>by
    rcases HS'.out i hi with h | h
    ·exact .inl (.inl h)
    ·exact .inr h)).setCell ⟨p,5,none⟩ (.inl (.inr rfl)) _)
   have HS2:Hid (∀b,Sx S' wr w1 b->S b\/w.heap.size<=b):=qh (fun b hb=>by
    rcases hb with hb | hb
    ·exact HS'.out b hb
    ·exact .inr (Nat.le_trans HM.out.size hb.1))
   clear hd1 m1 hR1 RM HR HM HS' d0 hc;go_wp2_with (go_at_call 93;refine DD.out.mono ?_);rintro e w2 ⟨rfl,rfl⟩;clear DD;by_cases hq0:q.1=0
   ·have hqb:(q.1 == 0)=true:=(by simpa using hq0);have HA2:Hid (RemAt B S F w p g l D Z Y SA sc (RA) rc L (k+1) (w1.setCell ⟨p,5,none⟩ (.bool (lk.down || decide (q.1=11))))):=qh ⟨_,lk.fell q.1,q.2,HR2.out,HS2.out,HM2.out,by rw[HCL.out,if_neg (by rw[hq0];simp)],HQC.out⟩;clear HR2 HS2 HM2 HCL HQC;rw[hq0] at HA2 ⊢;simp only[show decide ((0:Int)=11)=false from rfl,Bool.or_false] at HA2;clear hq0 hqb;go_wp2_with fail;go_roundw
    case rel=>exact⟨k+1,by omega,by go_num,HA2⟩
    case measure=>simp[intOf];omega
   ·have hqb:(q.1 == 0)=false:=(by simpa using hq0);have HF:Hid (LKeep B S F w p g Z Y SA sc RA rc (.int .i64 r.1) r.2.1 r.2.2 (.returned (.int .i64 q.1)) (w1.setCell ⟨p,5,none⟩ (.bool (lk.down || decide (q.1=11))))):=qh (by
     rw[HRR.out,HCL.out,if_pos hq0];exact⟨rfl,_,HR2.out,HS2.out,HM2.out⟩)
    clear HR2 HS2 HM2 HCL HQC hq0 HRR;go_wp2_with fail;go_ret;exact HF.out
  ·obtain rfl:k=L.length:=(by omega);have hcl0:removeW L l D=syncW lk Dk:=(by rw[hcl,List.drop_length];rfl);have SY:=qh (zbm hx (Nat.le_trans hB hm.size) (by omega));have HRS:Hid (r=syncW lk Dk):=qh (HRR.out.trans hcl0);have HM:=qh hm;have HS':=qh hS';clear hx hm hS' hcl hcl0 hck HC;go_wp2_with (go_at_call 44;refine SY.out.mono ?_);rintro e w1 ⟨rfl,S2,hx2,hn2,hm2⟩;have HF:Hid (LKeep B S F w p g Z Y SA sc RA rc (.int .i64 r.1) r.2.1 r.2.2 (.returned (.int .i64 (syncW lk Dk).1)) w1):=qh (by
    rw[HRS.out];refine⟨rfl,S2,hx2,fun b hb=>?_,HM.out.trans hm2 (fun i hi=>?_)⟩
    ·rcases hn2 b hb with h | h
     ·exact HS'.out b h
     ·exact .inr (Nat.le_trans HM.out.size h)
    ·rcases hi with h | h
     ·rcases HS'.out i h with h | h
      ·exact .inl (.inl h)
      ·exact .inr h
     ·exact .inl (.inr h))
   clear hx2 hn2 hm2 SY HM HS' HRS;go_wp2_with fail;go_ret;exact HF.out
end
end Go.Proofs.YtobdmlejabjmiaaGreatDoor
namespace Go.Proofs.YtobdmlejabjmiaaGreatDoor
open Go.RowKit
open Go.Lib (parseUintB decDigits)
section
variable {B p g sc rc:Nat} {S F S' T:Nat->Prop} {w w':World} {l l':Lg} {D D':DSt} {Z:List (Sg × Pl)} {Y:List (List UInt8 × Option Addr × Nat)} {SA RA:Option Addr}
def WReadEnd(r:List UInt8)(k:Int)(w:World)(e:Ending)(w':World):Prop :=
 ∃A c n,n=r.length/\e=.returned (.tuple #[.slice A n c,.int .i64 k])/\OB w' w.heap.size A c r/\Below w.heap.size w w'
theorem jc{k:Int}(hb:Below w.heap.size w w'):WReadEnd [] k w (.returned (.tuple #[.slice none 0 0,.int .i64 k])) w':=⟨none,0,0,rfl,rfl,OB.nil _ _,hb⟩
theorem zfz(h:LX B S F w p g l D Z Y SA sc RA rc)(i:Nat)(hi:i<18446744073709551616)(hn:l.next<9223372036854775808)(hr:∀r∈l.recs,r.length<=100000) :
  Calls Tryz.prog 144 #[.pointer (some ⟨p,0,none⟩),.int .u64 (i:Int)] w (WReadEnd (readW l i).1 (readW l i).2 w):=by
 have AL:=qh (jz h.blk l.down rfl);have c4:=h.blk.cell 4 rfl;have hlen:=h.lens;have hnn:l.next=l.first+l.recs.length:=rfl;cases hd:l.down with
 | true =>
  rw[hd,if_pos rfl] at AL;have e:readW l i=([],11):=by unfold readW;rw[if_pos hd]
  rw[e];clear h hd e c4 hlen hnn hn hr hi;go_enter Tryz.func144,Tryz.ntmps144;go_wp2_with (go_at_call 92;refine AL.out.mono ?_);first | rintro e w1 ⟨rfl,rfl⟩ | rintro e w1 rfl rfl
  go_wp2_with fail
  go_ret2
  exact jc (Below.refl _ _)
 | false =>
  rw[hd,if_neg (by simp)] at AL;by_cases h1:i<l.first
  ·have e:readW l i=([],13):=(by unfold readW;rw[if_neg (by rw[hd];simp),if_pos h1]);rw[e];have h1':(i:Int)<(l.first:Int):=(by omega);clear h hd e hlen hnn hn hr hi h1;go_enter Tryz.func144,Tryz.ntmps144;go_wp2_with (go_at_call 92;refine AL.out.mono ?_);first | rintro e w1 ⟨rfl,rfl⟩ | rintro e w1 rfl rfl
   clear AL;go_wp2_with fail
   go_ret2
   exact jc (Below.refl _ _)
  ·have h1':¬(i:Int)<(l.first:Int):=(by omega);have NX:=qh (xM h.blk l.first l.recs.length rc RA rfl rfl (by omega));by_cases h2:l.next<=i
   ·have e:readW l i=([],8):=(by unfold readW;rw[if_neg (by rw[hd];simp),if_neg h1,if_pos h2]);rw[e];have h2':((l.first+l.recs.length:Nat):Int)<=(i:Int):=(by omega);clear h hd e hlen hnn hn hr hi h1 h2;go_enter Tryz.func144,Tryz.ntmps144;go_wp2_with (first | (go_at_call 92;refine AL.out.mono ?_;rintro e w1 ⟨rfl,rfl⟩) | (go_at_call 81;refine NX.out.mono ?_));rintro e w2 ⟨rfl,n2,rfl⟩;clear AL NX;go_wp2_with fail
    go_ret2
    exact jc ⟨rfl,rfl,rfl,Nat.le_refl _,fun _ _=>rfl⟩
   ·obtain⟨k,hk⟩:∃k,k=i - l.first:=⟨_,rfl⟩;have hkl:k<l.recs.length:=(by omega);have e:readW l i=(l.recs[k],0):=by
     unfold readW;rw[if_neg (by rw[hd];simp),if_neg h1,if_neg h2,<-hk,List.getD_eq_getElem?_getD,List.getElem?_eq_getElem hkl]
     rfl
    rw[e];have h2':¬((l.first+l.recs.length:Nat):Int)<=(i:Int):=(by omega);have hky:k<Y.length:=(by omega);have hyr:Y[k].1=l.recs[k]:=by
     have:=h.ys;have e2:(Y.map Prod.fst)[k]'(by rw[List.length_map];exact hky)=l.recs[k]:=(by simp only[this]);simpa using e2
    obtain⟨ra,off,rfl,hbl,hc⟩:=h.lb.rv.rv.cell (j:=k) (by rw[List.length_map];exact hky);rw[List.getElem_map] at hc;have hrb:=h.lb.rc _ (List.getElem_mem hky);obtain⟨⟨r,A,c⟩,hy⟩:∃y,y=Y[k]:=⟨_,rfl⟩;rw[<-hy] at hc hrb hyr;simp only at hc hrb hyr;rw[<-hyr];have hrl:r.length<=100000:=(by rw[hyr];exact hr _ (List.getElem_mem hkl));have HC:=qh hc;have HRB:=qh hrb;have HX:=qh h;have hw:IntKind.u64.wrap ((i:Int) - (l.first:Int))=(k:Int):=(by rw[IntWalk.u64_in _ (by omega)];omega);have hk0:(0:Int)<=(k:Int):=(by omega);have hk1:(k:Int)<(l.recs.length:Int):=(by omega);clear h hd e hlen hnn hn hr hi h1 h2 hy hyr hc hrb hky hkl hk;go_enter Tryz.func144,Tryz.ntmps144;go_wp2_with (first | (go_at_call 92;refine AL.out.mono ?_;rintro e w1 ⟨rfl,rfl⟩) | (go_at_call 81;refine NX.out.mono ?_));rintro e w2 ⟨rfl,n2,rfl⟩;clear AL NX c4;go_wp2_with fail;refine zf (by kernel_rfl) [(0,none),(1,none),(2,none),(3,none),(4,none),(5,none),(6,none),(7,none),(8,none),(9,none),(10,none),(11,none),(12,some [11]),(13,none),(14,none)] (by kernel_rfl) (by kernel_rfl) (by decide) ?_;intro wq hwq;have hBq:Below w.heap.size w wq:=(by rw[hwq];exact⟨rfl,rfl,rfl,Nat.le_refl _,fun _ _=>rfl⟩);have y3:wq.cell? ⟨p,3,none⟩=some (.slice (some ⟨ra,off,none⟩) l.recs.length rc):=(HX.out.blk.kept hBq).cell 3 rfl;have y4:wq.cell? ⟨p,4,none⟩=some (.int .u64 (l.first:Int)):=(HX.out.blk.kept hBq).cell 4 rfl;have yr:wq.cell? ⟨ra,off+k,none⟩=some (.slice A r.length c):=(hBq.cell (p:=⟨ra,off+k,none⟩) hbl).trans HC.out;have HRQ:=qh (HRB.out.below hBq);have HBQ:=qh hBq;clear hwq hBq;iterate 3 (refine zd ?_)
    refine ze [(⟨p,3,none⟩,.slice (some ⟨ra,off,none⟩) l.recs.length rc)] ?_;iterate 4 (refine zd ?_)
    refine ze [(⟨p,4,none⟩,.int .u64 (l.first:Int))] ?_;iterate 2 (refine zd ?_)
    refine ze [(⟨ra,off+k,none⟩,.slice A r.length c)] ?_;refine zh rfl (by rfl) (fun K hK=>?_)
    go_simp
    refine(yH A c r wq HRQ.out (by omega)).mono ?_;rintro e w3 ⟨A3,c3,rfl,ho3,hb3⟩;have HO3:=qh (ho3.base_le HBQ.out.size);have HB3:=qh (HBQ.out.trans (hb3.mono HBQ.out.size));have z3:w3.cell? ⟨p,3,none⟩=some (.slice (some ⟨ra,off,none⟩) l.recs.length rc):=(HX.out.blk.kept (HBQ.out.trans (hb3.mono HBQ.out.size))).cell 3 rfl;have z4:w3.cell? ⟨p,4,none⟩=some (.int .u64 (l.first:Int)):=(HX.out.blk.kept (HBQ.out.trans (hb3.mono HBQ.out.size))).cell 4 rfl;have zr:w3.cell? ⟨ra,off+k,none⟩=some (.slice A r.length c):=(hb3.cell (p:=⟨ra,off+k,none⟩) (Nat.lt_of_lt_of_le hbl HBQ.out.size)).trans yr;clear ho3 hb3 y3 y4 yr;refine zg hK ?_;clear hK K;iterate 2 (refine zd ?_)
    refine zk ?_;go_wp2_with fail
    go_ret2
    exact⟨A3,c3,_,rfl,rfl,HO3.out,HB3.out⟩
end
def RecE(o:Option (List UInt8 × Nat))(w:World)(e:Ending)(w':World):Prop :=
 Below w.heap.size w w'/\∃(A:Option Addr) (n c:Nat) (x:Int),e=.returned (.tuple #[.slice A n c,.int .i64 x,.bool o.isSome]) /\
  ∀r nx,o=some (r,nx)->n=r.length/\x=(nx:Int)/\RB w' A r/\(0<r.length->∀b,A.map (·.block)=some b->w.heap.size<=b/\∃cs,Blk w' b 5 cs)
theorem zct{o:Option (List UInt8 × Nat)}{w w':World}{A:Option Addr}{n c:Nat}{x:Int}(h:o=none)(hb:Below w.heap.size w w'):RecE o w (.returned (.tuple #[.slice A n c,.int .i64 x,.bool false])) w':=by
 subst h;exact⟨hb,A,n,c,x,rfl,fun r nx h=>by cases h⟩
theorem OB.tail{w:World}{B c b f:Nat}{k:List UInt8}(h:OB w B (some ⟨b,0,none⟩) c k)(_hf:f<=k.length):RB w (some ⟨b,f,none⟩) (k.drop f):=by
 have h1:=h.rb.partR f (k.length - f);rw[Nat.zero_add] at h1;have e:(k.drop f).take (k.length - f)=k.drop f:=by rw[List.take_of_length_le];rw[List.length_drop];omega
 rw[e] at h1;exact h1
theorem zbZ(A:Option Addr)(c:Nat)(b:List UInt8)(i want:Nat)(w:World)(h:RB w A b)(hc:b.length<=c)(hm:c<=9223372036854775807)(hl:b.length<=210000000000000)(hi:i<=b.length) :
  Calls Tryz.prog 133 #[.slice A b.length c,.int .i64 (i:Int),.int .u64 (want:Int)] w (RecE (recAt b i want) w):=by
 have UF:=qh (jf A c b (i:Int) w h hc hm hl (by omega));obtain⟨u,hu⟩:∃u,u=unfrAt b (i:Int):=⟨_,rfl⟩;obtain⟨o,ho⟩:∃o,o=recAt b i want:=⟨_,rfl⟩;rw[<-ho];unfold recAt at ho;rw[<-hu] at ho UF;have HO:=qh ho;have hnx:u.2.2=0->(i:Int)<=u.2.1:=fun h0=>by rw[hu] at h0 ⊢;have:=zfv h0;omega
 have HNX0:=qh hnx;clear h hc hm hi hu ho hnx;obtain⟨d,nx,er⟩:=u;simp only at HO;go_enter Tryz.func133,Tryz.ntmps133;go_wp2_with (go_at_call 60;refine UF.out.mono ?_);intro e w1 hdat;unfold DatO at hdat;simp only at hdat;obtain⟨k,K,ck,hk,hkl,rfl,hok,hb1⟩:=hdat;have hk':=hk.out;subst hk';clear UF hk;by_cases he:er=0
 ·subst he;have HNX:Hid ((i:Int)<=nx):=qh (HNX0.out rfl);clear HNX0;have hcap:=hok.cap;have NU:=qh (zaO K ck k 0 w1 hok.rb hcap.1 hcap.2 (by omega) (by omega));unfold NumE at NU;have hrg:=yS k 0;obtain⟨v,hv⟩:∃v,v=numAt k 0:=⟨_,rfl⟩;rw[<-hv] at NU hrg HO;clear hv;obtain⟨n,f,en⟩:=v;simp only at NU hrg HO;obtain⟨_,_,hf0,hf1,_,_⟩:=hrg;obtain⟨f,rfl⟩:=Int.eq_ofNat_of_zero_le hf0;have HB:=qh hb1;have HOK:=qh hok;have hmx:¬((f:Int)<0):=by omega
  have hfk:f<=k.length:=by omega
  clear hok hb1 hf0 hl;go_wp2_with (go_at_call 167;refine NU.out.mono ?_);rintro e w2 ⟨rfl,rfl⟩;clear NU;have HU:Hid (0<=nx):=qh (by have:=HNX.out;omega);by_cases hen:en=0
  ·subst hen;have HO1:Hid (o=if n=(want:Int) then some (k.drop f,nx.toNat) else none):=qh (by rw[HO.out];simp);clear HO;by_cases hn:n=(want:Int)
   ·have hnb:(n == (want:Int))=true:=(by simpa using hn);have HO2:Hid (o=some (k.drop f,nx.toNat)):=qh (by rw[HO1.out,if_pos hn]);clear HO1 hn;by_cases hlt:f<ck
    ·have hltI:((f:Int)<(ck:Int)):=(by omega);go_wp2_with fail
     go_ret3
     rcases HOK.out.form with⟨_,h3,_⟩ | ⟨gg,hK,hge,_,_,_⟩
     ·omega
     ·subst hK;have hadd:(Option.map (fun x:Addr=>x.add f) (some ⟨gg,0,none⟩):Option Addr)=some ⟨gg,f,none⟩:=(by simp[Addr.add];exact fun h=>h.symm);refine⟨HB.out,Option.map (fun x:Addr=>x.add f) (some ⟨gg,0,none⟩),_,_,_,by rw[HO2.out];rfl,fun r n' h=>?_⟩;rw[hadd];rw[HO2.out] at h;injection h with h
      injection h with h1 h2
      subst h1 h2;have hu0:=HU.out;refine⟨by rw[List.length_drop],by omega,HOK.out.tail hfk,fun _ b hb=>?_⟩;injection hb with hb
      simp only at hb;subst hb;refine⟨hge,?_⟩
      rcases HOK.out.cells with h4 | ⟨g',cs,h4,h5⟩
      ·cases h4
      ·injection h4 with h4
       injection h4 with h4 _ _
       subst h4;exact⟨cs,h5⟩
    ·have hltI:¬((f:Int)<(ck:Int)):=(by omega);go_wp2_with fail
     go_ret3
     refine⟨HB.out,_,_,_,_,by rw[HO2.out];rfl,fun r n' h=>?_⟩;rw[HO2.out] at h;injection h with h
     injection h with h1 h2
     subst h1 h2;have hu0:=HU.out;have h0:(k.drop f).length=0:=(by rw[List.length_drop];omega);have h1:k.drop f=[]:=List.eq_nil_of_length_eq_zero h0;refine⟨by rw[h1];simp only[List.length_nil];omega,by omega,by rw[h1];exact⟨fun h=>absurd h (by simp)⟩,fun h=>by omega⟩
   ·have hnb:(n == (want:Int))=false:=(by simpa using hn);have HN:Hid (o=none):=qh (by rw[HO1.out,if_neg hn]);clear HO1 hn;by_cases hlt:f<ck;all_goals
     go_wp2_with fail
     go_ret3
     exact zct HN.out HB.out
  ·have henb:(en == 0)=false:=(by simpa using hen);have HN:Hid (o=none):=qh (by rw[HO.out,if_neg (fun h=>hen h.2.1)]);clear HO hen;by_cases hlt:f<ck;all_goals
    go_wp2_with fail
    go_ret3
    exact zct HN.out HB.out
 ·have heb:(er == 0)=false:=by simpa using he
  have HN:Hid (o=none):=qh (by rw[HO.out,if_neg (fun h=>he h.1)]);have HB:=qh hb1;clear HO he hok hb1;go_wp2_with fail
  go_ret3
  exact zct HN.out HB.out
end Go.Proofs.YtobdmlejabjmiaaGreatDoor
