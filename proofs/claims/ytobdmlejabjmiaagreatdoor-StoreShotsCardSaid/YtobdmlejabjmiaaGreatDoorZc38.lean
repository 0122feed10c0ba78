/- Made small by a program. -/
import Derived.Test.YtobdmlejabjmiaaGreatDoorZc31
set_option maxRecDepth 20000
set_option maxHeartbeats 8000000
namespace Go.Proofs.YtobdmlejabjmiaaGreatDoor
open Go.RowKit
theorem zcC{w w':World}{X:Option Addr}{k:Nat}{L:List (List Value)}{T:Nat->Prop}(h:RS w X k L)(m:Mods T w w')(hX:∀b,X.map (·.block)=some b->¬T b):RS w' X k L :=
 ⟨fun hn=>by
  obtain⟨b,off,e,hlt,hc⟩:=h.at_ hn;exact⟨b,off,e,Nat.lt_of_lt_of_le hlt m.size,fun i cs hi j v hj=>(m.cell (p:=⟨b,_,none⟩) hlt (hX b (by rw[e];rfl))).trans (hc i cs hi j v hj)⟩⟩
section
variable {B p g sc rc:Nat} {S F F' T:Nat->Prop} {w w' wr:World} {l l':Lg} {D D':DSt} {Z Z' Z1 Z2:List (Sg × Pl)} {Y Y':List (List UInt8 × Option Addr × Nat)} {SA RA SA' RA':Option Addr} {s s':Sg} {z:Pl} {sc' rc' n:Nat}
theorem zek{c:Wr}{off:Int}(h:(changeD D c off).1=0):(changeD D c off).2={ burnD D with unsure:=(burnD D).unsure++[c] }/\(burnD D).down=false:=by
 unfold changeD at h ⊢;by_cases h1:refuseD D c off≠0
 ·rw[if_pos h1] at h;exact absurd h h1
 ·rw[if_neg h1] at h ⊢;by_cases h2:(burnD D).down=true
  ·rw[if_pos h2] at h;exact absurd h (by simp)
  ·rw[if_neg h2];exact⟨rfl,by simpa using h2⟩
theorem jd{c:Wr}{off:Int}(h:(changeD D c off).1=0):(changeD D c off).2.files=doF D.files c/\(changeD D c off).2.down=false:=by
 obtain⟨h1,h2⟩:=zek h;rw[h1];refine⟨?_,h2⟩;have e:=zdE (burnD D) c;rw[zF] at e;exact e
theorem zal{fs:List Fd}{i:Nat}{f:Fd}(hnd:(fs.map Fd.name).Nodup)(hd:fs.drop i=f::fs.drop (i+1)){f2:Fd}(h:f2∈fs.drop (i+1)):f2.name≠f.name:=by
 have h1:((fs.drop i).map Fd.name).Nodup:=(List.Sublist.map _ (List.drop_sublist i fs)).nodup hnd;rw[hd,List.map_cons,List.nodup_cons] at h1;intro e;exact h1.1 (by rw[<-e];exact List.mem_map.2 ⟨f2,h,rfl⟩)
structure LdAt(B:Nat)(S F:Nat->Prop)(w:World)(p g:Nat)(fs:List Fd)(r:Int × Lg × DSt)(c0:Nat)(wr:World)(S' F':Nat->Prop)(lk:Lg)(Dk:DSt)(Z:List (Sg × Pl))(Y:List (List UInt8 × Option Addr × Nat))(SA:Option Addr)(sc:Nat)(RA:Option Addr)(rc:Nat)(wh:Bool)(i:Nat):Prop where
 lx:LX B S' F' wr p g lk Dk Z Y SA sc RA rc
 ss:∀b,S' b->S b\/w.heap.size<=b
 ff:∀b,F' b->F b\/w.heap.size<=b
 mods:Mods (fun b=>S b\/F b) w wr
 eq:r=loadF (fs.drop i) lk wh Dk
 ex:∀f∈fs.drop i,∃b,fget Dk.files f.name=some b/\b.length<=4800000
 up:Dk.down=false
 cnt:Dk.cnt<=c0+i
 rl:lk.recs.length<=i*600000
 sl:lk.segs.length<=i
 nx:lk.next<=1000000000000+i*600000
 emp:lk.segs=[]->wh=true/\∃f∈fs.drop i,f.era=lk.era
structure ScanG(B:Nat)(S F:Nat->Prop)(w:World)(p g:Nat)(l:Lg)(D:DSt)(Z1:List (Sg × Pl))(f:Fd)(b:List UInt8)(DA:Option Addr)(dc:Nat)(q j m:Nat)(MB MC:Nat)(wr:World):Prop where
 sc:∃F' Y' SA' sc' RA' rc',ScanO B S F F' w p g { l with segs:=Z1.map Prod.fst++[⟨f.name,f.first,0::(scanF b f.first).2.take j⟩],recs:=l.recs++(scanF b f.first).1.take j } D (Z1++[(⟨f.name,f.first,0::(scanF b f.first).2.take j⟩,⟨q,MB,MC⟩)]) Y' SA' sc' RA' rc' b DA dc wr
 stop:(0::(scanF b f.first).2.take j).getLastD 0=m
 rest:∃k,scanR b k m (f.first+j)=((scanF b f.first).1.drop j,(scanF b f.first).2.drop j)/\b.length<=m+k
 low:8*j<=m/\m<=b.length
 jl:j<=(scanF b f.first).1.length/\j<=(scanF b f.first).2.length
theorem ScanG.below{f:Fd}{b:List UInt8}{DA:Option Addr}{dc q j m MB MC:Nat}{wa:World}(h:ScanG B S F w p g l D Z1 f b DA dc q j m MB MC wr)(hb:Below wr.heap.size wr wa):ScanG B S F w p g l D Z1 f b DA dc q j m MB MC wa:=by
 obtain⟨F',Y',SA',sc',RA',rc',h1⟩:=h.sc;exact⟨⟨F',Y',SA',sc',RA',rc',h1.below hb⟩,h.stop,h.rest,h.low,h.jl⟩
structure LdOk(S F:Nat->Prop)(w:World)(l:Lg)(D:DSt)(X:Option Addr)(fs:List Fd):Prop where
 row:RS w X 3 (fs.map fdRow)
 apart:∀b,X.map (·.block)=some b->¬S b/\¬F b
 bnd:∀f∈fs,f.name.length<=1000/\f.era<=1000000000000/\f.first<=1000000000000/\nameOk f.name=true
 ex:∀f∈fs,∃b,fget D.files f.name=some b/\b.length<=4800000
 nd:(fs.map Fd.name).Nodup
 era:∃f∈fs,f.era=l.era
 len:fs.length<=5000
theorem walLoadG(h:LX B S F w p g l D Z Y SA sc RA rc)(hs:l.segs=[])(hr:l.recs=[])(hB:B<=w.heap.size)(hcnt:D.cnt<=400000)(hdn:D.down=false)(hfi:l.first<=1000000000000)(X:Option Addr)(cx:Nat)(fs:List Fd)(hok:LdOk S F w l D X fs) :
  Calls Tryz.prog 69 #[.pointer (some ⟨p,0,none⟩),.slice X fs.length cx] w (LDone B S F w p g (.int .i64 (loadF fs l true D).1) (loadF fs l true D).2.1 (loadF fs l true D).2.2):=by
 obtain⟨r,hr0⟩:∃r,r=loadF fs l true D:=⟨_,rfl⟩;rw[<-hr0];have HD0:Hid (LdAt B S F w p g fs r D.cnt w S F l D Z Y SA sc RA rc true 0):=qh ⟨h,fun b hb=>.inl hb,fun b hb=>.inl hb,Mods.refl _ _,hr0,hok.ex,hdn,Nat.le_refl _,by rw[hr];simp,by rw[hs];simp,by unfold Lg.next;rw[hr];simp only[List.length_nil];omega,fun _=>⟨rfl,hok.era⟩⟩;have HOK:=qh hok;have hlen:=hok.len;clear h hs hr hr0 hok hdn hfi;go_enter Tryz.func69,Tryz.ntmps69;go_wp2_with fail;go_loopw [5,19] (fun s5 s19 wr=>∃S' F' lk Dk Z Y SA sc RA rc wh i,i<=fs.length/\s5=.bool wh/\s19=.int .i64 (i:Int)/\Hid (LdAt B S F w p g fs r D.cnt wr S' F' lk Dk Z Y SA sc RA rc wh i)) (fun _ s19 _=>fs.length - (intOf s19).toNat)
 case atStart=>exact⟨_,_,_,_,_,_,_,_,_,_,_,0,Nat.zero_le _,rfl,rfl,HD0⟩
 case round =>
  clear HD0;obtain⟨S',F',lk,Dk,Z,Y,SA,sc,RA,rc,wh,i,hi,rfl,rfl,HD⟩:=hrel;obtain⟨w0,hw0⟩:∃w0,w0=wr:=⟨_,rfl⟩;subst hw0;by_cases hlt:i<fs.length
  ·have hki:(i:Int)<(fs.length:Int):=(by omega);have hki0:(0:Int)<=(i:Int):=(by omega);obtain⟨f,hf⟩:∃f,fs[i]?=some f:=⟨_,List.getElem?_eq_getElem hlt⟩;have hfm:f∈fs:=List.mem_of_getElem? hf;have hdrop:fs.drop i=f::fs.drop (i+1):=by
    rw[List.drop_eq_getElem_cons hlt,(List.getElem?_eq_some_iff.1 hf).2]
   have hrow:=zcC HOK.out.row HD.out.mods (fun b hb hx=>by
    have:=HOK.out.apart b hb
    rcases hx with hx | hx
    ·exact this.1 hx
    ·exact this.2 hx)
   obtain⟨xb,off,rfl,hxb,hcells⟩:=hrow.at_ (by rw[List.length_map];omega);have hfr:(fs.map fdRow)[i]?=some (fdRow f):=(by rw[List.getElem?_map,hf];rfl);have d0:w0.cell? ⟨xb,off+i*3,none⟩=some (.string ⟨f.name.toArray⟩):=hcells i _ hfr 0 _ rfl;have d1:w0.cell? ⟨xb,off+i*3+1,none⟩=some (.int .u64 (f.era:Int)):=hcells i _ hfr 1 _ rfl;have d2:w0.cell? ⟨xb,off+i*3+2,none⟩=some (.int .u64 (f.first:Int)):=hcells i _ hfr 2 _ rfl;have hfb:=HOK.out.bnd f hfm;have HFB:=qh (And.intro hfb (And.intro hdrop hfm));obtain⟨hfb1,hfb2,hfb3,hfb4⟩:=hfb;obtain⟨hba,hxa⟩:=y8 w0 #[.string ⟨#[]⟩,.int .u64 0,.int .u64 0] #[.string ⟨f.name.toArray⟩,.int .u64 (f.era:Int),.int .u64 (f.first:Int)] TF;have HZ:=qh (Blk.new w0 #[.string ⟨#[]⟩,.int .u64 0,.int .u64 0] TF);have HXA:=qh hxa;have HBA:=qh hba;clear hba hxa hrow hcells hfr hf hdrop hfm hfb4;go_upto_region 5 with(refine wpList_store_row rfl TF (.tmp 7) (.tmp 22) rfl w0.heap.size #[.string ⟨f.name.toArray⟩,.int .u64 (f.era:Int),.int .u64 (f.first:Int)] rfl rfl _ _ HZ.out zdI rfl (by simp[Value.oneCell']) ?_);generalize (w0.alloc (.cells #[.string ⟨#[]⟩,.int .u64 0,.int .u64 0] TF)).setRow w0.heap.size #[.string ⟨f.name.toArray⟩,.int .u64 (f.era:Int),.int .u64 (f.first:Int)]=w1 at *;have HX1:=qh (HD.out.lx.below HBA.out);have NX:Hid (∀v,Below w1.heap.size w1 v->Calls Tryz.prog 81 #[.pointer (some ⟨p,0,none⟩)] v fun e w'=>e=.returned (.int .u64 (lk.next:Int))/\∃m,w'=v.drewN m):=qh (fun v hv=>xM (HX1.out.blk.kept hv) lk.first lk.recs.length rc RA rfl rfl (by have:=HD.out.nx;unfold Lg.next at this;omega));obtain⟨N,hN⟩:∃N,N=lk.next:=⟨_,rfl⟩;rw[<-hN] at NX;obtain⟨ns,hns⟩:∃ns,ns=lk.segs.length:=⟨_,rfl⟩;have e1:w1.cell? ⟨p,1,none⟩=some (.int .u64 (lk.era:Int)):=HX1.out.blk.cell 1 rfl;have e2:w1.cell? ⟨p,2,none⟩=some (.slice SA ns sc):=(by rw[hns];exact HX1.out.blk.cell 2 rfl);have hnsb:ns<=5000:=(by have:=HD.out.sl;omega);clear d0 d1 d2;simp only[Act.put];go_cut [48] (fun s48 wx=>s48=.bool (unfit lk wh f)/\Hid (Below w1.heap.size w1 wx))
   case first =>
    by_cases hera:f.era=lk.era
    ·have f1:w1.cell? ⟨w0.heap.size,1,none⟩=some (.int .u64 (lk.era:Int)):=(by rw[<-hera];exact HXA.out.cell 1 rfl);cases wh with
     | false =>
      have HU:=qh (show unfit lk false f=true by simp[unfit]);clear hera
      go_quiet (first | (go_at_call 81;exact Calls.quiet_of (NX.out _ (zl (Below.refl _ _) _))) | fail)
      go_wp2_with fail
      go_meet
      exact⟨by rw[HU.out],qh (zl (Below.refl _ _) _)⟩
     | true =>
      by_cases h0:ns=0
      ·have HU:=qh (show unfit lk true f=false by
        have:lk.segs=[]:=List.eq_nil_of_length_eq_zero (by omega);simp[unfit,this,hera])
       have e3:w1.cell? ⟨p,2,none⟩=some (.slice SA 0 sc):=(by rw[h0] at e2;exact e2);clear hera h0 e2 hns
       go_quiet (first | (go_at_call 81;exact Calls.quiet_of (NX.out _ (zl (Below.refl _ _) _))) | fail)
       go_wp2_with fail
       go_meet
       exact⟨by rw[HU.out],qh (zl (Below.refl _ _) _)⟩
      ·have hgt:decide (0<ns)=true:=(by simp;omega);have hne:lk.segs≠[]:=(by intro e;rw[e] at hns;exact h0 hns);by_cases hnx:f.first=N
       ·have f2:w1.cell? ⟨w0.heap.size,2,none⟩=some (.int .u64 (N:Int)):=(by rw[<-hnx];exact HXA.out.cell 2 rfl);have HU:=qh (show unfit lk true f=false by simp[unfit,hera,hnx,hN]);clear hera h0 hns hne hnx hN
        go_quiet (first | (go_at_call 81;exact Calls.quiet_of (NX.out _ (zl (Below.refl _ _) _))) | fail)
        go_wp2_with fail
        go_meet
        exact⟨by rw[HU.out],qh (zl (Below.refl _ _) _)⟩
       ·have f2:w1.cell? ⟨w0.heap.size,2,none⟩=some (.int .u64 (f.first:Int)):=HXA.out.cell 2 rfl;have hnb:((f.first:Int) != (N:Int))=true:=(by simpa using fun e:(f.first:Int)=(N:Int)=>hnx (by omega));have HU:=qh (show unfit lk true f=true by rw[hN] at hnx;simp[unfit,hne,hnx]);clear hera h0 hns hne hnx hN
        go_quiet (first | (go_at_call 81;exact Calls.quiet_of (NX.out _ (zl (Below.refl _ _) _))) | fail)
        go_wp2_with fail
        go_meet
        exact⟨by rw[HU.out],qh (zl (Below.refl _ _) _)⟩
    ·have f1:w1.cell? ⟨w0.heap.size,1,none⟩=some (.int .u64 (f.era:Int)):=HXA.out.cell 1 rfl;have hnb:((f.era:Int) != (lk.era:Int))=true:=(by simpa using fun e:(f.era:Int)=(lk.era:Int)=>hera (by omega));have HU:=qh (show unfit lk wh f=true by simp[unfit,hera]);clear hera
     go_quiet (first | (go_at_call 81;exact Calls.quiet_of (NX.out _ (zl (Below.refl _ _) _))) | fail)
     go_wp2_with fail
     go_meet
     exact⟨by rw[HU.out],qh (zl (Below.refl _ _) _)⟩
   case rest =>
    obtain⟨rfl,HB1⟩:=hcut;obtain⟨w2,hw2⟩:∃w2,w2=wc:=⟨_,rfl⟩;subst hw2;have HX2:=qh (HX1.out.below HB1.out);have HXA2:=qh (HXA.out.kept HB1.out);have HBA2:Hid (Below w0.heap.size w0 w2):=qh (HBA.out.trans (HB1.out.mono HBA.out.size));have HM2:Hid (Mods (fun b=>S b\/F b) w w2):=qh (HD.out.mods.below HBA2.out);have hs2:w.heap.size<=w2.heap.size:=HM2.out.size;clear e1 e2 HX1 HXA HBA HB1 NX hN hns;by_cases hu:unfit lk wh f=true
    ·-- DEV{
     rw[hu];have hreq:r=if (rmD Dk f.name).1≠0 then((rmD Dk f.name).1,lk,(rmD Dk f.name).2) else loadF (fs.drop (i+1)) lk wh (rmD Dk f.name).2:=by
      rw[HD.out.eq,HFB.out.2.1]
      conv=>lhs;unfold loadF
      rw[if_pos hu]
     obtain⟨q1,hq1⟩:∃q1,q1=rmD Dk f.name:=⟨_,rfl⟩;rw[<-hq1] at hreq;have HRQ:=qh hreq;have HQ1:=qh hq1;have HUF:=qh hu;have CU:Hid (∀v,Below w2.heap.size w2 v->Calls Tryz.prog 31 #[.pointer (some ⟨g,0,none⟩),.string ⟨f.name.toArray⟩] v (PDone S' v g q1.2 (.int .i64 q1.1))):=qh (fun v hv=>by
      have h:=xX f.name (HX2.out.below hv).lb.di (by have:=HD.out.cnt;omega) (by omega);rw[show changeD Dk ⟨3,f.name,0,[]⟩ 0=q1 from hq1.symm] at h;exact h)
     clear hreq hq1 hu;go_upto_region 6 with fail;refine zf (by kernel_rfl) [(0,none),(1,none),(2,none),(3,none),(4,none),(5,none),(6,some [3,5]),(7,none)] (by kernel_rfl) (by kernel_rfl) (by decide) ?_;intro wq hwq;have hBq:Below w2.heap.size w2 wq:=(by rw[hwq];exact(Below.refl _ _).drew);have HXQ:=qh (HX2.out.below hBq);have HMQ:Hid (Mods (fun b=>S b\/F b) w wq):=qh (HM2.out.below hBq);have hszq:w2.heap.size<=wq.heap.size:=hBq.size;have CUQ:=qh (CU.out wq hBq);have y0:wq.cell? ⟨p,0,none⟩=some (.pointer (some ⟨g,0,none⟩)):=HXQ.out.blk.cell 0 rfl;have n0:wq.cell? ⟨w0.heap.size,0,none⟩=some (.string ⟨f.name.toArray⟩):=(HXA2.out.kept hBq).cell 0 rfl;clear hwq hBq HX2 HM2 CU;iterate 3 (refine zd ?_)
     refine ze [(⟨p,0,none⟩,.pointer (some ⟨g,0,none⟩))] ?_;iterate 1 (refine zd ?_)
     refine ze [(⟨w0.heap.size,0,none⟩,.string ⟨f.name.toArray⟩)] ?_;refine zh rfl (by rfl) (fun K hK=>?_)
     go_simp
     refine CUQ.out.mono ?_;rintro e w6 ⟨rfl,hd6,m6⟩;have HX6:=qh (HXQ.out.disk (Nat.le_trans hB (Nat.le_trans hs2 hszq)) hd6 m6);have HM6:Hid (Mods (fun b=>S b\/F b) w w6):=qh (HMQ.out.trans m6 (fun i hi=>(HD.out.ss i hi).imp .inl id));have HS6:Hid (∀b,Sx S' wq w6 b->S b\/w.heap.size<=b):=qh (fun b hb=>hb.elim (HD.out.ss b) (fun h=>.inr (Nat.le_trans hs2 (Nat.le_trans hszq h.1))));clear y0 n0 CUQ hd6 m6 HXQ HMQ;refine zg hK ?_;clear hK K;iterate 1 (refine zd ?_)
     refine zk ?_;generalize Sx S' wq w6=S6 at *;by_cases hq0:q1.1=0
     ·have hqb:(q1.1 == 0)=true:=(by simpa using hq0);have hnd:=HOK.out.nd;have HNX:Hid (LdAt B S F w p g fs r D.cnt w6 S6 F' lk q1.2 Z Y SA sc RA rc wh (i+1)):=qh (by
       have hd:=HD.out;have hrm:=HQ1.out;have hrm':(changeD Dk ⟨3,f.name,0,[]⟩ 0).1=0:=(by rw[show changeD Dk ⟨3,f.name,0,[]⟩ 0=q1 from hrm.symm];exact hq0);have hd1:=jd hrm';rw[show changeD Dk ⟨3,f.name,0,[]⟩ 0=q1 from hrm.symm] at hd1;refine⟨HX6.out,HS6.out,hd.ff,HM6.out,by have h:=HRQ.out;rw[if_neg (by rw[hq0];simp)] at h;exact h,?_,hd1.2,?_,Nat.le_trans hd.rl (by omega),Nat.le_trans hd.sl (by omega),Nat.le_trans hd.nx (by omega),fun he=>?_⟩
       ·intro f2 hf2;obtain⟨b2,hb2,hb2l⟩:=hd.ex f2 (by rw[HFB.out.2.1];exact List.mem_cons_of_mem _ hf2);refine⟨b2,?_,hb2l⟩;rw[hd1.1];unfold doF;rw[if_neg (by simp),if_neg (by simp),if_pos rfl,ji,if_neg (zal hnd HFB.out.2.1 hf2)];exact hb2
       ·have:q1.2.cnt<=Dk.cnt+1:=(by rw[hrm];unfold rmD;exact zV _ _ _);have:=hd.cnt;omega
       ·obtain⟨h1,f2,h2,h3⟩:=hd.emp he;refine⟨h1,f2,?_,h3⟩;rw[HFB.out.2.1] at h2
        rcases List.mem_cons.1 h2 with h4 | h4
        ·exfalso;subst h4;have:=HUF.out;rw[h1] at this;simp[unfit,he,h3] at this
        ·exact h4)
      clear HX6 HM6 HS6 HRQ HQ1 HD;rw[hq0];go_wp2_with fail;go_roundw
      case rel=>exact⟨_,_,_,_,_,_,_,_,_,_,wh,i+1,by omega,rfl,by go_num,HNX⟩
      case measure=>simp[intOf];omega
     ·have hqb:(q1.1 == 0)=false:=(by simpa using hq0);have HF:Hid (LDone B S F w p g (.int .i64 r.1) r.2.1 r.2.2 (.returned (.int .i64 q1.1)) w6):=qh (by
       rw[HRQ.out,if_pos hq0];exact⟨rfl,S6,F',⟨_,_,_,_,_,_,HX6.out⟩,HS6.out,HD.out.ff,HM6.out⟩)
      clear HX6 HM6 HS6 HRQ HQ1 HD hq0;go_wp2_with fail;go_ret;exact HF.out
    ·have hu':unfit lk wh f=false:=(by simpa using hu);rw[hu'];obtain⟨b,hb,hbl⟩:=HD.out.ex f (by rw[HFB.out.2.1];exact List.mem_cons_self ..);obtain⟨nr,hnr⟩:∃nr,nr=lk.recs.length:=⟨_,rfl⟩;obtain⟨ns,hns⟩:∃ns,ns=lk.segs.length:=⟨_,rfl⟩;have hnrb:nr<=3000000000:=(by have:=HD.out.rl;omega);have hnsb:ns<=5000:=(by have:=HD.out.sl;omega);obtain⟨l1,hl1⟩:∃l1:Lg,l1={ lk with first:=if lk.segs=[] then f.first else lk.first }:=⟨_,rfl⟩;have hl1s:l1.segs=lk.segs:=(by rw[hl1]);have hl1r:l1.recs=lk.recs:=(by rw[hl1]);have hreq:r=if stopF Dk f=b.length then loadF (fs.drop (i+1)) (takeF lk Dk f) true Dk else if (cutS Dk f.name (stopF Dk f)).1≠0 then((cutS Dk f.name (stopF Dk f)).1,takeF lk Dk f,(cutS Dk f.name (stopF Dk f)).2) else loadF (fs.drop (i+1)) (takeF lk Dk f) false (cutS Dk f.name (stopF Dk f)).2:=by
      rw[HD.out.eq,HFB.out.2.1]
      conv=>lhs;unfold loadF
      rw[if_neg (by rw[hu'];simp),hb]
      rfl
     have HRQ:=qh hreq;have HL1:=qh hl1;have HNR:=qh (And.intro hnr (And.intro hl1r (And.intro hns hl1s)));have HBF:=qh (And.intro hb HD.out.up);have hnl1:=qh (show ns=l1.segs.length by rw[hl1s];exact hns);have HM02:Hid (Mods (fun b=>S' b\/F' b) w0 w2):=qh (Mods.of_below HBA2.out);have HM2:Hid (Mods (fun b=>S' b\/F' b) w2 w2):=qh (Mods.refl _ _);have HTF:=qh HXA2.out;have HS0:Hid ((∀b,S' b->b<w0.heap.size)/\∀b,F' b->b<w0.heap.size):=qh ⟨fun b hb=>HD.out.lx.lb.di.bnd b hb,fun b hb=>(HD.out.lx.lb.bnd b hb).2⟩;have HSF:Hid ((∀b,S' b->b<w2.heap.size)/\∀b,F' b->b<w2.heap.size):=qh ⟨fun b hb=>Nat.lt_trans (HS0.out.1 b hb) HXA2.out.lt,fun b hb=>Nat.lt_trans (HS0.out.2 b hb) HXA2.out.lt⟩;have hB0:B<=w2.heap.size:=Nat.le_trans (Nat.le_trans hB HD.out.mods.size) (Nat.le_of_lt HXA2.out.lt);have hw0s:w0.heap.size<w2.heap.size:=HXA2.out.lt;clear hreq hu' hb hl1 hl1s hl1r hnr hns HBA2 hu hs2;go_upto_region 9 with fail;refine zf (by kernel_rfl) [(0,none),(1,none),(2,none),(3,none),(4,none),(5,none),(6,some [3,5]),(7,none),(8,none),(9,none),(10,none),(11,none)] (by kernel_rfl) (by kernel_rfl) (by decide) ?_;intro wq hwq;have hBq:Below w2.heap.size w2 wq:=(by rw[hwq];exact(Below.refl _ _).drew);have HXQ:=qh (HX2.out.below hBq);have HFQ:=qh (HXA2.out.kept hBq);have HMQ:Hid (Mods (fun b=>S' b\/F' b) w2 wq):=qh (HM2.out.below hBq);have hsq:w2.heap.size<=wq.heap.size:=hBq.size;have y0:wq.cell? ⟨p,0,none⟩=some (.pointer (some ⟨g,0,none⟩)):=HXQ.out.blk.cell 0 rfl;have yf:wq.cell? ⟨w0.heap.size,0,none⟩=some (.string ⟨f.name.toArray⟩):=HFQ.out.cell 0 rfl;clear hwq hBq HX2 HXA2 HM2;iterate 3 (refine zd ?_)
     refine ze [(⟨p,0,none⟩,.pointer (some ⟨g,0,none⟩))] ?_;iterate 1 (refine zd ?_)
     refine ze [(⟨w0.heap.size,0,none⟩,.string ⟨f.name.toArray⟩)] ?_;refine zh rfl (by rfl) (fun K hK=>?_)
     go_simp
     have hre:readE Dk f.name=0:=(by unfold readE;rw[HBF.out.2,HFB.out.1.2.2.2,HBF.out.1];rfl);have hrb:readB Dk f.name=b:=(by unfold readB;rw[if_pos hre,HBF.out.1];rfl);have RD:=zbu f.name HXQ.out.lb.di (by omega);unfold ReadEnd at RD;rw[hre,hrb] at RD;refine RD.mono ?_;rintro e w5 ⟨DA,dc,rfl,ho5,hb5⟩;have HX5:=qh (HXQ.out.below hb5);have HF5:=qh (HFQ.out.kept hb5);have HM5:Hid (Mods (fun b=>S' b\/F' b) w2 w5):=qh (HMQ.out.below hb5);have HO5:=qh (ho5.base_le (base':=w2.heap.size) (by omega));have hs5:w0.heap.size<w5.heap.size:=(by have:=hb5.size;omega);clear y0 yf ho5 hb5 HXQ HFQ HMQ RD hre hrb hsq;have y0:w5.cell? ⟨p,0,none⟩=some (.pointer (some ⟨g,0,none⟩)):=HX5.out.blk.cell 0 rfl;have yf:w5.cell? ⟨w0.heap.size,0,none⟩=some (.string ⟨f.name.toArray⟩):=HF5.out.cell 0 rfl;refine zg hK ?_;clear hK K;iterate 5 (refine zd ?_)
     refine zk ?_;clear y0 yf;go_upto_region 12 with fail;go_cut [77] (fun s77 wx=>s77=.bool (decide (ns=0))/\w5=wx)
     case first =>
      have e2:w5.cell? ⟨p,2,none⟩=some (.slice SA ns sc):=by
       have e:w5.cell? ⟨p,2,none⟩=some (.slice SA lk.segs.length sc):=HX5.out.blk.cell 2 rfl;rw[<-HNR.out.2.2.1] at e;exact e
      clear HX5 HF5 HO5 HM5 HRQ HNR hnl1;go_wp2_with fail
      go_meet
      refine⟨?_,rfl⟩;by_cases h0:ns=0
      ·rw[h0];rfl
      ·rw[decide_eq_false h0];congr 1;simpa using h0
     case rest =>
      obtain⟨rfl,rfl⟩:=hcut
      go_upto_if 77 with fail
      go_cut [] (fun wx=>Hid (LX B S' F' wx p g l1 Dk Z Y SA sc RA rc/\Blk wx w0.heap.size TF #[.string ⟨f.name.toArray⟩,.int .u64 (f.era:Int),.int .u64 (f.first:Int)]/\OB wx w2.heap.size DA dc b/\Mods (fun b=>S' b\/F' b) w2 wx))
      case first =>
       by_cases h0:ns=0
       ·rw[decide_eq_true h0];have h0':lk.segs=[]:=List.eq_nil_of_length_eq_zero (by rw[<-HNR.out.2.2.1];exact h0);have p4:w5.cell? ⟨p,4,none⟩=some (.int .u64 (lk.first:Int)):=HX5.out.blk.cell 4 rfl;have r4:w5.frozen? ⟨p,4,none⟩=false:=HX5.out.blk.free 4;have n2:w5.cell? ⟨w0.heap.size,2,none⟩=some (.int .u64 (f.first:Int)):=HF5.out.cell 2 rfl;have mp:Mods (·=p) w5 (w5.setCell ⟨p,4,none⟩ (.int .u64 (f.first:Int))):=(Mods.refl (·=p) w5).setCell ⟨p,_,none⟩ (.inl rfl) _;have HE:Hid (LX B S' F' (w5.setCell ⟨p,4,none⟩ (.int .u64 (f.first:Int))) p g l1 Dk Z Y SA sc RA rc/\Blk (w5.setCell ⟨p,4,none⟩ (.int .u64 (f.first:Int))) w0.heap.size TF #[.string ⟨f.name.toArray⟩,.int .u64 (f.era:Int),.int .u64 (f.first:Int)]/\OB (w5.setCell ⟨p,4,none⟩ (.int .u64 (f.first:Int))) w2.heap.size DA dc b/\Mods (fun b=>S' b\/F' b) w2 (w5.setCell ⟨p,4,none⟩ (.int .u64 (f.first:Int)))):=qh ⟨by
         rw[HL1.out,if_pos h0'];exact HX5.out.set 4 _ rfl rfl rfl,HF5.out.mods mp (HF5.out.ne HX5.out.blk (by decide)),HO5.out.mods mp (fun k hk e=>HO5.out.ne_blk HX5.out.blk (by decide) (by rw[hk,e])),HM5.out.trans mp (fun i hi=>.inl (.inr (by rw[hi];exact HX5.out.fp)))⟩
        clear h0 h0' mp HX5 HF5 HO5 HM5 HRQ HNR hnl1;go_wp2_with fail
        go_meet
        exact HE
       ·rw[decide_eq_false h0];have h0':lk.segs≠[]:=(by intro e;rw[HNR.out.2.2.1,e] at h0;exact h0 rfl);have HE:Hid (LX B S' F' w5 p g l1 Dk Z Y SA sc RA rc/\Blk w5 w0.heap.size TF #[.string ⟨f.name.toArray⟩,.int .u64 (f.era:Int),.int .u64 (f.first:Int)]/\OB w5 w2.heap.size DA dc b/\Mods (fun b=>S' b\/F' b) w2 w5):=qh ⟨by
         rw[HL1.out,if_neg h0'];exact HX5.out,HF5.out,HO5.out,HM5.out⟩
        clear h0 h0' HX5 HF5 HO5 HM5 HRQ HNR hnl1;go_wp2_with fail
        go_meet
        exact HE
      case rest =>
       obtain⟨w6,hw6⟩:∃w6,w6=wc:=⟨_,rfl⟩;subst hw6;clear HX5 HF5 HO5 HM5 hs5;have HX6:=qh hcut.out.1;have HF6:=qh hcut.out.2.1;have HO6:=qh hcut.out.2.2.1;have HM6:=qh hcut.out.2.2.2;have hsz6:w2.heap.size<=w6.heap.size:=HM6.out.size;clear hcut;have n0:w6.cell? ⟨w0.heap.size,0,none⟩=some (.string ⟨f.name.toArray⟩):=HF6.out.cell 0 rfl;have n2:w6.cell? ⟨w0.heap.size,2,none⟩=some (.int .u64 (f.first:Int)):=HF6.out.cell 2 rfl;go_upto_region 15 with fail;clear n0 n2;have hB6:B<=w6.heap.size:=Nat.le_trans hB0 hsz6;have hm1:OV (w6.alloc (.cells #[.int .i64 0] 3)) B 3 (some ⟨w6.heap.size,0,none⟩) 1 [.int .i64 0]:=OV.lit1 w6 hB6 _ _;have hq1:=Blk.new (w6.alloc (.cells #[.int .i64 0] 3)) #[.string ⟨f.name.toArray⟩,.int .u64 (f.first:Int),.slice (some ⟨w6.heap.size,0,none⟩) 1 1] TG;rw[show(w6.alloc (.cells #[.int .i64 0] 3)).heap.size=w6.heap.size+1 from by simp] at hq1;have hb8:Below w6.heap.size w6 ((w6.alloc (.cells #[.int .i64 0] 3)).alloc (.cells #[.string ⟨f.name.toArray⟩,.int .u64 (f.first:Int),.slice (some ⟨w6.heap.size,0,none⟩) 1 1] TG)):=((Below.refl _ _).alloc (Nat.le_refl _) _).alloc (by simp) _;have hsg8:SgAt ((w6.alloc (.cells #[.int .i64 0] 3)).alloc (.cells #[.string ⟨f.name.toArray⟩,.int .u64 (f.first:Int),.slice (some ⟨w6.heap.size,0,none⟩) 1 1] TG)) B ⟨f.name,f.first,[0]⟩ ⟨w6.heap.size+1,w6.heap.size,1⟩:=⟨hq1,hm1.alloc _,by simp⟩;have HSG8:=qh hsg8;have HB8:=qh hb8;clear hm1 hq1 hb8 hsg8;generalize (w6.alloc (.cells #[.int .i64 0] 3)).alloc (.cells #[.string ⟨f.name.toArray⟩,.int .u64 (f.first:Int),.slice (some ⟨w6.heap.size,0,none⟩) 1 1] TG)=w8 at *;have hsz8:w6.heap.size<=w8.heap.size:=HB8.out.size;obtain⟨i0,hi0,hz0,hz1,hz2⟩:=info_parts zcM;have hb9:Below w8.heap.size w8 (w8.alloc (.cells #[.pointer (some ⟨w6.heap.size+1,0,none⟩)] TP)):=(Below.refl _ _).alloc (Nat.le_refl _) _;have HL9:=qh ((Blk.new w8 #[.pointer (some ⟨w6.heap.size+1,0,none⟩)] TP).cell (j:=0) (v:=.pointer (some ⟨w6.heap.size+1,0,none⟩)) rfl);have HX9:=qh (HX6.out.below (HB8.out.trans (hb9.mono hsz8)));have HSG9:=qh (HSG8.out.below hb9);have HB9:=qh (HB8.out.trans (hb9.mono hsz8));have hsz9:B<=(w8.alloc (.cells #[.pointer (some ⟨w6.heap.size+1,0,none⟩)] TP)).heap.size:=Nat.le_trans hB6 HB9.out.size;obtain⟨zs,hzs⟩:∃zs,zs=Z.map ptrV:=⟨_,rfl⟩;have hzl:zs.length=ns:=by
        have e:=HX9.out.lens.1;rw[hzs,List.length_map,hnl1.out,<-e]
       have hzb:zs.length<=5000:=(by omega);have HSV:Hid (OV (w8.alloc (.cells #[.pointer (some ⟨w6.heap.size+1,0,none⟩)] TP)) B TP SA sc zs):=qh (by rw[hzs];exact HX9.out.lb.sv);have e2:w8.cell? ⟨p,2,none⟩=some (.slice SA zs.length sc):=by
        have e:w8.cell? ⟨p,2,none⟩=some (.slice SA l1.segs.length sc):=(HX6.out.blk.kept HB8.out).cell 2 rfl;rw[<-hnl1.out,<-hzl] at e;exact e
       have HZS:=qh hzs;have HZL:=qh hzl;clear hb9 hzs hzl;go_wp2_with (at_builtin;go_loud (refine yP _ rfl (.tmp 94) (.tmp 96) 117 TP rfl Tryz.underlying117 hi0 hz0 hz1 hz2 rfl B SA sc 1 w8.heap.size zs (.pointer (some ⟨w6.heap.size+1,0,none⟩)) rfl rfl HSV.out HL9.out rfl (by omega) (by omega) hsz9 ?_));intro ys m g8 c8 w10 hys hm8 ho8 hk8 hg8 hat8;subst hm8;have hat9:SA.map (·.block)=some g8\/g8=(w8.alloc (.cells #[.pointer (some ⟨w6.heap.size+1,0,none⟩)] TP)).heap.size:=by
        rcases hat8 with⟨a,e1,e2⟩ | e1
        ·exact .inl (by rw[e1,<-e2];rfl)
        ·exact .inr (by rw[e1];simp)
       have m8:=Mods.of_grown (S:=fun x=>SA.map (·.block)=some x) hg8 (fun _ h=>h);have hp8:=HX9.out.blk.mods m8 (HX9.out.lb.sv.ne_blk HX9.out.blk (by decide));have hO10:=(HO6.out.below HB9.out).mods m8 (fun k hk e=>by
        obtain⟨cs,hb⟩:=(HO6.out.below HB9.out).blk k hk;exact HX9.out.lb.sv.ne_blk hb (by decide) e)
       have HADD:=qh (HX9.out.addNew (n0:=w6.heap.size) (n:=zs.length+1) HSG9.out ⟨by show w6.heap.size<=w6.heap.size+1;omega,Nat.le_refl _⟩ hB6 (fun b hb=>HX6.out.lb.di.bnd b hb) (fun b hb=>(HX6.out.lb.bnd b hb).2) HB9.out.size hg8 (by rw[<-HZS.out];exact ho8) hat9 (by rw[HZL.out,hnl1.out]));have mp:Mods (·=p) w10 (w10.setCell ⟨p,2,none⟩ (.slice (some ⟨g8,0,none⟩) (zs.length+1) c8)):=(Mods.refl (·=p) w10).setCell ⟨p,_,none⟩ (.inl rfl) _;have HO11:=qh (hO10.mods mp (fun k hk e=>hO10.ne_blk hp8 (by decide) (by rw[hk,e])));have HM11:Hid (Mods (fun b=>S' b\/F' b) w2 (w10.setCell ⟨p,2,none⟩ (.slice (some ⟨g8,0,none⟩) (zs.length+1) c8))):=qh (((HM6.out.trans (Mods.of_below (S:=fun b=>S' b\/F' b) HB9.out) (fun i hi=>.inl hi)).trans m8 (fun i hi=>.inl (.inr (HX9.out.lb.fs i hi)))).trans mp (fun i hi=>.inl (.inr (by rw[hi];exact HX9.out.fp))));have HF11:Hid (Blk (w10.setCell ⟨p,2,none⟩ (.slice (some ⟨g8,0,none⟩) (zs.length+1) c8)) w0.heap.size TF #[.string ⟨f.name.toArray⟩,.int .u64 (f.era:Int),.int .u64 (f.first:Int)]):=qh (by
        have h1:=HF6.out.kept HB9.out;have h2:=h1.mods m8 (HX9.out.lb.sv.ne_blk h1 (by decide));exact h2.mods mp (h2.ne hp8 (by decide)))
       have y2:w10.cell? ⟨p,2,none⟩=some (.slice SA zs.length sc):=by
        have e:w10.cell? ⟨p,2,none⟩=some (.slice SA l1.segs.length sc):=hp8.cell 2 rfl;rw[<-hnl1.out,<-HZL.out] at e;exact e
       have f2:w10.frozen? ⟨p,2,none⟩=false:=hp8.free 2;clear hys hk8 ho8 hg8 hat8 hat9 hO10 mp m8 HSG9 HSG8 HL9 HSV HX9 e2;go_upto_block 2 with fail
       have hsz11:w2.heap.size<=w10.heap.size:=(by have:=HM11.out.size;simpa using this);have HSC:Hid (ScanG B S' F' w2 p g l1 Dk Z f b DA dc (w6.heap.size+1) 0 0 w6.heap.size 1 (w10.setCell ⟨p,2,none⟩ (.slice (some ⟨g8,0,none⟩) (zs.length+1) c8))):=qh (by
        have hx:=HADD.out;have hm:=HX6.out.zs;refine⟨⟨fun x=>F' x\/(w6.heap.size<=x/\x<w10.heap.size),Y,some ⟨g8,0,none⟩,c8,RA,rc,⟨?_,HO11.out,HM11.out,fun x hx=>hx.imp id (fun h=>by omega)⟩⟩,rfl,⟨b.length,by rw[List.drop_zero,List.drop_zero];rfl,by omega⟩,⟨by omega,by omega⟩,⟨Nat.zero_le _,Nat.zero_le _⟩⟩;simp only[List.take_zero,List.append_nil];rw[<-hm] at hx;exact hx)
       clear HADD HO11 HM11 y2 f2 hp8 HO6 HF6 HX6 HM6 HB9 HB8 hB6 hsz6 hsz8 hsz9 hsz11 HZS HZL hzb;generalize w10.setCell ⟨p,2,none⟩ (.slice (some ⟨g8,0,none⟩) (zs.length+1) c8)=w12 at *;generalize w6.heap.size+1=q0 at *;generalize w6.heap.size=mb0 at *;go_cut [] (fun wx=>Hid (∃j x MB MC,ScanG B S' F' w2 p g l1 Dk Z f b DA dc q0 j x MB MC wx/\(scanF b f.first).1.drop j=[]/\(scanF b f.first).2.drop j=[]))
       case first =>
        go_wp2_with fail;go_loopw [] (fun wr=>∃(j x MB MC:Nat),Hid (ScanG B S' F' w2 p g l1 Dk Z f b DA dc q0 j x MB MC wr)) (fun wr=>match wr.cell? ⟨p,3,none⟩ with | some (.slice _ n _)=>b.length+nr - n | _=>0)
        case atStart=>exact⟨0,0,_,_,HSC⟩
        case round =>
         obtain⟨j,x,MB,MC,HS2⟩:=hrel;have hsc:=HS2.out;obtain⟨F2,Y',SA',sc',RA',rc',hso⟩:=hsc.sc;obtain⟨k,hk,hbk⟩:=hsc.rest;have hlow:=hsc.low;obtain⟨R,hR⟩:∃R,R=(scanF b f.first).1.take j:=⟨_,rfl⟩;obtain⟨M,hM⟩:∃M,M=(scanF b f.first).2.take j:=⟨_,rfl⟩;have hjl:=hsc.jl;have hRl:(l1.recs++R).length=nr+j:=(by rw[List.length_append,hR,List.length_take,HNR.out.2.1,<-HNR.out.1];omega);have hMl:M.length=j:=(by rw[hM,List.length_take];omega);have hst:Sg.stop ⟨f.name,f.first,0::M⟩=x:=(by rw[hM];exact hsc.stop);have hnxt:Sg.next ⟨f.name,f.first,0::M⟩=f.first+j:=(by unfold Sg.next;simp only[List.length_cons];omega);have hml:(0::M).length<=1000000000:=(by simp only[List.length_cons];omega);rw[<-hR,<-hM] at hso;have HSO:=qh hso;have hcap:=hso.data.cap;have SE:=qh (qO (hso.lx.lb.sg (⟨f.name,f.first,0::M⟩,⟨q0,MB,MC⟩) (by simp)) hml);rw[hst] at SE;by_cases hlt:x<b.length
         ·have hltI:(x:Int)<(b.length:Int):=by omega
          rcases hrec:recAt b x (f.first+j) with _ | ⟨rr,nx⟩
          ·have HRM:=qh (And.intro hR hM);have HEND:=qh (And.intro hsc (zdn hk (.inr hrec)));clear hsc hso hk hbk hR hM HS2 HSC hjl HRQ;go_wp2_with (go_at_call 96;refine SE.out.mono ?_);first | rintro e w13 rfl n1 rfl | rintro e w13 ⟨rfl,n1,rfl⟩
           have HSO1:=qh (HSO.out.below (zl (Below.refl _ _) n1));have hs13:wr.heap.size<=(wr.drewN n1).heap.size:=(zl (Below.refl wr.heap.size wr) n1).size;clear SE HSO;generalize wr.drewN n1=w13 at *;have SE:=qh (qO (HSO1.out.lx.lb.sg (⟨f.name,f.first,0::M⟩,⟨q0,MB,MC⟩) (by simp)) hml);rw[hst] at SE;go_wp2_with (go_at_call 96;refine SE.out.mono ?_);first | rintro e w14 rfl n2 rfl | rintro e w14 ⟨rfl,n2,rfl⟩
           have HSO2:=qh (HSO1.out.below (zl (Below.refl _ _) n2));have hs14:wr.heap.size<=(w13.drewN n2).heap.size:=Nat.le_trans hs13 (zl (Below.refl w13.heap.size w13) n2).size;clear SE HSO1;generalize w13.drewN n2=w14 at *;have SN:=qh (zfh (HSO2.out.lx.lb.sg (⟨f.name,f.first,0::M⟩,⟨q0,MB,MC⟩) (by simp)) hml (by simp only[List.length_cons];omega));rw[hnxt] at SN;go_wp2_with (go_at_call 134;refine SN.out.mono ?_);first | rintro e w15 rfl n3 rfl | rintro e w15 ⟨rfl,n3,rfl⟩
           have HSO3:=qh (HSO2.out.below (zl (Below.refl _ _) n3));have hs15:wr.heap.size<=(w14.drewN n3).heap.size:=Nat.le_trans hs14 (zl (Below.refl w14.heap.size w14) n3).size;clear SN HSO2;generalize w14.drewN n3=w15 at *;have WR:=qh (zbZ DA dc b x (f.first+j) w15 HSO3.out.data.rb hcap.1 hcap.2 (by omega) (by omega));rw[hrec] at WR;go_wp2_with (go_at_call 133;refine WR.out.mono ?_);rintro e w16 ⟨hb16,A',n',c',x',rfl,hall⟩;have HFIN:=qh (HSO3.out.below hb16);clear HSO3 hall WR hb16;go_wp2_with fail
           go_meet
           refine qh ⟨j,x,MB,MC,⟨⟨F2,Y',SA',sc',RA',rc',?_⟩,HEND.out.1.stop,HEND.out.1.rest,HEND.out.1.low,HEND.out.1.jl⟩,HEND.out.2⟩;rw[<-HRM.out.1,<-HRM.out.2];exact HFIN.out
          ·obtain⟨e1,e2,k',hk',hbk'⟩:=zfg hk hbk hlt hrec;obtain⟨hn1,hn2,hr3⟩:=zdg hrec;have hj1:j<(scanF b f.first).1.length:=by
            rcases Nat.lt_or_ge j (scanF b f.first).1.length with h | h
            ·exact h
            ·rw[List.getElem?_eq_none h] at e1;cases e1
           have hj2:j<(scanF b f.first).2.length:=by
            rcases Nat.lt_or_ge j (scanF b f.first).2.length with h | h
            ·exact h
            ·rw[List.getElem?_eq_none h] at e2;cases e2
           have t1:Hid ((scanF b f.first).1.take (j+1)=R++[rr]):=qh (by rw[hR,List.take_add_one,e1];rfl);have t2:Hid ((scanF b f.first).2.take (j+1)=M++[nx]):=qh (by rw[hM,List.take_add_one,e2];rfl);have HNEW:Hid (∀F3 Y3 SA3 sc3 RA3 rc3 MB' MC' wy,ScanO B S' F' F3 w2 p g { l1 with segs:=Z.map Prod.fst++[⟨f.name,f.first,0::(M++[nx])⟩],recs:=l1.recs++R++[rr] } Dk (Z++[(⟨f.name,f.first,0::(M++[nx])⟩,⟨q0,MB',MC'⟩)]) Y3 SA3 sc3 RA3 rc3 b DA dc wy->ScanG B S' F' w2 p g l1 Dk Z f b DA dc q0 (j+1) nx MB' MC' wy):=qh (fun F3 Y3 SA3 sc3 RA3 rc3 MB' MC' wy h1=>⟨⟨F3,Y3,SA3,sc3,RA3,rc3,by rw[t1.out,t2.out,<-List.append_assoc];exact h1⟩,by rw[t2.out];rw[<-List.cons_append,List.getLastD_concat],⟨k',hk',hbk'⟩,⟨by omega,hn2⟩,⟨by omega,by omega⟩⟩);have hYl:Y'.length=nr+j:=(by rw[hso.lx.lens.2];exact hRl);have hm3:Hid (wr.cell? ⟨p,3,none⟩=some (.slice RA' (nr+j) rc')):=qh (by
            have e:wr.cell? ⟨p,3,none⟩=some (.slice RA' (l1.recs++R).length rc'):=hso.lx.blk.cell 3 rfl;rw[hRl] at e;exact e)
           have HJB:Hid (j+1<=b.length):=qh (by omega);have hj8:nr+j<=3100000000:=(by omega);have hWX:=qh hso.mods.size;have HDB:Hid (∀b,S' b->b<w2.heap.size):=qh HSF.out.1;clear hsc hso hk hbk hk' hbk' e1 e2 hj1 hj2 hR hM HS2 HSC hjl HRQ t1 t2;go_wp2_with (go_at_call 96;refine SE.out.mono ?_);first | rintro e w13 rfl n1 rfl | rintro e w13 ⟨rfl,n1,rfl⟩
           have HSO1:=qh (HSO.out.below (zl (Below.refl _ _) n1));have hs13:wr.heap.size<=(wr.drewN n1).heap.size:=(zl (Below.refl wr.heap.size wr) n1).size;clear SE HSO;generalize wr.drewN n1=w13 at *;have SE:=qh (qO (HSO1.out.lx.lb.sg (⟨f.name,f.first,0::M⟩,⟨q0,MB,MC⟩) (by simp)) hml);rw[hst] at SE;go_wp2_with (go_at_call 96;refine SE.out.mono ?_);first | rintro e w14 rfl n2 rfl | rintro e w14 ⟨rfl,n2,rfl⟩
           have HSO2:=qh (HSO1.out.below (zl (Below.refl _ _) n2));have hs14:wr.heap.size<=(w13.drewN n2).heap.size:=Nat.le_trans hs13 (zl (Below.refl w13.heap.size w13) n2).size;clear SE HSO1;generalize w13.drewN n2=w14 at *;have SN:=qh (zfh (HSO2.out.lx.lb.sg (⟨f.name,f.first,0::M⟩,⟨q0,MB,MC⟩) (by simp)) hml (by simp only[List.length_cons];omega));rw[hnxt] at SN;go_wp2_with (go_at_call 134;refine SN.out.mono ?_);first | rintro e w15 rfl n3 rfl | rintro e w15 ⟨rfl,n3,rfl⟩
           have HSO3:=qh (HSO2.out.below (zl (Below.refl _ _) n3));have hs15:wr.heap.size<=(w14.drewN n3).heap.size:=Nat.le_trans hs14 (zl (Below.refl w14.heap.size w14) n3).size;clear SN HSO2;generalize w14.drewN n3=w15 at *;have WR:=qh (zbZ DA dc b x (f.first+j) w15 HSO3.out.data.rb hcap.1 hcap.2 (by omega) (by omega));rw[hrec] at WR;go_wp2_with (go_at_call 133;refine WR.out.mono ?_);rintro e w16 ⟨hb16,A',n',c',x',rfl,hall⟩;obtain⟨rfl,rfl,hrb,hrk⟩:=hall rr nx rfl;have HSO4:=qh (HSO3.out.below hb16);have hs16:w15.heap.size<=w16.heap.size:=hb16.size;obtain⟨i0b,hi0b,hz0b,hz1b,hz2b⟩:=info_parts zft;have hb17:Below w16.heap.size w16 (w16.alloc (.cells #[.slice A' rr.length c'] TB)):=(Below.refl _ _).alloc (Nat.le_refl _) _;have HC17:=qh ((Blk.new w16 #[.slice A' rr.length c'] TB).cell (j:=0) (v:=.slice A' rr.length c') rfl);have HSO5:=qh (HSO4.out.below hb17);have HRB:=qh (hrb.below hb17);have HRK:Hid (0<rr.length->∀b,A'.map (·.block)=some b->w15.heap.size<=b/\∃cs,Blk (w16.alloc (.cells #[.slice A' rr.length c'] TB)) b 5 cs):=qh (fun h0 b hb=>by
            obtain⟨h1,cs,h2⟩:=hrk h0 b hb;exact⟨h1,cs,h2.kept hb17⟩)
           have hs17:B<=(w16.alloc (.cells #[.slice A' rr.length c'] TB)).heap.size:=(by have:=hb17.size;have:=HSO4.out.mods.size;omega);have hs17b:w15.heap.size<=(w16.alloc (.cells #[.slice A' rr.length c'] TB)).heap.size:=(by have:=hb17.size;omega);obtain⟨xs,hxs⟩:∃xs,xs=Y'.map recV:=⟨_,rfl⟩;have hxl:xs.length=nr+j:=(by rw[hxs,List.length_map,hYl]);have HSV:=HSO5.out.lx.lb.rv;rw[<-hxs] at HSV;have HSV2:=qh HSV;have c3:w16.cell? ⟨p,3,none⟩=some (.slice RA' xs.length rc'):=by
            have e:w16.cell? ⟨p,3,none⟩=some (.slice RA' (l1.recs++R).length rc'):=HSO4.out.lx.blk.cell 3 rfl;rw[hRl,<-hxl] at e;exact e
           have HXS:=qh hxs;have HXL:=qh hxl;have hxl8:xs.length<=3100000000:=(by omega);clear WR hall hrb hrk HSV hxs hxl HSO3 hb16 hb17 hst hnxt;go_wp2_with (at_builtin;go_loud (refine yP _ rfl (.tmp 121) (.tmp 123) 87 TB rfl Tryz.underlying87 hi0b hz0b hz1b hz2b rfl B RA' rc' 1 w16.heap.size xs (.slice A' rr.length c') rfl rfl HSV2.out HC17.out rfl (by omega) (by omega) hs17 ?_));intro ys m9 g9 c9 w18 hys hm9 ho9 hk9 hg9 hat9;subst hm9;have hat9':RA'.map (·.block)=some g9\/g9=(w16.alloc (.cells #[.slice A' rr.length c'] TB)).heap.size:=by
            rcases hat9 with⟨a,e1,e2⟩ | e1
            ·exact .inl (by rw[e1,<-e2];rfl)
            ·exact .inr (by rw[e1];simp)
           have hw0r:=hWX.out;have HADD:=qh (HSO5.out.addRead (n:=xs.length+1) (g8:=g9) (n0:=w15.heap.size) HRB.out HRK.out hB0 (by omega) hs17b (fun b hb=>by have:=HDB.out b hb;omega) hg9 (by rw[<-HXS.out];exact ho9) hat9' (by rw[HXL.out];exact congrArg (·+1) hRl.symm));have m9':=Mods.of_grown (S:=fun x=>RA'.map (·.block)=some x) hg9 (fun _ h=>h);have hp9:=HSO5.out.lx.blk.mods m9' (HSO5.out.lx.lb.rv.ne_blk HSO5.out.lx.blk (by decide));have y3:w18.cell? ⟨p,3,none⟩=some (.slice RA' xs.length rc'):=by
            have e:w18.cell? ⟨p,3,none⟩=some (.slice RA' (l1.recs++R).length rc'):=hp9.cell 3 rfl;rw[hRl,<-HXL.out] at e;exact e
           have f3:w18.frozen? ⟨p,3,none⟩=false:=hp9.free 3;clear hys ho9 hk9 hat9 hat9' m9' hp9 HSO5 HSO4 HRB HRK HC17 HSV2 hg9 c3;go_upto_region 20 with fail;clear y3 f3;generalize w18.setCell ⟨p,3,none⟩ (.slice (some ⟨g9,0,none⟩) (xs.length+1) c9)=w19 at *;obtain⟨i0,hi0,hz0,hz1,hz2⟩:=info_parts xP;have hsg:=HADD.out.lx.lb.sg (⟨f.name,f.first,0::M⟩,⟨q0,MB,MC⟩) (by simp);obtain⟨xm,hxm⟩:∃xm,xm=(0::M).map encMark:=⟨_,rfl⟩;have hxml:xm.length=j+1:=(by rw[hxm,List.length_map,List.length_cons,hMl]);have z2:w19.cell? ⟨q0,2,none⟩=some (.slice (some ⟨MB,0,none⟩) xm.length MC):=by
            have e:w19.cell? ⟨q0,2,none⟩=some (.slice (some ⟨MB,0,none⟩) (0::M).length MC):=hsg.blk.cell 2 rfl;rw[List.length_cons,hMl,<-hxml] at e;exact e
           have hb20:Below w19.heap.size w19 (w19.alloc (.cells #[.int .i64 (nx:Int)] 3)):=(Below.refl _ _).alloc (Nat.le_refl _) _;have HC20:=qh ((Blk.new w19 #[.int .i64 (nx:Int)] 3).cell (j:=0) (v:=.int .i64 (nx:Int)) rfl);have HSO6:=qh (HADD.out.below hb20);have HMV:=HSO6.out.lx.lb.sg (⟨f.name,f.first,0::M⟩,⟨q0,MB,MC⟩) (by simp);have HMR:=HMV.mr;rw[show(Sg.mk f.name f.first (0::M)).marks.map encMark=xm from hxm.symm] at HMR;have HMR2:=qh HMR;have HXM:=qh hxm;have HXML:=qh hxml;have hxm8:xm.length<=100000001:=(by omega);have hs20:B<=(w19.alloc (.cells #[.int .i64 (nx:Int)] 3)).heap.size:=Nat.le_trans hB0 HSO6.out.mods.size;clear hxm hxml HMR HMV hsg HADD hb20;go_wp2_with (at_builtin;go_loud (refine yP _ rfl (.tmp 131) (.tmp 133) 31 3 rfl Tryz.underlying31 hi0 hz0 hz1 hz2 rfl B (some ⟨MB,0,none⟩) MC 1 w19.heap.size xm (.int .i64 (nx:Int)) rfl rfl HMR2.out HC20.out rfl (by omega) (by omega) hs20 ?_));intro ys m10 g10 c10 w21 hys hm10 ho10 hk10 hg10 hat10;subst hm10;have hat11:some MB=some g10\/g10=(w19.alloc (.cells #[.int .i64 (nx:Int)] 3)).heap.size:=by
            rcases hat10 with e | e
            ·exact .inl (by rw[e])
            ·exact .inr (by rw[e];simp)
           have HAM:=qh (HSO6.out.addMark (Z1:=Z) (v:=nx) (n:=xm.length+1) rfl hg10 (by rw[show(Sg.mk f.name f.first (0::M)).marks.map encMark=xm from HXM.out.symm];exact ho10) (by rw[show(Sg.mk f.name f.first (0::M)).marks.map encMark=xm from HXM.out.symm];exact hk10) hat11 (by rw[HXML.out];show j+1+1=(0::M).length+1;rw[List.length_cons,hMl]) hB0);have mm:=Mods.of_grown (S:=fun x=>x=MB) hg10 (fun k e=>by injection e with e;exact e.symm);have hsg6:=HSO6.out.lx.lb.sg (⟨f.name,f.first,0::M⟩,⟨q0,MB,MC⟩) (by simp);obtain⟨csm,hmbk⟩:=hsg6.mblk;have hq21:=hsg6.blk.mods mm (hsg6.blk.ne hmbk (by decide));have z2:w21.cell? ⟨q0,2,none⟩=some (.slice (some ⟨MB,0,none⟩) xm.length MC):=by
            have e:w21.cell? ⟨q0,2,none⟩=some (.slice (some ⟨MB,0,none⟩) (0::M).length MC):=hq21.cell 2 rfl;rw[List.length_cons,hMl,<-HXML.out] at e;exact e
           have f2:w21.frozen? ⟨q0,2,none⟩=false:=hq21.free 2;have HNS:Hid (ScanG B S' F' w2 p g l1 Dk Z f b DA dc q0 (j+1) nx g10 c10 (w21.setCell ⟨q0,2,none⟩ (.slice (some ⟨g10,0,none⟩) (xm.length+1) c10))):=qh (HNEW.out _ _ _ _ _ _ _ _ _ HAM.out);have hm4:Hid (∃X c,(w21.setCell ⟨q0,2,none⟩ (.slice (some ⟨g10,0,none⟩) (xm.length+1) c10)).cell? ⟨p,3,none⟩=some (.slice X (nr+j+1) c)):=qh ⟨_,_,by
            have e:(w21.setCell ⟨q0,2,none⟩ (.slice (some ⟨g10,0,none⟩) (xm.length+1) c10)).cell? ⟨p,3,none⟩=some (.slice (some ⟨g9,0,none⟩) (l1.recs++R++[rr]).length c9):=HAM.out.lx.blk.cell 3 rfl;rw[show(l1.recs++R++[rr]).length=nr+j+1 from by rw[List.length_append,hRl];rfl] at e;exact e⟩
           clear hys ho10 hk10 hg10 hat10 hat11 mm hsg6 hmbk hq21 HSO6 HAM HMR2 HC20 HXM HXS hi0 hz0 hz1 hz2 hi0b hz0b hz1b hz2b HNEW;go_wp2_with fail;go_roundw
           case rel=>exact⟨j+1,nx,g10,c10,HNS⟩
           case measure =>
            obtain⟨X,c,e⟩:=hm4.out;have e0:=hm3.out;have:=HJB.out;simp only[e,e0];omega
         ·have hltI:¬(x:Int)<(b.length:Int):=(by omega);have HEND:=qh (And.intro hsc (zdn hk (.inl hlt)));have HRM:=qh (And.intro hR hM);clear hsc hso hk hbk hR hM HS2 HSC hjl HRQ;go_wp2_with (go_at_call 96;refine SE.out.mono ?_);first | rintro e w13 rfl n1 rfl | rintro e w13 ⟨rfl,n1,rfl⟩
          have HFIN:=qh (HEND.out.1.below (zl (Below.refl _ _) n1));clear SE HSO;go_wp2_with fail
          go_meet
          exact qh ⟨j,x,MB,MC,HFIN.out,HEND.out.2⟩
       case rest =>
        obtain⟨w20,hw20⟩:∃w20,w20=wc:=⟨_,rfl⟩;subst hw20;obtain⟨j,x,MB,MC,hsc,hd1,hd2⟩:=hcut.out;have e1:(scanF b f.first).1.take j=(scanF b f.first).1:=(by have:=List.take_append_drop j (scanF b f.first).1;rw[hd1,List.append_nil] at this;exact this);have e2:(scanF b f.first).2.take j=(scanF b f.first).2:=(by have:=List.take_append_drop j (scanF b f.first).2;rw[hd2,List.append_nil] at this;exact this);obtain⟨F2,Y',SA',sc',RA',rc',hso⟩:=hsc.sc;have hst:=hsc.stop;have hlow:=hsc.low;have hl1:(scanF b f.first).1.length<=j:=(by have:=congrArg List.length hd1;rw[List.length_drop] at this;simp at this;omega);have hl2:(scanF b f.first).2.length<=j:=(by have:=congrArg List.length hd2;rw[List.length_drop] at this;simp at this;omega);rw[e1,e2] at hso;rw[e2] at hst;obtain⟨lt,hlt⟩:∃lt,lt=takeF lk Dk f:=⟨_,rfl⟩;have hlt':lt={ lk with first:=(if lk.segs=[] then f.first else lk.first),segs:=lk.segs++[⟨f.name,f.first,0::(scanF b f.first).2⟩],recs:=lk.recs++(scanF b f.first).1 }:=(by rw[hlt];unfold takeF;rw[HBF.out.1];rfl);have hltx:({ l1 with segs:=Z.map Prod.fst++[⟨f.name,f.first,0::(scanF b f.first).2⟩],recs:=l1.recs++(scanF b f.first).1 }:Lg)=lt:=(by rw[hlt',HL1.out,HD.out.lx.zs]);rw[hltx] at hso;have hstop:stopF Dk f=x:=(by unfold stopF;rw[HBF.out.1];exact hst);have hreq:=HRQ.out;rw[hstop,<-hlt] at hreq;have HRE:=qh hreq;have HX20:=qh hso.lx;have FF2:Hid (∀b,F2 b->F b\/w.heap.size<=b):=qh (fun b hb=>(hso.ff b hb).elim (HD.out.ff b) (fun h=>.inr (Nat.le_trans (Nat.le_trans HD.out.mods.size HM02.out.size) h)));have HM20:Hid (Mods (fun b=>S b\/F b) w w20):=qh ((HD.out.mods.trans HM02.out (fun i hi=>by
         rcases hi with hi | hi
         ·exact(HD.out.ss i hi).imp .inl id
         ·exact(HD.out.ff i hi).imp .inr id)).trans hso.mods (fun i hi=>by
         rcases hi with hi | hi
         ·exact(HD.out.ss i hi).imp .inl id
         ·exact(HD.out.ff i hi).imp .inr id))
        have HF20:=qh (HTF.out.mods hso.mods (fun h=>h.elim (fun h=>Nat.lt_irrefl _ (HS0.out.1 _ h)) (fun h=>Nat.lt_irrefl _ (HS0.out.2 _ h))));have hml:(0::(scanF b f.first).2).length<=1000000000:=(by simp only[List.length_cons];omega);have hstz:Sg.stop ⟨f.name,f.first,0::(scanF b f.first).2⟩=x:=hst;have SE:=qh (qO (hso.lx.lb.sg (⟨f.name,f.first,0::(scanF b f.first).2⟩,⟨q0,MB,MC⟩) (by simp)) hml);rw[hstz] at SE;have HLN:Hid (lt.recs.length<=(i+1)*600000/\lt.segs.length<=i+1/\lt.next<=1000000000000+(i+1)*600000/\lt.segs≠[]):=qh (by
         have h1:=HD.out.rl;have h2:=HD.out.sl;have h3:=HD.out.nx;rw[hlt'];unfold Lg.next at h3 ⊢;simp only[List.length_append,List.length_cons,List.length_nil];refine⟨by omega,by omega,?_,by simp⟩;split<;>omega)
        clear hcut hsc hd1 hd2 e1 e2 hso hltx hlt hlt' hstop hreq HRQ HL1 HNR hst hl1 hl2;by_cases hx:x=b.length
        ·subst hx;have HNX:Hid (∀v,Below w20.heap.size w20 v->LdAt B S F w p g fs r D.cnt v S' F2 lt Dk (Z++[(⟨f.name,f.first,0::(scanF b f.first).2⟩,⟨q0,MB,MC⟩)]) Y' SA' sc' RA' rc' true (i+1)):=qh (fun v hv=>by
          have hd:=HD.out;exact⟨HX20.out.below hv,hd.ss,FF2.out,HM20.out.below hv,by have h:=HRE.out;rw[if_pos rfl] at h;exact h,fun f2 hf2=>hd.ex f2 (by rw[HFB.out.2.1];exact List.mem_cons_of_mem _ hf2),hd.up,Nat.le_trans hd.cnt (by omega),HLN.out.1,HLN.out.2.1,HLN.out.2.2.1,fun he=>absurd he HLN.out.2.2.2⟩)
         clear HX20 HM20 FF2 HRE HLN HD HBF hstz;go_wp2_with (go_at_call 96;refine SE.out.mono ?_);first | rintro e w13 rfl n1 rfl | rintro e w13 ⟨rfl,n1,rfl⟩
         have HNX2:=qh (HNX.out _ (zl (Below.refl _ _) n1));clear SE HNX;go_wp2_with fail;go_roundw
         case rel=>exact⟨_,_,_,_,_,_,_,_,_,_,true,i+1,by omega,rfl,by go_num,HNX2⟩
         case measure=>simp[intOf];omega
        ·have hxb:((x:Int) == (b.length:Int))=false:=(by simpa using fun e:(x:Int)=(b.length:Int)=>hx (by omega));obtain⟨q1,hq1⟩:∃q1,q1=cutS Dk f.name x:=⟨_,rfl⟩;have hr2:r=if q1.1≠0 then(q1.1,lt,q1.2) else loadF (fs.drop (i+1)) lt false q1.2:=(by rw[HRE.out,if_neg hx,<-hq1]);have HR2:=qh hr2;have HQ1:=qh hq1;have hs20:w.heap.size<=w20.heap.size:=HM20.out.size;have CU:Hid (∀v,Below w20.heap.size w20 v->Calls Tryz.prog 94 #[.pointer (some ⟨g,0,none⟩),.string ⟨f.name.toArray⟩,.int .i64 (x:Int)] v (PDone S' v g q1.2 (.int .i64 q1.1))):=qh (fun v hv=>by
          have h:=diskCutC f.name (x:Int) (HX20.out.below hv).lb.di (by have:=HD.out.cnt;omega) (by omega) (by omega);rw[show changeD Dk ⟨2,f.name,(x:Int).toNat,[]⟩ (x:Int)=q1 from hq1.symm] at h;exact h)
         clear hr2 hq1 HRE hx hw0s;go_wp2_with (go_at_call 96;refine SE.out.mono ?_);first | rintro e w13 rfl n1 rfl | rintro e w13 ⟨rfl,n1,rfl⟩
         have hb13:Below w20.heap.size w20 (w20.drewN n1):=zl (Below.refl _ _) n1;have HB13:=qh hb13;have HX13:=qh (HX20.out.below hb13);have HF13:=qh (HF20.out.kept hb13);have HM13:Hid (Mods (fun b=>S b\/F b) w (w20.drewN n1)):=qh (HM20.out.below hb13);have hs13:w20.heap.size<=(w20.drewN n1).heap.size:=hb13.size;clear SE HX20 HF20 HM20 hb13;generalize w20.drewN n1=w13 at *;go_upto_region 23 with fail;refine zf (by kernel_rfl) [(0,none),(1,none),(2,none),(3,none),(4,none),(5,none),(6,none),(7,some [6]),(8,some [3,5]),(9,none)] (by kernel_rfl) (by kernel_rfl) (by decide) ?_;intro wq hwq;have hBq:Below w13.heap.size w13 wq:=(by rw[hwq];exact(Below.refl _ _).drew);have HXQ:=qh (HX13.out.below hBq);have HFQ:=qh (HF13.out.kept hBq);have HMQ:Hid (Mods (fun b=>S b\/F b) w wq):=qh (HM13.out.below hBq);have HBQ:Hid (Below w20.heap.size w20 wq):=qh (HB13.out.trans (hBq.mono hs13));have hsq:w13.heap.size<=wq.heap.size:=hBq.size;have SEQ:=qh (qO (HXQ.out.lb.sg (⟨f.name,f.first,0::(scanF b f.first).2⟩,⟨q0,MB,MC⟩) (by simp)) hml);rw[hstz] at SEQ;have y0:wq.cell? ⟨p,0,none⟩=some (.pointer (some ⟨g,0,none⟩)):=HXQ.out.blk.cell 0 rfl;have n0:wq.cell? ⟨w0.heap.size,0,none⟩=some (.string ⟨f.name.toArray⟩):=HFQ.out.cell 0 rfl;clear hwq hBq HX13 HF13 HM13 HB13;iterate 3 (refine zd ?_)
         refine ze [(⟨p,0,none⟩,.pointer (some ⟨g,0,none⟩))] ?_;iterate 1 (refine zd ?_)
         refine ze [(⟨w0.heap.size,0,none⟩,.string ⟨f.name.toArray⟩)] ?_;iterate 1 (refine zd ?_)
         refine zh rfl (by rfl) (fun K hK=>?_)
         go_simp
         refine SEQ.out.mono ?_;first | rintro e w5 rfl n2 rfl | rintro e w5 ⟨rfl,n2,rfl⟩
         have hb5:Below wq.heap.size wq (wq.drewN n2):=zl (Below.refl _ _) n2;have HX5:=qh (HXQ.out.below hb5);have HF5:=qh (HFQ.out.kept hb5);have HM5:Hid (Mods (fun b=>S b\/F b) w (wq.drewN n2)):=qh (HMQ.out.below hb5);have CU5:=qh (CU.out _ (HBQ.out.trans (hb5.mono HBQ.out.size)));have hs5:wq.heap.size<=(wq.drewN n2).heap.size:=hb5.size;clear y0 n0 hb5 HXQ HFQ HMQ SEQ HBQ CU;generalize wq.drewN n2=w5 at *;have y0:w5.cell? ⟨p,0,none⟩=some (.pointer (some ⟨g,0,none⟩)):=HX5.out.blk.cell 0 rfl;have n0:w5.cell? ⟨w0.heap.size,0,none⟩=some (.string ⟨f.name.toArray⟩):=HF5.out.cell 0 rfl;refine zg hK ?_;clear hK K;refine zh rfl (by rfl) (fun K hK=>?_)
         go_simp
         refine CU5.out.mono ?_;rintro e w6 ⟨rfl,hd6,m6⟩;have HX6:=qh (HX5.out.disk (by omega) hd6 m6);have HM6:Hid (Mods (fun b=>S b\/F b) w w6):=qh (HM5.out.trans m6 (fun i hi=>(HD.out.ss i hi).imp .inl id));have HS6:Hid (∀b,Sx S' w5 w6 b->S b\/w.heap.size<=b):=qh (fun b hb=>hb.elim (HD.out.ss b) (fun h=>.inr (by have:=h.1;omega)));clear y0 n0 CU5 hd6 m6 HX5 HM5 HF5;refine zg hK ?_;clear hK K;iterate 1 (refine zd ?_)
         refine zk ?_;generalize Sx S' w5 w6=S6 at *;by_cases hq0:q1.1=0
         ·have hqb:(q1.1 == 0)=true:=(by simpa using hq0);have hnd:=HOK.out.nd;have HNX:Hid (LdAt B S F w p g fs r D.cnt w6 S6 F2 lt q1.2 (Z++[(⟨f.name,f.first,0::(scanF b f.first).2⟩,⟨q0,MB,MC⟩)]) Y' SA' sc' RA' rc' false (i+1)):=qh (by
           have hd:=HD.out;have hq:=HQ1.out;have hc':(changeD Dk ⟨2,f.name,x,[]⟩ (x:Int)).1=0:=(by rw[show changeD Dk ⟨2,f.name,x,[]⟩ (x:Int)=q1 from hq.symm];exact hq0);have hd1:=jd hc';rw[show changeD Dk ⟨2,f.name,x,[]⟩ (x:Int)=q1 from hq.symm] at hd1;refine⟨HX6.out,HS6.out,FF2.out,HM6.out,by have h:=HR2.out;rw[if_neg (by rw[hq0];simp)] at h;exact h,?_,hd1.2,?_,HLN.out.1,HLN.out.2.1,HLN.out.2.2.1,fun he=>absurd he HLN.out.2.2.2⟩
           ·intro f2 hf2;obtain⟨b2,hb2,hb2l⟩:=hd.ex f2 (by rw[HFB.out.2.1];exact List.mem_cons_of_mem _ hf2);refine⟨b2,?_,hb2l⟩;rw[hd1.1];unfold doF;rw[if_neg (by simp),if_pos rfl,xC,if_neg (zal hnd HFB.out.2.1 hf2)];exact hb2
           ·have:q1.2.cnt<=Dk.cnt+1:=(by rw[hq];unfold cutS;exact zV _ _ _);have:=hd.cnt;omega)
          clear HX6 HM6 HS6 HR2 HQ1 HD HLN FF2;rw[hq0];go_wp2_with fail;go_roundw
          case rel=>exact⟨_,_,_,_,_,_,_,_,_,_,false,i+1,by omega,rfl,by go_num,HNX⟩
          case measure=>simp[intOf];omega
         ·have hqb:(q1.1 == 0)=false:=(by simpa using hq0);have HFN:Hid (LDone B S F w p g (.int .i64 r.1) r.2.1 r.2.2 (.returned (.int .i64 q1.1)) w6):=qh (by
           rw[HR2.out,if_pos hq0];exact⟨rfl,S6,F2,⟨_,_,_,_,_,_,HX6.out⟩,HS6.out,FF2.out,HM6.out⟩)
          clear HX6 HM6 HS6 HR2 HQ1 HD HLN FF2 hq0;go_wp2_with fail;go_ret;exact HFN.out
  ·obtain rfl:i=fs.length:=(by omega);have hne:lk.segs≠[]:=fun e=>by
    obtain⟨_,f,hf,_⟩:=HD.out.emp e;rw[List.drop_length] at hf;exact absurd hf (by simp)
   have hreq:r=((syncD Dk).1,lk,(syncD Dk).2):=by
    rw[HD.out.eq,List.drop_length];unfold loadF;rw[if_neg hne]
   have HRE:=qh hreq;obtain⟨ns,hns⟩:∃ns,ns=lk.segs.length:=⟨_,rfl⟩;have hnz:ns≠0:=(by rw[hns];exact fun e=>hne (List.eq_nil_of_length_eq_zero e));have hnb:((ns:Int) == 0)=false:=(by simpa using hnz);have c2:w0.cell? ⟨p,2,none⟩=some (.slice SA ns sc):=by
    have e:w0.cell? ⟨p,2,none⟩=some (.slice SA lk.segs.length sc):=HD.out.lx.blk.cell 2 rfl;rw[<-hns] at e;exact e
   have y0:w0.cell? ⟨p,0,none⟩=some (.pointer (some ⟨g,0,none⟩)):=HD.out.lx.blk.cell 0 rfl;have SY:=qh (xB HD.out.lx.lb.di (by have:=HD.out.cnt;omega));clear hreq hne hns hnz;go_wp2_with (go_at_call 90;refine SY.out.mono ?_);rintro e w13 ⟨rfl,hd13,m13⟩;have HF:Hid (LDone B S F w p g (.int .i64 r.1) r.2.1 r.2.2 (.returned (.int .i64 (syncD Dk).1)) w13):=qh (by
    have hd:=HD.out;have hsz:=hd.mods.size;have hx:=hd.lx.disk (Nat.le_trans hB hsz) hd13 m13;rw[HRE.out];refine⟨rfl,_,_,⟨_,_,_,_,_,_,hx⟩,fun b hb=>?_,hd.ff,hd.mods.trans m13 (fun i hi=>(hd.ss i hi).imp .inl id)⟩
    rcases hb with hb | hb
    ·exact hd.ss b hb
    ·exact .inr (by have:=hb.1;omega))
   clear HRE HD SY c2 y0 hd13 m13;go_wp2_with fail;go_ret;exact HF.out
end
end Go.Proofs.YtobdmlejabjmiaaGreatDoor
