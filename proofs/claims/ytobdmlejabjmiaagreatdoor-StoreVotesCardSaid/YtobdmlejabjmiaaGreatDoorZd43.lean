/- Made small by a program. -/
import Derived.Test.YtobdmlejabjmiaaGreatDoorZd42
set_option maxRecDepth 20000
set_option maxHeartbeats 8000000
namespace Go.Proofs.YtobdmlejabjmiaaGreatDoor
open Go.RowKit
def idxK(l:List En)(k:Nat):List En:=l.mapIdx fun j e=>if j<k then { e with idx:=j+1 } else e
theorem idxK_len(l:List En)(k:Nat):(idxK l k).length=l.length:=by unfold idxK;simp
theorem idxK_get(l:List En)(k j:Nat):(idxK l k)[j]?=l[j]?.map fun e=>if j<k then { e with idx:=j+1 } else e:=by
 unfold idxK
 rw[List.getElem?_mapIdx]
theorem idxK_zero(l:List En):idxK l 0=l:=by
 apply List.ext_getElem?
 intro j
 rw[idxK_get]
 cases l[j]?<;>simp
theorem idxK_step(l:List En)(k:Nat)(hk:k<l.length):idxK l (k+1)=(idxK l k).set k { l[k] with idx:=k+1 }:=by
 apply List.ext_getElem?
 intro j
 rw[idxK_get,List.getElem?_set,idxK_len]
 by_cases hj:k=j
 ·subst hj
  rw[if_pos rfl,if_pos hk,List.getElem?_eq_getElem hk]
  simp
 ·rw[if_neg hj,idxK_get]
  cases l[j]? with
  | none=>rfl
  | some e =>
   simp only[Option.map_some,Option.some.injEq]
   by_cases h:j<k
   ·rw[if_pos h,if_pos (by omega)]
   ·rw[if_neg h,if_neg (by omega)]
section
variable {w w':World} {base c b:Nat} {es:List ERow}
theorem EO.setIdx(h:EO w base (some ⟨b,0,none⟩) c es){k:Nat}(hk:k<es.length)(m:Nat) :
  w.cell? ⟨b,k*5,none⟩=some (.int .u64 (es[k].1.idx:Int))/\w.frozen? ⟨b,k*5,none⟩=false/\EO (w.setCell ⟨b,k*5,none⟩ (.int .u64 (m:Int))) base (some ⟨b,0,none⟩) c (es.set k ({ es[k].1 with idx:=m },es[k].2))/\Mods (·=b) w (w.setCell ⟨b,k*5,none⟩ (.int .u64 (m:Int))):=by
 obtain⟨b',off,e,hb,hc⟩:=h.el.at_ hk
 injection e with e
 injection e with e1 e2
 subst e1 e2
 have hi:(es.map er)[k]?=some (er es[k]):=by rw[List.getElem?_map,List.getElem?_eq_getElem hk];rfl
 have hs:=(h.row.stored hi (j:=0) (by decide) (.int .u64 (m:Int))).1
 have ms:Mods (·=b) w (w.setCell ⟨b,k*5,none⟩ (.int .u64 (m:Int))):=(Mods.refl (·=b) w).setCell ⟨b,k*5,none⟩ (.inl rfl) _
 have he:(es.map er).set k ((er es[k]).set 0 (.int .u64 (m:Int)))=(es.set k ({ es[k].1 with idx:=m },es[k].2)).map er:=by rw[List.map_set];rfl
 rw[he,Nat.add_zero] at hs
 refine⟨by have:=hc 0 _ rfl;simpa using this,h.row.free rfl _,⟨hs,fun y hy=>?_⟩,ms⟩
 have hyo:OB w base y.2.1 y.2.2 y.1.dat:=by
  rcases List.mem_or_eq_of_mem_set hy with hy | hy
  ·exact h.ob y hy
  ·subst hy
   exact h.ob es[k] (List.getElem_mem hk)
 exact hyo.mods ms (fun x hx e=>by
  subst e
  obtain⟨cs,hcs⟩:=h.row.blk x rfl
  exact OB.ne_blk (T:=TEn) (cs:=cs) hyo hcs (by decide) hx)
theorem map_set_fst{es:List ERow}{k:Nat}(hk:k<es.length)(m:Nat):(es.set k ({ es[k].1 with idx:=m },es[k].2)).map Prod.fst=(es.map Prod.fst).set k { (es.map Prod.fst)[k]'(by rw[List.length_map];exact hk) with idx:=m }:=by
 rw[List.map_set]
 simp
end
def hN:Nm:=[104,97,114,100,46,49]
def sN:Nm:=[115,104,111,116,46,49]
def wN:Nm:=[119,46,48,46,49]
theorem hN_eq:fileN nmHard 1=hN:=hardFile
theorem sN_eq:fileN nmShot 1=sN:=by
 have h1:Lib.decDigits 1=[49]:=by rw[Lib.decDigits];simp
 unfold fileN nmShot
 rw[h1];rfl
theorem wN_eq:walName 0 1=wN:=walName_one
theorem num_hw:numN nmHard wN=none:=by decide
theorem num_sw:numN nmShot wN=none:=by decide
theorem num_sh:numN nmShot hN=none:=by decide
theorem num_hs:numN nmHard sN=none:=by decide
theorem part_h:partsN hN=none:=by
 have h:parts 46 hN=[[104,97,114,100],[49]]:=by simp[parts,hN]
 unfold partsN
 rw[h]
theorem part_s:partsN sN=none:=by
 have h:parts 46 sN=[[115,104,111,116],[49]]:=by simp[parts,sN]
 unfold partsN
 rw[h]
theorem part_w:partsN wN=some (0,1):=by rw[<-wN_eq];exact partsN_one
theorem ok_h:nameOk hN=true:=by decide
theorem ok_s:nameOk sN=true:=by decide
theorem ok_w:nameOk wN=true:=by decide
theorem openW_G{D:DSt}(hr:Rest D){x:List (List UInt8)}(hf:foundL (namesD D)=[⟨wN,0,1⟩])(hg:fget D.sure wN=some (recsB 1 x))(h:∀y∈x,y.length<=65520)(hn:1+x.length<18446744073709551616):openW D=(0,lgB x,D):=by
 have hs:=scanF_recs x 1 h hn
 have hl:=marksB_last x 0 1
 have hg':fget D.files wN=some (recsB 1 x):=by rw[hr.files];exact hg
 have hsy:syncD D=(0,D):=by
  rw[sync_idle hr.dd hr.fu,hr.files]
  obtain⟨h1,h2,h3⟩:=hr
  cases D
  simp only at h3
  subst h3
  rfl
 unfold openW
 rw[hf]
 show loadF [⟨wN,0,1⟩] ⟨0,[],[],1,false⟩ true D=_
 have hst:stopF D ⟨wN,0,1⟩=((fget D.files wN).getD []).length:=by
  unfold stopF
  simp only[hg',Option.getD_some,hs]
  rw[hl];omega
 unfold loadF
 rw[if_neg (by simp[unfit]),if_pos hst]
 have ht:takeF ⟨0,[],[],1,false⟩ D ⟨wN,0,1⟩=lgB x:=by
  unfold takeF lgB
  simp only[hg',Option.getD_some,hs]
  rw[wN_eq]
  rfl
 rw[ht]
 unfold loadF
 rw[if_neg (by simp[lgB]),hsy]
def dskH(r:Int)(X b:List UInt8):DSt:=⟨[(hN,X),(wN,b)],[],r,0,false⟩
theorem rest_dsk0(r:Int):Rest (dsk0 r):=⟨rfl,rfl,rfl⟩
theorem dsk1_eq(r:Int):dsk1 r=⟨[(wN,[])],[],r,0,false⟩:=by unfold dsk1;rw[wN_eq]
theorem sh_dskH(x:List UInt8)(hx:x.length<=100)(r:Int)(hr:1000<=r):saveS (openS nmHard Sc.zero) (dsk1 r) x=(0,⟨nmHard,1,x,true,[hN],false⟩,dskH r (frameB x) []):=by
 have h:=save_first base_hard (s:=openS nmHard Sc.zero) rfl rfl rfl rfl (D:=dsk1 r) ⟨rfl,rfl,rfl⟩ (x:=x) (by omega) (by rw[hN_eq,dsk1_eq];show fget [(wN,([]:List UInt8))] hN=none;decide) (by show 1<4096;decide) (by
  rw[dsk1_eq]
  have:fsize [(wN,([]:List UInt8))]=0:=rfl
  simp only[this]
  omega)
 rw[h,hN_eq,dsk1_eq]
 have:fset [(wN,([]:List UInt8))] hN (frameB x)=[(hN,frameB x),(wN,[])]:=by
  simp only[fset]
  rw[if_neg (by decide),if_neg (by decide)]
 simp only[this]
 rfl
theorem canonD{b:Nm}{D:DSt}(h:∀f∈namesD D,numN b f=none\/∃k,k<18446744073709551616/\f=fileN b k):Canon b D:=by
 intro f hf n hn
 rcases h f hf with h1 | ⟨k,hk,h1⟩
 ·rw[h1] at hn;cases hn
 ·rw[h1,numN_file b hk] at hn
  injection hn with hn
  subst hn
  exact⟨h1,hk⟩
theorem rec_bound{es:List En}(h:∀x∈es,x.sound):∀y∈es.map En.bytes,y.length<=4200:=by
 intro y hy
 obtain⟨x,hx,rfl⟩:=List.mem_map.1 hy
 exact enBytes_len (h x hx)
theorem recsB_bound:∀(L:List (List UInt8)) (n:Nat),(∀r∈L,r.length<=4200)->(recsB n L).length<=L.length*4230
 | [],_,_=>by simp[recsB]
 | r::t,n,h=>by
  have h1:=recsB_bound t (n+1) (fun x hx=>h x (List.mem_cons_of_mem _ hx))
  have h2:=h r (List.mem_cons_self ..)
  have h3:=putNum_len n
  rw[recsB,List.length_append]
  unfold recB
  rw[frameB_len,List.length_append,List.length_cons]
  omega
theorem way0(r:Int)(h0:0<=r):OpWay (dsk0 r) (dsk0 r) (dsk0 r) (dsk1 r) Sc.zero Sc.zero lg1 [] where
 o1:=open_others (rest_dsk0 r) (fun p hp=>by cases hp)
 o2:=open_others (rest_dsk0 r) (fun p hp=>by cases hp)
 o3:=openW_new r h0
 d0:=rfl
 d1:=rfl
 c0:=by show(0:Nat)<=1000;omega
 c1:=by show(0:Nat)<=1000;omega
 c3:=by show(1:Nat)<=1000;omega
 n0:=fun p hp=>by cases hp
 n1:=fun p hp=>by cases hp
 n3:=fun p hp=>by
  have e:p=(walName 0 1,[]):=by simpa [dsk1,DSt.files] using hp
  subst e
  show(walName 0 1).length<=_
  rw[walName_one];decide
 k0:=fun f hf=>by cases hf
 k1:=fun f hf=>by cases hf
 sx:=by
  have:namesD (dsk1 r)=[wN]:=by rw[dsk1_eq];rfl
  rw[this];decide
 nl:=by show(1:Nat)<=1000;omega
 ess:=fun x hx=>by cases hx
 rcs:=rfl
 ldn:=rfl
 lf:=by decide
 el:=by decide
 era:=by decide
 sn:=fun s hs=>by
  have:s=⟨walName 0 1,1,[0]⟩:=by simpa [lg1] using hs
  subst this
  show(walName 0 1).length<=1000
  rw[walName_one];decide
 sl:=by decide
section
variable {B g:Nat} {S:Nat->Prop} {w w':World}
theorem blk_some{V:Addr}{S:Nat->Prop}(h:¬S V.block):∀k,(some V).map (·.block)=some k->¬S k:=fun k hk=>by
 injection hk with hk
 subst hk
 exact h
theorem sorted_one(f:Fd):Sorted1 [f]/\sortF [f]=[f]:=by
 refine⟨fun i a b h1 h2=>?_,rfl⟩
 have:=(List.getElem?_eq_some_iff.1 h2).1
 simp at this
theorem shot12:shotB 0 0 [1,2] [] 0=true:=by decide
theorem openFirst(r:Int)(h0:0<=r)(hD:DI S w g (dsk0 r))(hB:B<=w.heap.size)(hS:∀b,S b->B<=b)(hE:WEnv B w)(V:Addr)(hv:RV w (some V) (ncells .i64 [1,2]))(hVS:¬S V.block) :
  Calls Tryz.prog 8 #[.pointer (some ⟨g,0,none⟩),.agg (shotC 0 0 [1,2] [] [] (some V) 2 none 0 none 0)] w (OpenG B S w g 0 0 0 0 [1,2] [] [] true [] (openS nmHard Sc.zero) (openS nmShot Sc.zero) lg1 (dsk1 r)) :=
 storeOpenG 0 0 0 0 [1,2] [] [] 0 0 [1,2] [] [] (some V) 2 none 0 none 0 (dsk0 r) (dsk0 r) (dsk0 r) (dsk1 r) Sc.zero Sc.zero lg1 [] (way0 r h0) hD hB hS hE.se hv RV.nil RB.nil (fun _=>blk_some hVS) (fun h=>by simp at h) (fun h=>by simp at h) shot12
  ⟨rfl,.inl ⟨rfl,by decide,rfl,rfl⟩⟩ ⟨rfl,.inl ⟨rfl,by decide,rfl,rfl,rfl,rfl,rfl⟩⟩ (by decide) (by decide)
  (fun S' wx h1 h2 h3 h4=>walOpen0 h1 rfl rfl h4 h2 (hE.se.below h3) (by show(0:Nat)<=1000;omega)) true (by decide) (fun h=>by cases h)
end
theorem dec_no46(n:Nat):(46:UInt8) ∉ Lib.decDigits n:=fun h=>by
 have:=dec_range n 46 h
 have e:(46:UInt8).toNat=46:=rfl
 omega
theorem partsN_wal{e n:Nat}(he:e<18446744073709551616)(hn:n<18446744073709551616):partsN (walName e n)=some (e,n):=by
 have h:walName e n=[119]++46::(Lib.decDigits e++46::Lib.decDigits n):=by unfold walName;simp
 have h1:parts 46 (walName e n)=[[119],Lib.decDigits e,Lib.decDigits n]:=by
  rw[h,parts_step (by decide),parts_step (dec_no46 e),parts_no (dec_no46 n)]
 unfold partsN
 rw[h1]
 simp only[if_true,parseB_dec (show e<=18446744073709551615 by omega),parseB_dec (show n<=18446744073709551615 by omega)]
structure NameR(f:Nm)(n:Nat):Prop where
 eq:f=walName 1 n
 ok:nameOk f=true
 l1:¬f<sN
 n1:f≠sN
 l2:¬f<wN
 n2:f≠wN
 s1:sN<f
 s2:wN<f
 pt:partsN f=some (1,n)
 nh:numN nmHard f=none
 ns:numN nmShot f=none
 ln:f.length<=1000
theorem nameR{n:Nat}(hn:n<18446744073709551616):NameR (walName 1 n) n:=by
 have h0:Lib.decDigits 1=[49]:=by rw[Lib.decDigits];simp
 have h:walName 1 n=119::46::49::46::Lib.decDigits n:=by unfold walName;rw[h0];rfl
 have s1:sN<walName 1 n:=by rw[h];unfold sN;exact List.Lex.rel (by decide)
 have s2:wN<walName 1 n:=by rw[h];unfold wN;exact List.Lex.cons (List.Lex.cons (List.Lex.rel (by decide)))
 refine⟨rfl,walName_okN hn,fun e=>nm_lt_irrefl _ (nm_trans e s1),fun e=>nm_lt_irrefl _ (e▸s1),fun e=>nm_lt_irrefl _ (nm_trans e s2),fun e=>nm_lt_irrefl _ (e▸s2),s1,s2,partsN_wal (by decide) hn,?_,?_,?_⟩
 ·unfold numN
  rw[if_neg]
  rw[h]
  unfold nmHard Lib.hasPrefix
  simp
 ·unfold numN
  rw[if_neg]
  rw[h]
  unfold nmShot Lib.hasPrefix
  simp
 ·have:=walName_len (e:=1) (by decide) hn;omega
def lgR(f:Nm)(n:Nat):Lg:=⟨1,[⟨f,n,[0]⟩],[],n,false⟩
theorem fits_new(f:Nm)(i t:Nat):fitsB (lgR f (i+1)) [] i t=true:=by
 have h1:(lgR f (i+1)).first=i+1:=rfl
 unfold fitsB
 rw[h1]
 simp
section
variable {B g:Nat} {S:Nat->Prop} {w w':World}
end
theorem field_conf(a b c d e:Value)(w:World):(Instr.field 36 (.agg #[a,b,c,d,e]) 2).run Tryz.prog w=.ok (.agg #[c,d]) w:=by kernel_rfl
theorem marksB_length:∀(x:List (List UInt8)) (i n:Nat),(marksB i n x).length=x.length
 | [],_,_=>rfl
 | _::t,_,_=>congrArg (·+1) (marksB_length t _ _)
theorem lgB_fineD{x:List (List UInt8)}(h:x.length<=1000):(lgB x).fineD/\(lgB x).chain:=by
 have hm:=marksB_length x 0 1
 refine⟨⟨fun s hs=>?_,?_,?_,?_⟩,?_⟩
 ·have e:s=⟨walName 0 1,1,0::marksB 0 1 x⟩:=by simpa [lgB] using hs
  subst e
  refine⟨?_,?_⟩
  ·show(walName 0 1).length<=1000
   rw[walName_one];decide
  ·show(0::marksB 0 1 x).length<=1000000
   rw[List.length_cons,hm];omega
 ·show 1+x.length<=_
  omega
 ·show(1:Nat)<=_
  omega
 ·show x.length<=_
  omega
 ·show SegsCh [⟨walName 0 1,1,0::marksB 0 1 x⟩] 1 (1+x.length)
  simp[SegsCh,hm]
theorem unfrAt_torn(p d f:List UInt8)(hf:f=four4 d.length++four4 (crc (four4 d.length++d))++d)(hd:d.length<=65536)(m:Nat)(hm:m<f.length):(unfrAt (p++f.take m) (p.length:Int)).2.2=5:=by
 have hfl:f.length=8+d.length:=by rw[hf];simp[four4];omega
 have hl:(p++f.take m).length=p.length+m:=by rw[List.length_append,List.length_take];omega
 have e0:(p++f.take m).drop p.length=f.take m:=List.drop_left' rfl
 rw[unfrAt,if_pos (by rw[hl];omega),hl]
 by_cases h8:m<8
 ·rw[if_pos (by omega)]
 ·have t4:(f.take m).take 4=four4 d.length:=by
   rw[List.take_take,Nat.min_eq_left (by omega),hf,List.append_assoc];exact List.take_left' rfl
  have hn:unB (four4 d.length)=d.length:=un_four (by omega)
  rw[if_neg (by omega),Int.toNat_natCast,e0,t4,hn,if_neg (by omega),if_pos (by omega)]
theorem recAt_torn(p r:List UInt8)(n:Nat)(hr:r.length<=65520)(m:Nat)(hm:m<(recB n r).length):recAt (p++(recB n r).take m) p.length n=none:=by
 have hpl:=putNum_len n
 have hd:(putNum n++r).length<=65536:=by rw[List.length_append];omega
 have hu:=unfrAt_torn p (putNum n++r) (recB n r) rfl hd m hm
 unfold recAt
 rw[if_neg]
 rintro⟨h,_⟩
 rw[hu] at h
 exact absurd h (by decide)
theorem scanR_torn:∀(L:List (List UInt8)) (n k:Nat) (p:List UInt8) (m:Nat),(∀r∈L,r.length<=65520)->n+L.length<18446744073709551616->m<=(recsB n L).length->m<=k->∃j,j<=L.length/\scanR (p++(recsB n L).take m) k p.length n=(L.take j,marksB p.length n (L.take j))/\(recsB n (L.take j)).length<=m/\(recsB n L).take (recsB n (L.take j)).length=recsB n (L.take j)
 | [],n,k,p,m,_,_,_,_=>⟨0,Nat.le_refl _,by
   cases k with
   | zero=>rfl
   | succ k=>simp[scanR,recsB,marksB],by simp[recsB],by simp[recsB]⟩
 | r::t,n,k,p,m,h,hn,hm,hk=>by
  have hr:=recB_pos n r
  simp only[List.length_cons] at hn
  by_cases hs:m<(recB n r).length
  ·refine⟨0,Nat.zero_le _,?_,by simp[recsB],by simp[recsB]⟩
   have ht:(recsB n (r::t)).take m=(recB n r).take m:=by
    rw[recsB,List.take_append_of_le_length (by omega)]
   rw[ht]
   have hnone:=recAt_torn p r n (h r (List.mem_cons_self ..)) m hs
   cases k with
   | zero=>rfl
   | succ k =>
    rw[scanR,hnone]
    simp[marksB]
  ·rw[recsB,List.length_append] at hm
   obtain⟨k,rfl⟩:∃j,k=j+1:=⟨k - 1,by omega⟩
   have ht:(recsB n (r::t)).take m=recB n r++(recsB (n+1) t).take (m - (recB n r).length):=by
    rw[recsB,List.take_append,List.take_of_length_le (by omega)]
   obtain⟨j,hj,h1,h2,h3⟩:=scanR_torn t (n+1) k (p++recB n r) (m - (recB n r).length) (fun x hx=>h x (List.mem_cons_of_mem _ hx)) (by omega) (by omega) (by omega)
   have h4:=recAt_mid p ((recsB (n+1) t).take (m - (recB n r).length)) r n (by omega) (h r (List.mem_cons_self ..))
   refine⟨j+1,by simp;omega,?_,?_,?_⟩
   ·rw[List.append_assoc,List.length_append] at h1
    rw[ht,scanR,if_pos (by simp only[List.length_append];omega),h4]
    simp only[h1,List.take_succ_cons,marksB]
   ·rw[List.take_succ_cons,recsB,List.length_append];omega
   ·rw[List.take_succ_cons,recsB,recsB,List.length_append,List.take_append,List.take_of_length_le (by omega),Nat.add_sub_cancel_left,h3]
theorem scanF_torn(L:List (List UInt8))(n m:Nat)(h:∀r∈L,r.length<=65520)(hn:n+L.length<18446744073709551616):∃j,j<=L.length/\scanF ((recsB n L).take m) n=(L.take j,marksB 0 n (L.take j))/\(recsB n (L.take j)).length<=((recsB n L).take m).length/\((recsB n L).take m).take (recsB n (L.take j)).length=recsB n (L.take j):=by
 obtain⟨j,h1,h2,h3,h4⟩:=scanR_torn L n ((recsB n L).take m).length [] ((recsB n L).take m).length h hn (by rw[List.length_take];omega) (Nat.le_refl _)
 have e:(recsB n L).take ((recsB n L).take m).length=(recsB n L).take m:=by
  rw[List.length_take]
  by_cases hm:m<=(recsB n L).length
  ·rw[Nat.min_eq_left hm]
  ·rw[Nat.min_eq_right (by omega),List.take_of_length_le (Nat.le_refl _),List.take_of_length_le (by omega)]
 rw[e] at h2
 refine⟨j,h1,by simpa [scanF] using h2,h3,?_⟩
 rw[<-e,List.take_take,Nat.min_eq_left h3,h4]
theorem openW_torn{F:FS}{r:Int}{x:List (List UInt8)}{m:Nat}(hf:foundL (namesD ⟨F,[],r,0,false⟩)=[⟨wN,0,1⟩])(hg:fget F wN=some ((recsB 1 x).take m))(hsame:fset F wN ((recsB 1 x).take m)=F)(h:∀y∈x,y.length<=65520)(hn:1+x.length<18446744073709551616)(_hr:0<=r)(hm:(recsB 1 x).length<=4194304) :
  ∃j,j<=x.length/\openW ⟨F,[],r,0,false⟩=(0,lgB (x.take j),⟨fset F wN (recsB 1 (x.take j)),[],r,0,false⟩):=by
 obtain⟨j,hj,hs,hle,htk⟩:=scanF_torn x 1 m h hn
 refine⟨j,hj,?_⟩
 have hl:=marksB_last (x.take j) 0 1
 obtain⟨b,hb⟩:∃b,b=(recsB 1 x).take m:=⟨_,rfl⟩
 obtain⟨c,hc⟩:∃c,c=recsB 1 (x.take j):=⟨_,rfl⟩
 rw[<-hb] at hg hs hle htk hsame
 rw[<-hc] at hl hle htk ⊢
 have hbl:b.length<=4194304:=by rw[hb,List.length_take];omega
 have hst:stopF ⟨F,[],r,0,false⟩ ⟨wN,0,1⟩=c.length:=by
  unfold stopF
  have:fget (DSt.files ⟨F,[],r,0,false⟩) wN=some b:=hg
  simp only[this,Option.getD_some,hs]
  rw[hl];omega
 have ht:takeF ⟨0,[],[],1,false⟩ ⟨F,[],r,0,false⟩ ⟨wN,0,1⟩=lgB (x.take j):=by
  have:fget (DSt.files ⟨F,[],r,0,false⟩) wN=some b:=hg
  unfold takeF lgB
  simp only[this,Option.getD_some,hs]
  rw[wN_eq]
  rfl
 have hgl:(fget (DSt.files ⟨F,[],r,0,false⟩) wN).getD []=b:=by
  have:fget (DSt.files ⟨F,[],r,0,false⟩) wN=some b:=hg
  rw[this];rfl
 unfold openW
 rw[hf]
 show loadF [⟨wN,0,1⟩] ⟨0,[],[],1,false⟩ true ⟨F,[],r,0,false⟩=_
 unfold loadF
 rw[if_neg (by simp[unfit]),ht,hst]
 simp only[hgl]
 by_cases he:c.length=b.length
 ·have hcb:c=b:=by rw[<-htk,he,List.take_of_length_le (Nat.le_refl _)]
  rw[if_pos he]
  unfold loadF
  rw[if_neg (by simp[lgB]),sync_idle rfl rfl,hcb,hsame]
  rfl
 ·rw[if_neg he]
  have hcut:cutS ⟨F,[],r,0,false⟩ wN c.length=(0,⟨F,[⟨2,wN,c.length,[]⟩],r,0,false⟩):=by
   unfold cutS changeD
   have hrf:refuseD ⟨F,[],r,0,false⟩ ⟨2,wN,c.length,[]⟩ (c.length:Int)=0:=by
    have:fget (DSt.files ⟨F,[],r,0,false⟩) wN=some b:=hg
    unfold refuseD
    rw[if_neg (by simp),if_neg (by rw[ok_w];simp;omega),if_neg (by simp[this]),if_neg]
    simp only[this,Option.getD_some,afterN]
    simp
    omega
   rw[if_neg (by rw[hrf];simp)]
   simp[burnD]
  rw[hcut,if_neg (by simp)]
  simp only
  unfold loadF
  rw[if_neg (by simp[lgB]),sync_idle rfl rfl]
  have hfl:DSt.files ⟨F,[⟨2,wN,c.length,[]⟩],r,0,false⟩=fset F wN c:=by
   simp only[DSt.files,List.foldl_cons,List.foldl_nil,doF,hg,Option.getD_some]
   have:resizeD b c.length=c:=by
    unfold resizeD
    rw[htk,show c.length - b.length=0 by omega]
    simp
   simp[this]
  simp only[hfl]
def fN:Nm:=[119,46,49,46,50]
theorem fN_eq:walName 1 2=fN:=by
 have h1:Lib.decDigits 1=[49]:=by rw[Lib.decDigits];simp
 have h2:Lib.decDigits 2=[50]:=by rw[Lib.decDigits];simp
 unfold walName
 rw[h1,h2];rfl
theorem num_hf:numN nmHard fN=none:=by decide
theorem num_sf:numN nmShot fN=none:=by decide
theorem ok_f:nameOk fN=true:=by decide
theorem part_f:partsN fN=some (1,2):=by rw[<-fN_eq];exact(nameR (n:=2) (by decide)).pt
def dF(F:FS)(r:Int):DSt:=⟨F,[],r,0,false⟩
theorem rest_dF(F:FS)(r:Int):Rest (dF F r):=⟨rfl,rfl,rfl⟩
theorem names_dF(F:FS)(r:Int):namesD (dF F r)=F.map Prod.fst:=(rest_dF F r).names
theorem files_dF(F:FS)(r:Int):(dF F r).files=F:=rfl
theorem sync_dF(F:FS)(r:Int):syncD (dF F r)=(0,dF F r):=by rw[sync_idle rfl rfl];rfl
structure Some4(F:FS):Prop where
 nm:∀p∈F,p.1=hN\/p.1=sN\/p.1=wN\/p.1=fN
 len:F.length<=4
theorem Some4.names{F:FS}(h:Some4 F){r:Int}:∀f∈namesD (dF F r),f=hN\/f=sN\/f=wN\/f=fN:=by
 intro f hf
 rw[names_dF] at hf
 obtain⟨p,hp,rfl⟩:=List.mem_map.1 hf
 exact h.nm p hp
theorem Some4.ok{F:FS}(h:Some4 F):∀p∈F,nameOk p.1=true:=by
 intro p hp
 rcases h.nm p hp with e | e | e | e<;>rw[e]
 ·exact ok_h
 ·exact ok_s
 ·exact ok_w
 ·exact ok_f
theorem Some4.wal{F:FS}(h:Some4 F){r:Int}:(∀n∈namesD (dF F r),n.length<=1000/\nameOk n=true)/\(namesD (dF F r)).length<=1000/\(dF F r).cnt<=1000/\∀q∈(dF F r).files,q.1.length<=9223372036854775807:=by
 refine⟨fun n hn=>?_,?_,?_,fun q hq=>?_⟩
 ·rcases h.names n hn with e | e | e | e<;>rw[e]
  ·exact⟨by decide,ok_h⟩
  ·exact⟨by decide,ok_s⟩
  ·exact⟨by decide,ok_w⟩
  ·exact⟨by decide,ok_f⟩
 ·rw[names_dF,List.length_map];have:=h.len;omega
 ·show F.length+0<=1000
  have:=h.len;omega
 ·rcases h.nm q hq with e | e | e | e<;>rw[e]<;>decide
theorem wayOf{F0 F1 F2 F3:FS}{r:Int}{sc1 sc2:Sc}{lg:Lg}{es:List En}(h0:Some4 F0)(h1:Some4 F1)(h3:Some4 F3)(o1:scanD nmHard (dF F0 r)=sc1/\openD nmHard (dF F0 r)=(0,dF F1 r))(o2:scanD nmShot (dF F1 r)=sc2/\openD nmShot (dF F1 r)=(0,dF F2 r))(o3:openW (dF F2 r)=(0,lg,dF F3 r))
  (ess:∀x∈es,x.sound) (rcs:lg.recs=es.map En.bytes) (ldn:lg.down=false) (lf:lg.first<=1000000000000) (el:es.length<=1000) (era:lg.era<=1000000000000) (sn:∀s∈lg.segs,s.name.length<=1000) (sl:lg.segs.length<=1000):OpWay (dF F0 r) (dF F1 r) (dF F2 r) (dF F3 r) sc1 sc2 lg es where
 o1:=o1
 o2:=o2
 o3:=o3
 d0:=rfl
 d1:=rfl
 c0:=h0.wal.2.2.1
 c1:=h1.wal.2.2.1
 c3:=h3.wal.2.2.1
 n0:=h0.ok
 n1:=h1.ok
 n3:=(h3.wal (r:=r)).2.2.2
 k0:=canonD (fun f hf=>by
  rcases h0.names f hf with e | e | e | e<;>rw[e]
  ·exact .inr ⟨1,by decide,hN_eq.symm⟩
  ·exact .inl num_hs
  ·exact .inl num_hw
  ·exact .inl num_hf)
 k1:=canonD (fun f hf=>by
  rcases h1.names f hf with e | e | e | e<;>rw[e]
  ·exact .inl num_sh
  ·exact .inr ⟨1,by decide,sN_eq.symm⟩
  ·exact .inl num_sw
  ·exact .inl num_sf)
 sx:=by
  rw[Bool.eq_false_iff]
  intro hc
  rw[List.contains_iff_mem] at hc
  rcases h3.names _ hc with e | e | e | e<;>exact absurd e (by decide)
 nl:=h3.wal.2.1
 ess:=ess
 rcs:=rcs
 ldn:=ldn
 lf:=lf
 el:=el
 era:=era
 sn:=sn
 sl:=sl
theorem openHard{R:FS}{r:Int}{x:List UInt8}(hx:x.length<=65520)(h:∀p∈R,p.1=sN\/p.1=wN\/p.1=fN):scanD nmHard (dF ((hN,frameB x)::R) r)=⟨1,1,true,x,[hN]⟩/\openD nmHard (dF ((hN,frameB x)::R) r)=(0,dF ((hN,frameB x)::R) r):=by
 have k:=open_among (b:=nmHard) (rest_dF ((hN,frameB x)::R) r) (n:=1) hx (by decide) (F1:=[]) (F2:=R) (by rw[hN_eq];rfl) (by simp) (fun p hp=>by
  rcases h p hp with e | e | e<;>rw[e]
  ·exact num_hs
  ·exact num_hw
  ·exact num_hf)
 rw[hN_eq] at k
 exact k
theorem openShot{H:List UInt8}{R:FS}{r:Int}{x:List UInt8}(hx:x.length<=65520)(h:∀p∈R,p.1=wN\/p.1=fN):scanD nmShot (dF ((hN,H)::(sN,frameB x)::R) r)=⟨1,1,true,x,[sN]⟩/\openD nmShot (dF ((hN,H)::(sN,frameB x)::R) r)=(0,dF ((hN,H)::(sN,frameB x)::R) r):=by
 have k:=open_among (b:=nmShot) (rest_dF ((hN,H)::(sN,frameB x)::R) r) (n:=1) hx (by decide) (F1:=[(hN,H)]) (F2:=R) (by rw[sN_eq];rfl) (by intro p hp;rw[List.mem_singleton.1 hp];exact num_sh) (fun p hp=>by
  rcases h p hp with e | e<;>rw[e]
  ·exact num_sw
  ·exact num_sf)
 rw[sN_eq] at k
 exact k
theorem openShot_none{H b:List UInt8}{r:Int}:scanD nmShot (dF [(hN,H),(wN,b)] r)=Sc.zero/\openD nmShot (dF [(hN,H),(wN,b)] r)=(0,dF [(hN,H),(wN,b)] r) :=
 open_others (rest_dF _ r) (fun p hp=>by
  have:p=(hN,H)\/p=(wN,b):=by simpa [dF] using hp
  rcases this with e | e<;>rw[e]
  ·exact num_sh
  ·exact num_sw)
theorem openShot_torn{H b x:List UInt8}{r:Int}{m:Nat}(hx:x.length<=65520)(hm:m<(frameB x).length):scanD nmShot (dF [(hN,H),(sN,(frameB x).take m),(wN,b)] r)=⟨1,0,false,[],[sN]⟩/\openD nmShot (dF [(hN,H),(sN,(frameB x).take m),(wN,b)] r)=(0,dF [(hN,H),(wN,b)] r):=by
 have hb:=scan_bad (b:=nmShot) (F:=[(hN,H),(sN,(frameB x).take m),(wN,b)]) (s:=Sc.zero) (n:=1) (by decide) hx hm (by rw[sN_eq];rfl)
 rw[sN_eq] at hb
 have hsc:scanD nmShot (dF [(hN,H),(sN,(frameB x).take m),(wN,b)] r)=⟨1,0,false,[],[sN]⟩:=by
  rw[(rest_dF _ r).scan]
  show(([hN,sN,wN]:List Nm).foldl (scan1 nmShot [(hN,H),(sN,(frameB x).take m),(wN,b)]) Sc.zero)=_
  simp only[List.foldl_cons,List.foldl_nil]
  rw[scan_skip num_sh,hb,scan_skip num_sw]
  rfl
 refine⟨hsc,?_⟩
 unfold openD
 rw[hsc]
 show cleanD [sN] _=_
 rw[clean_one rfl rfl rfl ok_s]
 rfl
theorem openW_wf{F:FS}{r:Int}(hf:foundL (namesD (dF F r))=[⟨wN,0,1⟩,⟨fN,1,2⟩])(_hg:fget F fN=some [])(hg2:fget (fdel F wN) fN=some []):openW (dF F r)=(0,lgR fN 2,dF (fdel F wN) r):=by
 unfold openW
 rw[hf]
 show loadF [⟨wN,0,1⟩,⟨fN,1,2⟩] ⟨1,[],[],1,false⟩ true (dF F r)=_
 obtain⟨D1,hD1⟩:∃D1,D1=(⟨F,[⟨3,wN,0,[]⟩],r,0,false⟩:DSt):=⟨_,rfl⟩
 have hrm:rmD (dF F r) wN=(0,D1):=by rw[rm_idle rfl rfl ok_w,hD1];rfl
 have hfl:D1.files=fdel F wN:=by rw[hD1];rfl
 have hsc:scanF [] 2=([],[]):=rfl
 have hst:stopF D1 ⟨fN,1,2⟩=((fget D1.files fN).getD []).length:=by
  unfold stopF
  rw[hfl]
  simp only[hg2,Option.getD_some,hsc]
  rfl
 have ht:takeF ⟨1,[],[],1,false⟩ D1 ⟨fN,1,2⟩=lgR fN 2:=by
  unfold takeF lgR
  rw[hfl]
  simp only[hg2,Option.getD_some,hsc]
  rfl
 unfold loadF
 rw[if_pos (by simp[unfit]),hrm,if_neg (by simp)]
 simp only
 unfold loadF
 rw[if_neg (by simp[unfit]),if_pos hst,ht]
 unfold loadF
 rw[if_neg (by simp[lgR]),sync_idle (by rw[hD1]) (by rw[hD1]),hfl,hD1]
 rfl
theorem openW_fN{F:FS}{r:Int}(hf:foundL (namesD (dF F r))=[⟨fN,1,2⟩])(hg:fget F fN=some []):openW (dF F r)=(0,lgR fN 2,dF F r):=by
 unfold openW
 rw[hf]
 show loadF [⟨fN,1,2⟩] ⟨1,[],[],1,false⟩ true (dF F r)=_
 have hsc:scanF [] 2=([],[]):=rfl
 have hst:stopF (dF F r) ⟨fN,1,2⟩=((fget (dF F r).files fN).getD []).length:=by
  unfold stopF
  rw[files_dF]
  simp only[hg,Option.getD_some,hsc]
  rfl
 unfold loadF
 rw[if_neg (by simp[unfit]),if_pos hst]
 have ht:takeF ⟨1,[],[],1,false⟩ (dF F r) ⟨fN,1,2⟩=lgR fN 2:=by
  unfold takeF lgR
  rw[files_dF]
  simp only[hg,Option.getD_some,hsc]
  rfl
 rw[ht]
 unfold loadF
 rw[if_neg (by simp[lgR]),sync_dF]
theorem reset_ok{H Z b:List UInt8}{r:Int}{x:List (List UInt8)}:(resetW (lgB x) (dF [(hN,H),(sN,Z),(wN,b)] r) 2).1=0:=by
 have hp:putW (dF [(hN,H),(sN,Z),(wN,b)] r) fN 0 []=(0,⟨[(hN,H),(sN,Z),(wN,b)],[⟨1,fN,0,[]⟩],r,0,false⟩):=by
  unfold putW changeD
  have hre:refuseD (dF [(hN,H),(sN,Z),(wN,b)] r) ⟨1,fN,0,[]⟩ ((0:Nat):Int)=0:=by
   have hg':fget (dF [(hN,H),(sN,Z),(wN,b)] r).files fN=none:=rfl
   unfold refuseD
   rw[if_neg (by simp[dF]),if_neg (by simp[ok_f]),if_neg (by simp[files_dF]),if_neg (by simp[hg',afterN])]
  rw[if_neg (by rw[hre];simp)]
  simp[burnD,dF]
 have hsy:(syncW (lgB x) ⟨[(hN,H),(sN,Z),(wN,b)],[⟨1,fN,0,[]⟩],r,0,false⟩).1=0:=by
  unfold syncW
  rw[if_neg (by simp[lgB]),sync_idle rfl rfl]
 have hsy2:(syncW (lgB x) ⟨[(hN,H),(sN,Z),(wN,b)],[⟨1,fN,0,[]⟩],r,0,false⟩).2.1=(lgB x).fell 0/\∃F,(syncW (lgB x) ⟨[(hN,H),(sN,Z),(wN,b)],[⟨1,fN,0,[]⟩],r,0,false⟩).2.2=dF F r:=by
  unfold syncW
  rw[if_neg (by simp[lgB]),sync_idle rfl rfl]
  exact⟨rfl,_,rfl⟩
 obtain⟨h1,F,h2⟩:=hsy2
 have hsegs:(lgB x).segs.map Sg.name=[wN]:=by rw[<-wN_eq];rfl
 unfold resetW
 rw[if_neg (by simp[lgB]),if_neg (by decide),show(lgB x).era+1=1 from rfl,fN_eq,hp]
 simp only
 rw[if_neg (by simp),if_neg (by rw[hsy];simp),hsegs,h1,h2]
 unfold removeW
 rw[rm_idle rfl rfl ok_w,if_neg (by simp)]
 unfold removeW syncW
 rw[if_neg (by simp[Lg.fell,lgB]),sync_idle rfl rfl]
end Go.Proofs.YtobdmlejabjmiaaGreatDoor
