/- Made small by a program. -/
import Derived.Test.YtobdmlejabjmiaaGreatDoorZb43
set_option maxRecDepth 20000
set_option maxHeartbeats 8000000
namespace Go.Proofs.YtobdmlejabjmiaaGreatDoor
open Go.RowKit
def idxK(l:List En)(k:Nat):List En:=l.mapIdx fun j e=>if j<k then { e with idx:=j+1 } else e
theorem idxK_len(l:List En)(k:Nat):(idxK l k).length=l.length:=by unfold idxK;simp
theorem idxK_get(l:List En)(k j:Nat):(idxK l k)[j]?=l[j]?.map fun e=>if j<k then { e with idx:=j+1 } else e:=by
 unfold idxK
 rw[List.getElem?_mapIdx]
theorem idxK_zero(l:List En):idxK l 0=l:=by
 apply List.ext_getElem?
 intro j
 rw[idxK_get]
 cases l[j]?<;>simp
theorem idxK_step(l:List En)(k:Nat)(hk:k<l.length):idxK l (k+1)=(idxK l k).set k { l[k] with idx:=k+1 }:=by
 apply List.ext_getElem?
 intro j
 rw[idxK_get,List.getElem?_set,idxK_len]
 by_cases hj:k=j
 ·subst hj
  rw[if_pos rfl,if_pos hk,List.getElem?_eq_getElem hk]
  simp
 ·rw[if_neg hj,idxK_get]
  cases l[j]? with
  | none=>rfl
  | some e =>
   simp only[Option.map_some,Option.some.injEq]
   by_cases h:j<k
   ·rw[if_pos h,if_pos (by omega)]
   ·rw[if_neg h,if_neg (by omega)]
section
variable {w w':World} {base c b:Nat} {es:List ERow}
theorem EO.setIdx(h:EO w base (some ⟨b,0,none⟩) c es){k:Nat}(hk:k<es.length)(m:Nat) :
  w.cell? ⟨b,k*5,none⟩=some (.int .u64 (es[k].1.idx:Int))/\w.frozen? ⟨b,k*5,none⟩=false/\EO (w.setCell ⟨b,k*5,none⟩ (.int .u64 (m:Int))) base (some ⟨b,0,none⟩) c (es.set k ({ es[k].1 with idx:=m },es[k].2))/\Mods (·=b) w (w.setCell ⟨b,k*5,none⟩ (.int .u64 (m:Int))):=by
 obtain⟨b',off,e,hb,hc⟩:=h.el.at_ hk
 injection e with e
 injection e with e1 e2
 subst e1 e2
 have hi:(es.map er)[k]?=some (er es[k]):=by rw[List.getElem?_map,List.getElem?_eq_getElem hk];rfl
 have hs:=(h.row.stored hi (j:=0) (by decide) (.int .u64 (m:Int))).1
 have ms:Mods (·=b) w (w.setCell ⟨b,k*5,none⟩ (.int .u64 (m:Int))):=(Mods.refl (·=b) w).setCell ⟨b,k*5,none⟩ (.inl rfl) _
 have he:(es.map er).set k ((er es[k]).set 0 (.int .u64 (m:Int)))=(es.set k ({ es[k].1 with idx:=m },es[k].2)).map er:=by rw[List.map_set];rfl
 rw[he,Nat.add_zero] at hs
 refine⟨by have:=hc 0 _ rfl;simpa using this,h.row.free rfl _,⟨hs,fun y hy=>?_⟩,ms⟩
 have hyo:OB w base y.2.1 y.2.2 y.1.dat:=by
  rcases List.mem_or_eq_of_mem_set hy with hy | hy
  ·exact h.ob y hy
  ·subst hy
   exact h.ob es[k] (List.getElem_mem hk)
 exact hyo.mods ms (fun x hx e=>by
  subst e
  obtain⟨cs,hcs⟩:=h.row.blk x rfl
  exact OB.ne_blk (T:=TEn) (cs:=cs) hyo hcs (by decide) hx)
theorem map_set_fst{es:List ERow}{k:Nat}(hk:k<es.length)(m:Nat):(es.set k ({ es[k].1 with idx:=m },es[k].2)).map Prod.fst=(es.map Prod.fst).set k { (es.map Prod.fst)[k]'(by rw[List.length_map];exact hk) with idx:=m }:=by
 rw[List.map_set]
 simp
end
def hN:Nm:=[104,97,114,100,46,49]
def wN:Nm:=[119,46,48,46,49]
theorem hN_eq:fileN nmHard 1=hN:=hardFile
theorem wN_eq:walName 0 1=wN:=walName_one
theorem num_hw:numN nmHard wN=none:=by decide
theorem num_sw:numN nmShot wN=none:=by decide
theorem num_sh:numN nmShot hN=none:=by decide
theorem part_h:partsN hN=none:=by
 have h:parts 46 hN=[[104,97,114,100],[49]]:=by simp[parts,hN]
 unfold partsN
 rw[h]
theorem part_w:partsN wN=some (0,1):=by rw[<-wN_eq];exact partsN_one
theorem ok_h:nameOk hN=true:=by decide
theorem ok_w:nameOk wN=true:=by decide
theorem openW_G{D:DSt}(hr:Rest D){x:List (List UInt8)}(hf:foundL (namesD D)=[⟨wN,0,1⟩])(hg:fget D.sure wN=some (recsB 1 x))(h:∀y∈x,y.length<=65520)(hn:1+x.length<18446744073709551616):openW D=(0,lgB x,D):=by
 have hs:=scanF_recs x 1 h hn
 have hl:=marksB_last x 0 1
 have hg':fget D.files wN=some (recsB 1 x):=by rw[hr.files];exact hg
 have hsy:syncD D=(0,D):=by
  rw[sync_idle hr.dd hr.fu,hr.files]
  obtain⟨h1,h2,h3⟩:=hr
  cases D
  simp only at h3
  subst h3
  rfl
 unfold openW
 rw[hf]
 show loadF [⟨wN,0,1⟩] ⟨0,[],[],1,false⟩ true D=_
 have hst:stopF D ⟨wN,0,1⟩=((fget D.files wN).getD []).length:=by
  unfold stopF
  simp only[hg',Option.getD_some,hs]
  rw[hl];omega
 unfold loadF
 rw[if_neg (by simp[unfit]),if_pos hst]
 have ht:takeF ⟨0,[],[],1,false⟩ D ⟨wN,0,1⟩=lgB x:=by
  unfold takeF lgB
  simp only[hg',Option.getD_some,hs]
  rw[wN_eq]
  rfl
 rw[ht]
 unfold loadF
 rw[if_neg (by simp[lgB]),hsy]
def dskH(r:Int)(X b:List UInt8):DSt:=⟨[(hN,X),(wN,b)],[],r,0,false⟩
theorem rest_dsk0(r:Int):Rest (dsk0 r):=⟨rfl,rfl,rfl⟩
theorem rest_dskH(r:Int)(X b:List UInt8):Rest (dskH r X b):=⟨rfl,rfl,rfl⟩
theorem names_dskH(r:Int)(X b:List UInt8):namesD (dskH r X b)=[hN,wN]:=rfl
theorem found_dskH(r:Int)(X b:List UInt8):foundL (namesD (dskH r X b))=[⟨wN,0,1⟩]:=by
 rw[names_dskH]
 simp[foundL,part_h,part_w]
theorem lt_hw:hN<wN:=by decide
theorem dsk1_eq(r:Int):dsk1 r=⟨[(wN,[])],[],r,0,false⟩:=by unfold dsk1;rw[wN_eq]
theorem sh_dskH(x:List UInt8)(hx:x.length<=100)(r:Int)(hr:1000<=r):saveS (openS nmHard Sc.zero) (dsk1 r) x=(0,⟨nmHard,1,x,true,[hN],false⟩,dskH r (frameB x) []):=by
 have h:=save_first base_hard (s:=openS nmHard Sc.zero) rfl rfl rfl rfl (D:=dsk1 r) ⟨rfl,rfl,rfl⟩ (x:=x) (by omega) (by rw[hN_eq,dsk1_eq];show fget [(wN,([]:List UInt8))] hN=none;decide) (by show 1<4096;decide) (by
  rw[dsk1_eq]
  have:fsize [(wN,([]:List UInt8))]=0:=rfl
  simp only[this]
  omega)
 rw[h,hN_eq,dsk1_eq]
 have:fset [(wN,([]:List UInt8))] hN (frameB x)=[(hN,frameB x),(wN,[])]:=by
  simp only[fset]
  rw[if_neg (by decide),if_neg (by decide)]
 simp only[this]
 rfl
theorem sl_dskH(r:Int)(X:List UInt8)(x:List (List UInt8))(h:∀y∈x,y.length<=65520)(hr:(X.length:Int)+(recsB 1 x).length<=r)(_hr2:r<=4194304):saveLogD lg1 (dskH r X []) x=(0,lgB x,dskH r X (recsB 1 x)):=by
 have hsy:∀b,syncD (dskH r X b)=(0,dskH r X b):=fun b=>by rw[sync_idle rfl rfl];rfl
 by_cases hx:x=[]
 ·subst hx
  have ha:appendW lg1 (dskH r X []) []=(0,lgB [],dskH r X []):=by
   unfold appendW
   rw[if_neg (by simp[lg1]),if_neg (by simp),if_pos rfl];rfl
  unfold saveLogD
  rw[ha,if_neg (by simp)]
  unfold syncW
  rw[if_neg (by simp[lgB]),hsy];rfl
 ·have hrf:refuseD (dskH r X []) ⟨1,wN,0,recsB 1 x⟩ ((0:Nat):Int)=0:=by
   have hg:fget (dskH r X []).files wN=some []:=rfl
   have hfs:fsize (dskH r X []).files=X.length:=by show(X.length+0)+0=_ ;omega
   unfold refuseD
   rw[if_neg (by simp[dskH]),if_neg (by rw[ok_w];simp),if_neg (by simp[hg]),if_neg]
   simp only[hg,hfs,Option.getD_some,afterN]
   simp[dskH]
   omega
  have hp:putW (dskH r X []) wN 0 (recsB 1 x)=(0,⟨[(hN,X),(wN,[])],[⟨1,wN,0,recsB 1 x⟩],r,0,false⟩):=by
   unfold putW changeD
   rw[if_neg (by rw[hrf];simp)]
   simp[burnD,dskH]
  have hany:¬(x.any fun r=>decide (65520<r.length))=true:=by
   rw[List.any_eq_true]
   rintro⟨y,hy,h2⟩
   have:=h y hy
   simp at h2;omega
  have hto:lg1.to=⟨wN,1,[0]⟩:=by rw[<-wN_eq];rfl
  have hp2:putW (dskH r X []) (Sg.mk wN 1 [0]).name (Sg.mk wN 1 [0]).stop (recsB lg1.next x)=(0,⟨[(hN,X),(wN,[])],[⟨1,wN,0,recsB 1 x⟩],r,0,false⟩):=hp
  have ha:appendW lg1 (dskH r X []) x=(0,lgB x,⟨[(hN,X),(wN,[])],[⟨1,wN,0,recsB 1 x⟩],r,0,false⟩):=by
   unfold appendW
   rw[if_neg (by simp[lg1]),if_neg hany,if_neg hx,hto,hp2,if_neg (by simp)]
   unfold lgB
   rw[wN_eq]
   rfl
  unfold saveLogD
  rw[ha,if_neg (by simp)]
  unfold syncW
  rw[if_neg (by simp[lgB]),sync_idle rfl rfl]
  have h1:DSt.files ⟨[(hN,X),(wN,[])],[⟨1,wN,0,recsB 1 x⟩],r,0,false⟩=[(hN,X),(wN,recsB 1 x)]:=by
   have h2:fget [(hN,X),(wN,([]:List UInt8))] wN=some []:=rfl
   simp only[DSt.files,List.foldl_cons,List.foldl_nil,doF,if_true,h2,Option.getD_some,putD_new,fset]
   rw[if_pos lt_hw,if_neg (by decide)]
  simp only[h1]
  rfl
theorem canonD{b:Nm}{D:DSt}(h:∀f∈namesD D,numN b f=none\/∃k,k<18446744073709551616/\f=fileN b k):Canon b D:=by
 intro f hf n hn
 rcases h f hf with h1 | ⟨k,hk,h1⟩
 ·rw[h1] at hn;cases hn
 ·rw[h1,numN_file b hk] at hn
  injection hn with hn
  subst hn
  exact⟨h1,hk⟩
theorem rec_bound{es:List En}(h:∀x∈es,x.sound):∀y∈es.map En.bytes,y.length<=4200:=by
 intro y hy
 obtain⟨x,hx,rfl⟩:=List.mem_map.1 hy
 exact enBytes_len (h x hx)
theorem recsB_bound:∀(L:List (List UInt8)) (n:Nat),(∀r∈L,r.length<=4200)->(recsB n L).length<=L.length*4230
 | [],_,_=>by simp[recsB]
 | r::t,n,h=>by
  have h1:=recsB_bound t (n+1) (fun x hx=>h x (List.mem_cons_of_mem _ hx))
  have h2:=h r (List.mem_cons_self ..)
  have h3:=putNum_len n
  rw[recsB,List.length_append]
  unfold recB
  rw[frameB_len,List.length_append,List.length_cons]
  omega
theorem way0(r:Int)(h0:0<=r):OpWay (dsk0 r) (dsk0 r) (dsk0 r) (dsk1 r) Sc.zero Sc.zero lg1 [] where
 o1:=open_others (rest_dsk0 r) (fun p hp=>by cases hp)
 o2:=open_others (rest_dsk0 r) (fun p hp=>by cases hp)
 o3:=openW_new r h0
 d0:=rfl
 d1:=rfl
 c0:=by show(0:Nat)<=1000;omega
 c1:=by show(0:Nat)<=1000;omega
 c3:=by show(1:Nat)<=1000;omega
 n0:=fun p hp=>by cases hp
 n1:=fun p hp=>by cases hp
 n3:=fun p hp=>by
  have e:p=(walName 0 1,[]):=by simpa [dsk1,DSt.files] using hp
  subst e
  show(walName 0 1).length<=_
  rw[walName_one];decide
 k0:=fun f hf=>by cases hf
 k1:=fun f hf=>by cases hf
 sx:=by
  have:namesD (dsk1 r)=[wN]:=by rw[dsk1_eq];rfl
  rw[this];decide
 nl:=by show(1:Nat)<=1000;omega
 ess:=fun x hx=>by cases hx
 rcs:=rfl
 ldn:=rfl
 lf:=by decide
 el:=by decide
 era:=by decide
 sn:=fun s hs=>by
  have:s=⟨walName 0 1,1,[0]⟩:=by simpa [lg1] using hs
  subst this
  show(walName 0 1).length<=1000
  rw[walName_one];decide
 sl:=by decide
theorem wayH(r:Int)(x:List UInt8)(hx:x.length<=65520)(es:List En)(hes:∀e∈es,e.sound)(hel:es.length<=1000) :
  OpWay (dskH r (frameB x) (recsB 1 (es.map En.bytes))) (dskH r (frameB x) (recsB 1 (es.map En.bytes))) (dskH r (frameB x) (recsB 1 (es.map En.bytes))) (dskH r (frameB x) (recsB 1 (es.map En.bytes))) ⟨1,1,true,x,[hN]⟩ Sc.zero (lgB (es.map En.bytes)) es where
 o1:=by
  have h:=open_among (b:=nmHard) (rest_dskH r (frameB x) (recsB 1 (es.map En.bytes))) (n:=1) hx (by decide) (F1:=[]) (F2:=[(wN,recsB 1 (es.map En.bytes))]) (by rw[hN_eq];rfl) (by simp) (fun p hp=>by rw[List.mem_singleton.1 hp];exact num_hw)
  rw[hN_eq] at h
  exact h
 o2:=open_others (rest_dskH _ _ _) (fun p hp=>by
  have:p=(hN,frameB x)\/p=(wN,recsB 1 (es.map En.bytes)):=by simpa [dskH] using hp
  rcases this with e | e<;>rw[e]
  ·exact num_sh
  ·exact num_sw)
 o3:=openW_G (rest_dskH _ _ _) (found_dskH _ _ _) rfl (fun y hy=>by have:=rec_bound hes y hy;omega) (by rw[List.length_map];omega)
 d0:=rfl
 d1:=rfl
 c0:=by show(2:Nat)<=1000;omega
 c1:=by show(2:Nat)<=1000;omega
 c3:=by show(2:Nat)<=1000;omega
 n0:=fun p hp=>by
  have:p=(hN,frameB x)\/p=(wN,recsB 1 (es.map En.bytes)):=by simpa [dskH,DSt.files] using hp
  rcases this with e | e<;>rw[e]
  ·exact ok_h
  ·exact ok_w
 n1:=fun p hp=>by
  have:p=(hN,frameB x)\/p=(wN,recsB 1 (es.map En.bytes)):=by simpa [dskH,DSt.files] using hp
  rcases this with e | e<;>rw[e]
  ·exact ok_h
  ·exact ok_w
 n3:=fun p hp=>by
  have:p=(hN,frameB x)\/p=(wN,recsB 1 (es.map En.bytes)):=by simpa [dskH,DSt.files] using hp
  rcases this with e | e<;>rw[e]
  ·show(6:Nat)<=_;decide
  ·show(5:Nat)<=_;decide
 k0:=canonD (fun f hf=>by
  have:f=hN\/f=wN:=by simpa [names_dskH] using hf
  rcases this with e | e<;>rw[e]
  ·exact .inr ⟨1,by decide,hN_eq.symm⟩
  ·exact .inl num_hw)
 k1:=canonD (fun f hf=>by
  have:f=hN\/f=wN:=by simpa [names_dskH] using hf
  rcases this with e | e<;>rw[e]
  ·exact .inl num_sh
  ·exact .inl num_sw)
 sx:=by rw[names_dskH];decide
 nl:=by rw[names_dskH];decide
 ess:=hes
 rcs:=rfl
 ldn:=rfl
 lf:=by show(1:Nat)<=_;decide
 el:=hel
 era:=by show(0:Nat)<=_;decide
 sn:=fun s hs=>by
  have:s=⟨walName 0 1,1,0::marksB 0 1 (es.map En.bytes)⟩:=by simpa [lgB] using hs
  subst this
  show(walName 0 1).length<=1000
  rw[walName_one];decide
 sl:=by show(1:Nat)<=_;decide
theorem fall_dskH(r:Int)(X b:List UInt8)(mask:Nat)(torn:Int):fallD (dskH r X b) mask torn=dskH r X b:=rfl
section
variable {B g:Nat} {S:Nat->Prop} {w w':World}
theorem blk_some{V:Addr}{S:Nat->Prop}(h:¬S V.block):∀k,(some V).map (·.block)=some k->¬S k:=fun k hk=>by
 injection hk with hk
 subst hk
 exact h
theorem sorted_one(f:Fd):Sorted1 [f]/\sortF [f]=[f]:=by
 refine⟨fun i a b h1 h2=>?_,rfl⟩
 have:=(List.getElem?_eq_some_iff.1 h2).1
 simp at this
theorem walOpenOne{D:DSt}{f:Fd}(hf:foundL (namesD D)=[f])(hd:D.down=false)(hnl:∀n∈namesD D,n.length<=1000/\nameOk n=true)(hlen:(namesD D).length<=1000)(hbd:f.era<=1000000000000/\f.first<=1000000000000)(hcnt:D.cnt<=1000)(hfn:∀q∈D.files,q.1.length<=9223372036854775807)(hE:WEnv B w) :
  ∀(S':Nat->Prop) (wx:World),DI S' wx g D->(∀b,S' b->B<=b)->Below B w wx->B<=wx.heap.size->Calls Tryz.prog 27 #[.pointer (some ⟨g,0,none⟩)] wx (OpenE B S' wx g (openW D)):=fun S' wx h1 h2 h3 h4=>by
 obtain⟨s1,s2⟩:=sorted_one f
 exact walOpenG h1 hd (by rw[hf];simp) (by rw[hf];exact s1) (by rw[hf];exact s2) (by rw[hf];simp) hnl hlen (by rw[hf];intro x hx;rw[List.mem_singleton.1 hx];exact hbd) h4 h2 (hE.below h3) hcnt hfn
theorem shot12:shotB 0 0 [1,2] [] 0=true:=by decide
theorem openFirst(r:Int)(h0:0<=r)(hD:DI S w g (dsk0 r))(hB:B<=w.heap.size)(hS:∀b,S b->B<=b)(hE:WEnv B w)(V:Addr)(hv:RV w (some V) (ncells .i64 [1,2]))(hVS:¬S V.block) :
  Calls Tryz.prog 8 #[.pointer (some ⟨g,0,none⟩),.agg (shotC 0 0 [1,2] [] [] (some V) 2 none 0 none 0)] w (OpenG B S w g 0 0 0 0 [1,2] [] [] true [] (openS nmHard Sc.zero) (openS nmShot Sc.zero) lg1 (dsk1 r)) :=
 storeOpenG 0 0 0 0 [1,2] [] [] 0 0 [1,2] [] [] (some V) 2 none 0 none 0 (dsk0 r) (dsk0 r) (dsk0 r) (dsk1 r) Sc.zero Sc.zero lg1 [] (way0 r h0) hD hB hS hE.se hv RV.nil RB.nil (fun _=>blk_some hVS) (fun h=>by simp at h) (fun h=>by simp at h) shot12
  ⟨rfl,.inl ⟨rfl,by decide,rfl,rfl⟩⟩ ⟨rfl,.inl ⟨rfl,by decide,rfl,rfl,rfl,rfl,rfl⟩⟩ (by decide) (by decide)
  (fun S' wx h1 h2 h3 h4=>walOpen0 h1 rfl rfl h4 h2 (hE.se.below h3) (by show(0:Nat)<=1000;omega)) true (by decide) (fun h=>by cases h)
theorem openH(r:Int)(t:Nat)(v:Int)(ht:t<18446744073709551616)(hv5:hardB v=true)(es:List En)(hes:∀e∈es,e.sound)(hel:es.length<=1000)(hD:DI S w g (dskH r (frameB (hardBytes t v)) (recsB 1 (es.map En.bytes))))(hB:B<=w.heap.size)(hS:∀b,S b->B<=b)(hE:WEnv B w)(V:Addr)(hv:RV w (some V) (ncells .i64 [1,2]))(hVS:¬S V.block) :
  Calls Tryz.prog 8 #[.pointer (some ⟨g,0,none⟩),.agg (shotC 0 0 [1,2] [] [] (some V) 2 none 0 none 0)] w (OpenG B S w g t v 0 0 [1,2] [] [] true es (openS nmHard ⟨1,1,true,hardBytes t v,[hN]⟩) (openS nmShot Sc.zero) (lgB (es.map En.bytes)) (dskH r (frameB (hardBytes t v)) (recsB 1 (es.map En.bytes)))):=by
 have hlen:=hardBytes_len t v
 unfold hardB at hv5
 simp only[Bool.and_eq_true,decide_eq_true_eq] at hv5
 have h:=storeOpenG t v 0 0 [1,2] [] [] 0 0 [1,2] [] [] (some V) 2 none 0 none 0 _ _ _ _ _ _ _ es (wayH r (hardBytes t v) (by omega) es hes hel) hD hB hS hE.se hv RV.nil RB.nil (fun _=>blk_some hVS) (fun h=>by simp at h) (fun h=>by simp at h) shot12
  ⟨rfl,.inr ⟨rfl,rfl,ht,hv5.1,hv5.2⟩⟩ ⟨rfl,.inl ⟨rfl,by decide,rfl,rfl,rfl,rfl,rfl⟩⟩ (by decide) (by decide)
  (walOpenOne (found_dskH _ _ _) rfl (fun n hn=>by
   have:n=hN\/n=wN:=by simpa [names_dskH] using hn
   rcases this with e | e<;>rw[e]
   ·exact⟨by decide,ok_h⟩
   ·exact⟨by decide,ok_w⟩) (by rw[names_dskH];decide) ⟨by decide,by decide⟩ (by show(2:Nat)<=1000;omega) (wayH r (hardBytes t v) (by omega) es hes hel).n3 hE) true (by
   have:(lgB (es.map En.bytes)).first=1:=rfl
   unfold fitsB
   rw[this]
   rfl) (fun h=>by cases h)
 exact h
end
section
variable {w w':World}
theorem field_term(a b:Value)(w:World):(Instr.field 25 (.agg #[a,b]) 0).run Tryz.prog w=.ok a w:=by kernel_rfl
theorem lawAnswersS(w:World)(hE:SEnv w.heap.size w):Calls Tryz.prog 11 #[] w fun e w'=>e=.returned (.bool true)/\Below w.heap.size w w':=by
 have HE:=qh hE
 have ND:=qh (diskNew 9000 w (by decide) (by decide))
 clear hE
 go_enter Tryz.func11,Tryz.ntmps11
 go_wp2_with (go_at_call 7;refine ND.out.mono ?_)
 first | rintro e w1 ⟨g,rfl,hd,b1⟩ | rintro e w1 g rfl hd b1
 have HB1:=qh b1
 have HD:=qh hd
 clear b1 hd ND
 go_wp2_with fail
 refine lawFirst.mono ?_
 rintro e w2 ⟨V,rfl,ho,b2⟩
 have hb2:=belowTrans HB1.out b2
 have hsz1:=HB1.out.size
 have OP:=qh (storeOpenYes (B:=w.heap.size) (g:=g) 0 0 [1,2] [] [] (some V) 2 none 0 none 0 (HD.out.below b2) hb2.size (fun b e=>e.1) (HE.out.below hb2) ho.rv RV.nil RB.nil
  (fun _ k hk e=>by have h1:=(ho.blk_lt k hk).1;have h2:=e.2;omega) (fun h0=>by cases h0) (fun h0=>by cases h0) (by decide))
 have HB2:=qh hb2
 have HNS:Hid (∀b,News w w1 b->w.heap.size<=b/\b<w1.heap.size):=qh (fun b e=>e)
 clear ho b2 hb2 HD
 go_wp2_with fail
 refine OP.out.mono ?_
 rintro e w3 ⟨q,ph,ps,pl,nb,A,ac,Bb,bc,C,cc,A',ac',B',bc',C',cc',rfl,hq,o1,o2,o3,hqw,hqn,m3,hy⟩
 obtain⟨S3,V3,cv3,O3,co3,r3,k3,hqS,hSn,hpn,hqp⟩:=hy rfl
 have hb3:Below w.heap.size w w3:=Mods.old HB2.out m3 HB2.out.size (fun i _ e=>(HNS.out i e).1)
 have hb4:Below w3.heap.size w3 (w3.alloc (.cells state0 38)):=(Below.refl _ _).alloc (Nat.le_refl _) _
 have T4:=qh (Blk.new w3 state0 38)
 have hB4:=below_setRow (g:=w3.heap.size) (hb3.trans (hb4.mono hb3.size)) hb3.size (stateC 0 0 0 0 [1,2] [] [] A' ac' B' bc' C' cc')
 have hB43:=below_setRow (g:=w3.heap.size) hb4 (Nat.le_refl _) (stateC 0 0 0 0 [1,2] [] [] A' ac' B' bc' C' cc')
 obtain⟨w4,hw4⟩:∃w4,w4=(w3.alloc (.cells state0 38)).setRow w3.heap.size (stateC 0 0 0 0 [1,2] [] [] A' ac' B' bc' C' cc'):=⟨_,rfl⟩
 rw[<-hw4] at hB4 hB43
 have HW4:=qh hw4.symm
 have o1':=o1.below hB43
 have r4:=r3.below hB43
 have SH:=qh (storeSaveHard (nb:=nb) 5 2 [1,2] A ac Bb bc C cc (hq.kept hB43) r4 hB4.size (HE.out.below hB4) hqS hqp o1' hSn hpn hqn (by decide) (by decide))
 have hsg:∀b,S3 b->w.heap.size<=b:=r3.sge
 have hpg:=r3.ge
 have G4:=qh (And.intro hB4 (And.intro hsg hpg))
 have HR:=qh (And.intro (o2.below hB43) (And.intro (o3.below hB43) (And.intro r4.di.bnd hSn)))
 have hqw':w.heap.size<=q:=by have:=HB2.out.size;omega
 clear OP hq o1 o2 o3 m3 hy r3 k3 hb3 hb4 hB4 hB43 hw4 o1' r4 hsg HB1 HNS
 go_wp2_with (first
  | (refine wpList_store_row rfl 38 (.tmp 4) (.tmp 16) rfl w3.heap.size (stateC 0 0 0 0 [1,2] [] [] A' ac' B' bc' C' cc') rfl rfl _ _ T4.out state_size rfl (by simp[Value.oneCell']) ?_;rw[HW4.out])
  | (go_at_call 14;refine SH.out.mono ?_))
 rintro e w5 ⟨rfl,hq5,o5,m5⟩
 have HB5:=qh (Mods.old G4.out.1 m5 G4.out.1.size (fun i _ e=>e.elim (G4.out.2.1 i) (fun e=>e.elim (fun e=>by rw[e];exact G4.out.2.2) (fun e=>by rw[e];exact hqw'))))
 have ST:=qh (storeState 5 2 0 0 [1,2] [] [] A ac Bb bc C cc hq5 o5.rv RV.nil RB.nil (by decide) (by decide) (by decide))
 clear SH hq5 o5 m5 G4 HR
 go_wp2_with (go_at_call 16;refine ST.out.mono ?_)
 rintro e w6 ⟨A6,ac6,B6,bc6,C6,cc6,rfl,_,_,_,b6⟩
 have HB6:=qh (HB5.out.trans (b6.mono HB5.out.size))
 have f1:=field_hard (.int .u64 5) (.int .i64 2) (.int .u64 0) (.int .u64 0) (.slice A6 2 ac6) (.slice B6 0 bc6) (.slice C6 0 cc6) (.slice none 0 0) w6
 have f2:=field_term (.int .u64 5) (.int .i64 2) w6
 clear b6 ST HB5
 unfold stateC
 go_wp2_with fail
 go_ret
 exact⟨rfl,HB6.out⟩
end
section
variable {w w':World}
theorem refSameEntry(i t:Nat)(k d:Int)(x:List UInt8)(D D':Option Addr)(dc dc':Nat)(w:World)(h:RB w D x)(h':RB w D' x) :
  Calls Tryz.prog 53 #[.agg (enC i t k d x D dc),.agg (enC i t k d x D' dc')] w fun e w'=>e=.returned (.bool true)/\Below w.heap.size w w':=by
 have hal:Below w.heap.size w ((w.alloc (.cells (enC i t k d x D dc) 44)).alloc (.cells (enC i t k d x D' dc') 44)):=((Below.refl _ _).alloc (Nat.le_refl _) _).alloc (by simp) _
 have HAL:=qh hal
 have k1:(convert 34 9 (.slice D x.length dc)).run Tryz.prog ((w.alloc (.cells (enC i t k d x D dc) 44)).alloc (.cells (enC i t k d x D' dc') 44))=.ok (.string ⟨x.toArray⟩) _:=convB dc (h.below hal)
 have k2:(convert 34 9 (.slice D' x.length dc')).run Tryz.prog ((w.alloc (.cells (enC i t k d x D dc) 44)).alloc (.cells (enC i t k d x D' dc') 44))=.ok (.string ⟨x.toArray⟩) _:=convB dc' (h'.below hal)
 clear h h' hal
 unfold enC at *
 go_enter Tryz.func53,Tryz.ntmps53
 go_wp2_with fail
 go_ret
 exact⟨rfl,HAL.out⟩
theorem refSameEntries(E F:Option Addr)(c c':Nat)(es fs:List ERow)(w:World)(h:EL w E es)(h':EL w F fs)(he:es.map Prod.fst=fs.map Prod.fst)(hn:es.length<=1000000) :
  Calls Tryz.prog 23 #[.slice E es.length c,.slice F fs.length c'] w fun e w'=>e=.returned (.bool true)/\Below w.heap.size w w':=by
 have hl:fs.length=es.length:=by simpa using (congrArg List.length he).symm
 rw[hl]
 have HL:=qh h
 have HL':=qh h'
 have HE:=qh (And.intro he hl)
 clear h h' he hl
 go_enter Tryz.func23,Tryz.ntmps23
 go_wp2_with fail
 go_loopw [5] (fun s5 wr=>∃(k:Nat),k<=es.length/\s5=.int .i64 (k:Int)/\Hid (Below w.heap.size w wr))
  (fun s5 _=>es.length - (intOf s5).toNat)
 case atStart=>exact⟨0,Nat.zero_le _,rfl,qh (Below.refl _ _)⟩
 case round =>
  obtain⟨k,hk,rfl,HB⟩:=hrel
  by_cases hlt:k<es.length
  ·have hlt':k<fs.length:=by rw[HE.out.2];exact hlt
   have hEL:=HL.out.below HB.out
   have hFL:=HL'.out.below HB.out
   obtain⟨b,off,rfl,hb,hc⟩:=hEL.at_ hlt
   obtain⟨b2,off2,rfl,hb2,hc2⟩:=hFL.at_ hlt'
   have hx:=(hEL.rb es[k] (List.getElem_mem hlt)).1
   have hy:=(hFL.rb fs[k] (List.getElem_mem hlt')).1
   have hxy:es[k].1=fs[k].1:=by
    have h1:(es.map Prod.fst)[k]?=some es[k].1:=by rw[List.getElem?_map,List.getElem?_eq_getElem hlt];rfl
    have h2:(fs.map Prod.fst)[k]?=some fs[k].1:=by rw[List.getElem?_map,List.getElem?_eq_getElem hlt'];rfl
    rw[HE.out.1,h2] at h1
    injection h1 with h1
    exact h1.symm
   generalize es[k]=x at hc hx hxy
   generalize fs[k]=y at hc2 hy hxy
   obtain⟨⟨i,t,kd,dl,dt⟩,D,dc⟩:=x
   obtain⟨y1,D2,dc2⟩:=y
   simp only at hxy
   subst hxy
   simp only[er] at hc hx hc2 hy
   have HX:=qh (And.intro hx (And.intro hy (And.intro hc hc2)))
   have hbs:=HB.out.size
   clear hEL hFL hc hx hc2 hy
   go_wp2_with fail
   refine wp_region_planE_gen (by kernel_rfl) [(0,none),(1,none),(2,none),(3,none),(4,none),(5,none),(6,none),(7,none),(8,some [3,7]),(9,none)] (by kernel_rfl) (by kernel_rfl) (by decide) ?_
   intro wq hwq
   have hq:Below wr.heap.size wr wq:=by rw[hwq];exact(Below.refl _ _).drew
   obtain⟨hx,hy,hc,hc2⟩:=HX.out
   have SE:=qh (refSameEntry i t kd dl dt D D2 dc dc2 wq (hx.below hq) (hy.below hq))
   have a0:=(hq.cell (p:=⟨b,off+k*5,none⟩) hb).trans (hc 0 (.int .u64 (i:Int)) rfl)
   have a1:=(hq.cell (p:=⟨b,off+k*5+1,none⟩) hb).trans (hc 1 (.int .u64 (t:Int)) rfl)
   have a2:=(hq.cell (p:=⟨b,off+k*5+2,none⟩) hb).trans (hc 2 (.int .i64 kd) rfl)
   have a3:=(hq.cell (p:=⟨b,off+k*5+3,none⟩) hb).trans (hc 3 (.int .i64 dl) rfl)
   have a4:=(hq.cell (p:=⟨b,off+k*5+4,none⟩) hb).trans (hc 4 (.slice D dt.length dc) rfl)
   have e0:=(hq.cell (p:=⟨b2,off2+k*5,none⟩) hb2).trans (hc2 0 (.int .u64 (i:Int)) rfl)
   have e1:=(hq.cell (p:=⟨b2,off2+k*5+1,none⟩) hb2).trans (hc2 1 (.int .u64 (t:Int)) rfl)
   have e2:=(hq.cell (p:=⟨b2,off2+k*5+2,none⟩) hb2).trans (hc2 2 (.int .i64 kd) rfl)
   have e3:=(hq.cell (p:=⟨b2,off2+k*5+3,none⟩) hb2).trans (hc2 3 (.int .i64 dl) rfl)
   have e4:=(hq.cell (p:=⟨b2,off2+k*5+4,none⟩) hb2).trans (hc2 4 (.slice D2 dt.length dc2) rfl)
   have HQ:=qh hq
   clear hwq hq hx hy hc hc2
   iterate 3 (refine planE_pureA ?_)
   refine planE_cellsA [(⟨b,off+k*5,none⟩,.int .u64 (i:Int)),(⟨b,off+k*5+1,none⟩,.int .u64 (t:Int)),(⟨b,off+k*5+2,none⟩,.int .i64 kd),(⟨b,off+k*5+3,none⟩,.int .i64 dl),(⟨b,off+k*5+4,none⟩,.slice D dt.length dc)] ?_
   iterate 3 (refine planE_pureA ?_)
   refine planE_cellsA [(⟨b2,off2+k*5,none⟩,.int .u64 (i:Int)),(⟨b2,off2+k*5+1,none⟩,.int .u64 (t:Int)),(⟨b2,off2+k*5+2,none⟩,.int .i64 kd),(⟨b2,off2+k*5+3,none⟩,.int .i64 dl),(⟨b2,off2+k*5+4,none⟩,.slice D2 dt.length dc2)] ?_
   refine planE_eff rfl (by rfl) (fun K hK=>?_)
   go_simp
   refine SE.out.mono ?_
   rintro e w3 ⟨rfl,b3⟩
   have HB3:=qh (HB.out.trans ((HQ.out.trans (b3.mono HQ.out.size)).mono hbs))
   clear b3 HQ SE
   refine planE_ownA hK ?_
   clear hK K
   iterate 1 (refine planE_pureA ?_)
   refine planE_end ?_
   go_wp2_with fail
   go_roundw
   case rel=>exact⟨k+1,by omega,by go_num,HB3⟩
   case measure=>simp[intOf];omega
  ·go_wp2_with fail
   go_ret
   exact⟨by refine ret_boolB ?_;simp,HB.out⟩
theorem refHardOK(t:Nat)(v:Int)(w:World)(r:Bool)(hr:hardB v=r) :
  Calls Tryz.prog 13 #[.agg #[.int .u64 (t:Int),.int .i64 v]] w fun e w'=>e=.returned (.bool r)/\Below w.heap.size w w':=by
 have HAL:Hid (Below w.heap.size w (w.alloc (.cells #[.int .u64 (t:Int),.int .i64 v] 25))):=qh ((Below.refl _ _).alloc (Nat.le_refl _) _)
 have HR:=qh hr
 clear hr
 go_enter Tryz.func13,Tryz.ntmps13
 by_cases h0:0<=v
 ·go_wp2_with fail
  go_ret
  exact⟨by rw[<-HR.out];unfold hardB;refine ret_boolB ?_;simp[h0],HAL.out⟩
 ·go_wp2_with fail
  go_ret
  exact⟨by rw[<-HR.out];unfold hardB;refine ret_boolB ?_;rw[decide_eq_false (show ¬0<=v by omega)];rfl,HAL.out⟩
theorem hard_eq(t v:Int)(w:World):(Op.equalIn 10000 25 (.agg #[.int .u64 t,.int .i64 v]) (.agg #[.int .u64 t,.int .i64 v])).run Tryz.prog w=.ok true w:=by
 have u1:=Tryz.underlying3
 have a1:=Tryz.isAgg3
 have z1:=Tryz.sizeOf3
 have u3:=Tryz.underlying23
 have a3:=Tryz.isAgg23
 have z3:=Tryz.sizeOf23
 have hS:=Tryz.underlying25
 unfold Op.equalIn
 simp only[Sem.run_bind,run_underlying hS,Result.andThen_ok]
 go_simp
theorem range_mid{q o n:Nat}{T:TypeId}{cs:Array Value}(h:Blk w q T cs)(_hn:o+n<=cs.size):w.rangeAt q o ((cs.toList.drop o).take n):=fun j v hj=>by
 rw[List.getElem?_take] at hj
 split at hj
 ·rename_i hjn
  rw[List.getElem?_drop] at hj
  exact h.cell (o+j) (by rw[<-hj];simp)
 ·cases hj
theorem lawSame(ht:Nat)(hv:Int)(i t:Nat)(v l:List Int)(d:List UInt8)(V L D V' L' D':Option Addr)(vc lc dc vc' lc' dc':Nat)(E F:Option Addr)(ec fc:Nat)(es fs:List ERow)(w:World)(h1:RV w V (ncells .i64 v))(h2:RV w L (ncells .i64 l))(h3:RB w D d)(h1':RV w V' (ncells .i64 v))(h2':RV w L' (ncells .i64 l))(h3':RB w D' d)
  (hE:EL w E es) (hF:EL w F fs) (he:es.map Prod.fst=fs.map Prod.fst) (hn:es.length<=1000000) (n1:v.length<=1000000) (n2:l.length<=1000000) :
  Calls Tryz.prog 18 #[.agg (stateL ht hv i t v l d V vc L lc D dc E es.length ec),.agg (stateL ht hv i t v l d V' vc' L' lc' D' dc' F fs.length fc)] w fun e w'=>e=.returned (.bool true)/\Below w.heap.size w w':=by
 have hal:Below w.heap.size w ((w.alloc (.cells (stateL ht hv i t v l d V vc L lc D dc E es.length ec) 38)).alloc (.cells (stateL ht hv i t v l d V' vc' L' lc' D' dc' F fs.length fc) 38)):=((Below.refl _ _).alloc (Nat.le_refl _) _).alloc (by simp) _
 have z1:=(Blk.new w (stateL ht hv i t v l d V vc L lc D dc E es.length ec) 38).below (((Below.refl (w.heap.size+1) _).alloc (by simp) (.cells (stateL ht hv i t v l d V' vc' L' lc' D' dc' F fs.length fc) 38))) (Nat.lt_succ_self _)
 have z2:=Blk.new (w.alloc (.cells (stateL ht hv i t v l d V vc L lc D dc E es.length ec) 38)) (stateL ht hv i t v l d V' vc' L' lc' D' dc' F fs.length fc) 38
 have hws1:(w.alloc (.cells (stateL ht hv i t v l d V vc L lc D dc E es.length ec) 38)).heap.size=w.heap.size+1:=by simp
 rw[hws1] at z2
 have G0:=qh (range_mid (o:=0) (n:=2) z1 (by simp))
 have G1:=qh (range_mid (o:=2) (n:=5) z1 (by simp))
 have K0:=qh (range_mid (o:=0) (n:=2) z2 (by simp))
 have K1:=qh (range_mid (o:=2) (n:=5) z2 (by simp))
 have SS:=qh (refSameShot i t i t v l v l d d V L D V' L' D' vc lc dc vc' lc' dc' _ (h1.below hal) (h2.below hal) (h3.below hal) (h1'.below hal) (h2'.below hal) (h3'.below hal) (by omega) (by omega) (by omega) (by omega) true (by simp))
 have H0:=qh (And.intro z1 (And.intro z2 (And.intro (hE.below hal) (And.intro (hF.below hal) (And.intro hal he)))))
 have heq:=hard_eq (ht:Int) hv
 clear hal z1 z2 hws1 h1 h2 h3 h1' h2' h3' hE hF he
 unfold stateL at *
 go_enter Tryz.func18,Tryz.ntmps18
 go_wp2_with (first
  | (refine wpList_load_mid rfl 25 (.tmp 5) rfl w.heap.size 0 rfl [.int .u64 (ht:Int),.int .i64 hv] _ G0.out Tryz.underlying25 rfl hard_size ?_)
  | (refine wpList_load_mid rfl 25 (.tmp 7) rfl (w.heap.size+1) 0 rfl [.int .u64 (ht:Int),.int .i64 hv] _ K0.out Tryz.underlying25 rfl hard_size ?_)
  | (refine wpList_load_mid rfl 36 (.tmp 11) rfl w.heap.size 2 rfl [.int .u64 (i:Int),.int .u64 (t:Int),.slice V v.length vc,.slice L l.length lc,.slice D d.length dc] _ G1.out Tryz.underlying36 rfl shot_size ?_)
  | (refine wpList_load_mid rfl 36 (.tmp 13) rfl (w.heap.size+1) 2 rfl [.int .u64 (i:Int),.int .u64 (t:Int),.slice V' v.length vc',.slice L' l.length lc',.slice D' d.length dc'] _ K1.out Tryz.underlying36 rfl shot_size ?_))
 refine SS.out.mono ?_
 rintro e w3 ⟨rfl,b3⟩
 obtain⟨z1,z2,hE,hF,hal,he⟩:=H0.out
 have y1:=(z1.kept b3).cell 7 (v:=.slice E es.length ec) rfl
 have y2:=(z2.kept b3).cell 7 (v:=.slice F fs.length fc) rfl
 have SE:=qh (refSameEntries E F ec fc es fs w3 (hE.below b3) (hF.below b3) he hn)
 have HB:=qh (belowTrans hal b3)
 clear z1 z2 hE hF hal he b3 SS H0 G0 G1 K0 K1 heq
 go_wp2_with fail
 refine SE.out.mono ?_
 rintro e w4 ⟨rfl,b4⟩
 have HB4:=qh (belowTrans HB.out b4)
 clear b4 SE y1 y2
 go_wp2_with fail
 go_ret
 exact⟨rfl,HB4.out⟩
end
end Go.Proofs.YtobdmlejabjmiaaGreatDoor
