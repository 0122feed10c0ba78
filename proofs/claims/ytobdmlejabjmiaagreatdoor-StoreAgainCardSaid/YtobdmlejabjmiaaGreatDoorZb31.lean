/- Made small by a program. -/
import Derived.Test.YtobdmlejabjmiaaGreatDoorZb30
set_option maxRecDepth 20000
set_option maxHeartbeats 8000000
namespace Go.Proofs.YtobdmlejabjmiaaGreatDoor
open Go.RowKit
section
variable {B p g sc rc:Nat} {S F F' T:Nat->Prop} {w w':World} {l l':Lg} {D D':DSt} {Z Z' Z1 Z2:List (Sg × Pl)} {Y Y':List (List UInt8 × Option Addr × Nat)} {SA RA SA' RA':Option Addr} {s s':Sg} {z:Pl} {sc' rc' n:Nat}
theorem LX.wideN(h:LX B S F w p g l D Z Y SA sc RA rc)(hB:B<=n)(hS:∀b,S b->b<n):LX B S (fun b=>F b\/(n<=b/\b<w.heap.size)) w p g l D Z Y SA sc RA rc :=
 ⟨h.blk,.inl h.fp,h.zs,h.ys,h.lb.wide (fun b hb=>.inl hb) (fun b hb=>hb.elim (h.lb.dis b) (fun hb hs=>by have:=hS b hs;omega)) (fun b hb=>hb.elim (h.lb.bnd b) (fun hb=>⟨by omega,hb.2⟩))⟩
end
theorem files_len(D:DSt):D.files.length<=D.cnt:=by
 unfold DSt.files DSt.cnt
 generalize D.sure=F
 induction D.unsure generalizing F with
 | nil=>simp
 | cons u t ih =>
  rw[List.foldl_cons,List.length_cons]
  have h1:=ih (doF F u)
  have h2:=doF_len F u
  omega
theorem syncD_cnt(D:DSt):(syncD D).2.cnt<=D.cnt:=by
 unfold syncD
 split
 ·exact Nat.le_refl _
 ·split
  ·unfold DSt.cnt;rw[burnD_sure,burnD_unsure];exact Nat.le_refl _
  ·have:=files_len D
   show D.files.length+0<=_
   omega
theorem fell_ok{l:Lg}(h:l.down=false):l.fell 0=l:=by
 unfold Lg.fell
 rw[h]
 exact lup_same l h
theorem syncW_ok{l:Lg}{D:DSt}(hd:l.down=false)(h:(syncW l D).1=0):(syncW l D).2.1=l/\(syncW l D).2.2.cnt<=D.cnt:=by
 unfold syncW at h ⊢
 rw[if_neg (by rw[hd];simp)] at h ⊢
 simp only at h ⊢
 rw[h]
 exact⟨fell_ok hd,syncD_cnt D⟩
section
variable {B p g sc rc:Nat} {S F F' T:Nat->Prop} {w w' wr:World} {l l':Lg} {D D':DSt} {Z Z' Z1 Z2:List (Sg × Pl)} {Y Y':List (List UInt8 × Option Addr × Nat)} {SA RA SA' RA':Option Addr} {s s':Sg} {z:Pl} {sc' rc' n:Nat}
end
theorem str_info3:(Tryz.prog.info? 9).map (fun i=>(i.zero,i.size,i.bytes))=some (some (.string ⟨#[]⟩),1,16):=by kernel_rfl
section
variable {B p g sc rc:Nat} {S F F' T:Nat->Prop} {w w' wr:World} {l l':Lg} {D D':DSt} {Z Z' Z1 Z2:List (Sg × Pl)} {Y Y':List (List UInt8 × Option Addr × Nat)} {SA RA SA' RA':Option Addr} {s s':Sg} {z:Pl} {sc' rc' n:Nat}
end
end Go.Proofs.YtobdmlejabjmiaaGreatDoor
namespace Go.Proofs.YtobdmlejabjmiaaGreatDoor
open Go.Lib
theorem files_snoc(D:DSt)(u:Wr):({ D with unsure:=D.unsure++[u] }:DSt).files=doF D.files u:=by
 unfold DSt.files
 rw[List.foldl_append]
 rfl
section
variable {D:DSt} {c:Nat} {f:Nm} {x:List UInt8} {off:Nat} {l:Lg}
end
section
variable {L:List (List UInt8)} {n c:Nat} {l:Lg} {D:DSt}
end
end Go.Proofs.YtobdmlejabjmiaaGreatDoor
