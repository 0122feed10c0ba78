/- Plain: a segment that is read anew holds what was put into it. -/
import Derived.Test.YtjgonfnpfbifjaaGreatDoorWalL
import Derived.Test.YtjgonfnpfbifjaaGreatDoorBackNum
namespace Go.Proofs.YtjgonfnpfbifjaaGreatDoor
open Go.Lib

theorem unfrAt_mid (p d f q : List UInt8) (hf : f = four4 d.length ++ four4 (crc (four4 d.length ++ d)) ++ d) (hd : d.length ≤ 65536) : unfrAt (p ++ (f ++ q)) (p.length : Int) = (d, (p.length : Int) + 8 + (d.length : Int), 0) := by
  have hfl : f.length = 8 + d.length := by rw [hf]; simp [four4]; omega
  have hcl : crc (four4 d.length ++ d) < 4294967296 := by unfold crc; omega
  have e0 : (p ++ (f ++ q)).drop p.length = f ++ q := List.drop_left' rfl
  have e4 : (p ++ (f ++ q)).drop (p.length + 4) = four4 (crc (four4 d.length ++ d)) ++ (d ++ q) := by
    rw [← List.drop_drop, e0, hf, List.append_assoc, List.append_assoc]
    exact List.drop_left' rfl
  have e8 : (p ++ (f ++ q)).drop (p.length + 8) = d ++ q := by
    rw [← List.drop_drop, e0, hf, List.append_assoc (four4 d.length ++ _)]
    exact List.drop_left' (by simp [four4])
  have t4 : (f ++ q).take 4 = four4 d.length := by rw [hf, List.append_assoc, List.append_assoc]; exact List.take_left' rfl
  have hn : unB (four4 d.length) = d.length := un_four (by omega)
  have td : (d ++ q).take d.length = d := List.take_left' rfl
  rw [unfrAt, if_pos (by simp; omega), if_neg (by simp; omega), Int.toNat_natCast, e0, e4, e8, t4, hn, if_neg (by omega), if_neg (by simp; omega), if_pos]
  · rw [td]
  · rw [td, List.take_left' (show (four4 (crc (four4 d.length ++ d))).length = 4 from rfl), un_four hcl]
theorem recAt_mid (p q r : List UInt8) (n : Nat) (hn : n < 18446744073709551616) (hr : r.length ≤ 65520) : recAt (p ++ (recB n r ++ q)) p.length n = some (r, p.length + (recB n r).length) := by
  have hl := low_len n
  have hpl : (putNum n).length ≤ 9 := by
    unfold putNum
    simp only [List.length_cons, List.length_reverse]
    omega
  have hd : (putNum n ++ r).length ≤ 65536 := by rw [List.length_append]; omega
  have hu := unfrAt_mid p (putNum n ++ r) (recB n r) q rfl hd
  have hnum := numAt_put [] r n hn
  rw [List.nil_append] at hnum
  have hnum0 : numAt (putNum n ++ r) 0 = ((n : Int), ((putNum n).length : Int), 0) := by simpa using hnum
  unfold recAt
  rw [hu]
  simp only [hnum0]
  rw [if_pos ⟨trivial, trivial, trivial⟩]
  have hrl : (recB n r).length = 8 + (putNum n ++ r).length := by unfold recB; exact frameB_len _
  rw [hrl]
  congr 1
  refine Prod.ext ?_ ?_
  · simp
  · show ((p.length : Int) + 8 + ((putNum n ++ r).length : Int)).toNat = _
    omega
theorem recB_pos (n : Nat) (r : List UInt8) : 0 < (recB n r).length := by unfold recB; rw [frameB_len]; omega
/-- The records of a row of records, read from its first one on. -/
theorem scanR_recs : ∀ (L : List (List UInt8)) (n k : Nat) (p : List UInt8), (∀ r ∈ L, r.length ≤ 65520) → n + L.length < 18446744073709551616 → (recsB n L).length ≤ k → scanR (p ++ recsB n L) k p.length n = (L, marksB p.length n L)
  | [], n, k, p, _, _, _ => by
    cases k with
    | zero => rfl
    | succ k => simp [scanR, recsB, marksB]
  | r :: t, n, k, p, h, hn, hk => by
    have hr := recB_pos n r
    rw [recsB, List.length_append] at hk
    obtain ⟨k, rfl⟩ : ∃ j, k = j + 1 := ⟨k - 1, by omega⟩
    simp only [List.length_cons] at hn
    have h1 := recAt_mid p (recsB (n + 1) t) r n (by omega) (h r (List.mem_cons_self ..))
    have h2 := scanR_recs t (n + 1) k (p ++ recB n r) (fun x hx => h x (List.mem_cons_of_mem _ hx)) (by omega) (by omega)
    rw [List.append_assoc, List.length_append] at h2
    rw [recsB, scanR, if_pos (by simp only [List.length_append]; omega), h1]
    simp only [h2, marksB]
theorem scanF_recs (L : List (List UInt8)) (n : Nat) (h : ∀ r ∈ L, r.length ≤ 65520) (hn : n + L.length < 18446744073709551616) : scanF (recsB n L) n = (L, marksB 0 n L) := by
  have := scanR_recs L n (recsB n L).length [] h hn (Nat.le_refl _)
  simpa [scanF] using this
/-- Where the last of the records ends. -/
theorem marksB_last : ∀ (L : List (List UInt8)) (i n : Nat), (i :: marksB i n L).getLastD 0 = i + (recsB n L).length
  | [], i, n => by simp [marksB, recsB]
  | r :: t, i, n => by
    have h := marksB_last t (i + (recB n r).length) (n + 1)
    rw [marksB, recsB, List.length_append]
    simp only [List.getLastD_cons] at h ⊢
    rw [h]; omega
/-- A step of the scan. -/
theorem scan_step {b : List UInt8} {n j k m : Nat} (h : scanR b k m (n + j) = ((scanF b n).1.drop j, (scanF b n).2.drop j)) (hk : b.length ≤ m + k) (hm : m < b.length) {r : List UInt8} {nx : Nat} (hr : recAt b m (n + j) = some (r, nx)) :
    (scanF b n).1[j]? = some r ∧ (scanF b n).2[j]? = some nx ∧ ∃ k', scanR b k' nx (n + (j + 1)) = ((scanF b n).1.drop (j + 1), (scanF b n).2.drop (j + 1)) ∧ b.length ≤ nx + k' := by
  obtain ⟨k', rfl⟩ : ∃ i, k = i + 1 := ⟨k - 1, by omega⟩
  rw [scanR, if_pos hm, hr] at h
  injection h with h1 h2
  have e1 : (scanF b n).1[j]? = some r := by
    have : ((scanF b n).1.drop j)[0]? = some r := by rw [← h1]; rfl
    simpa using this
  have e2 : (scanF b n).2[j]? = some nx := by
    have : ((scanF b n).2.drop j)[0]? = some nx := by rw [← h2]; rfl
    simpa using this
  refine ⟨e1, e2, k', ?_, by have := (recAt_ok hr).1; omega⟩
  refine Prod.ext ?_ ?_
  · show (scanR b k' nx (n + (j + 1))).1 = (scanF b n).1.drop (j + 1)
    rw [← List.drop_drop, ← h1]; rfl
  · show (scanR b k' nx (n + (j + 1))).2 = (scanF b n).2.drop (j + 1)
    rw [← List.drop_drop, ← h2]; rfl
theorem scan_end {b : List UInt8} {n j k m : Nat} (h : scanR b k m (n + j) = ((scanF b n).1.drop j, (scanF b n).2.drop j)) (he : ¬ m < b.length ∨ recAt b m (n + j) = none) : (scanF b n).1.drop j = [] ∧ (scanF b n).2.drop j = [] := by
  have e : scanR b k m (n + j) = ([], []) := by
    cases k with
    | zero => rfl
    | succ k =>
      rw [scanR]
      rcases he with he | he
      · rw [if_neg he]
      · split
        · rw [he]
        · rfl
  rw [e] at h
  injection h with h1 h2
  exact ⟨h1.symm, h2.symm⟩

/-! ### One segment, opened anew -/
theorem walName_one : walName 0 1 = [119, 46, 48, 46, 49] := by
  have h0 : Go.Lib.decDigits 0 = [48] := by rw [Go.Lib.decDigits]; simp
  have h1 : Go.Lib.decDigits 1 = [49] := by rw [Go.Lib.decDigits]; simp
  unfold walName
  rw [h0, h1]; rfl
theorem partsN_one : partsN (walName 0 1) = some (0, 1) := by
  rw [walName_one]
  have h : parts 46 [119, 46, 48, 46, 49] = [[119], [48], [49]] := by simp [parts]
  have h0 : Go.Lib.parseUintB 64 [48] = .ok 0 := by decide
  have h1 : Go.Lib.parseUintB 64 [49] = .ok 1 := by decide
  unfold partsN
  rw [h]
  simp [h0, h1]
/-- A disk that holds one segment, all of it sure. -/
def dskB (r : Int) (b : List UInt8) : DSt := ⟨[(walName 0 1, b)], [], r, 0, false⟩
/-- A log of one segment. -/
def lgB (x : List (List UInt8)) : Lg := ⟨0, [⟨walName 0 1, 1, 0 :: marksB 0 1 x⟩], x, 1, false⟩
theorem nameOk_one : nameOk (walName 0 1) = true := by rw [walName_one]; decide
theorem fallD_B (r : Int) (b : List UInt8) (mask : Nat) (torn : Int) : fallD (dskB r b) mask torn = dskB r b := rfl
theorem syncD_B (r : Int) (b : List UInt8) : syncD (dskB r b) = (0, dskB r b) := rfl
theorem foundB (r : Int) (b : List UInt8) : foundL (namesD (dskB r b)) = [⟨walName 0 1, 0, 1⟩] := by
  have h : namesD (dskB r b) = [walName 0 1] := rfl
  rw [h]
  simp [foundL, partsN_one]
theorem fgetB (r : Int) (b : List UInt8) : fget (dskB r b).files (walName 0 1) = some b := by
  show fget [(walName 0 1, b)] (walName 0 1) = some b
  simp [fget]
theorem openW_B (r : Int) (x : List (List UInt8)) (h : ∀ y ∈ x, y.length ≤ 65520) (hn : 1 + x.length < 18446744073709551616) : openW (dskB r (recsB 1 x)) = (0, lgB x, dskB r (recsB 1 x)) := by
  have hs := scanF_recs x 1 h hn
  have hl := marksB_last x 0 1
  unfold openW
  rw [foundB]
  show loadF [⟨walName 0 1, 0, 1⟩] ⟨0, [], [], 1, false⟩ true (dskB r (recsB 1 x)) = _
  have hst : stopF (dskB r (recsB 1 x)) ⟨walName 0 1, 0, 1⟩ = ((fget (dskB r (recsB 1 x)).files (walName 0 1)).getD []).length := by
    unfold stopF
    simp only [fgetB, Option.getD_some, hs]
    rw [hl]; omega
  unfold loadF
  rw [if_neg (by simp [unfit]), if_pos hst]
  have ht : takeF ⟨0, [], [], 1, false⟩ (dskB r (recsB 1 x)) ⟨walName 0 1, 0, 1⟩ = lgB x := by
    unfold takeF
    simp only [fgetB, Option.getD_some, hs]
    rfl
  rw [ht]
  unfold loadF
  rw [if_neg (by simp [lgB]), syncD_B]
/-- What Append and Sync come to on a new log. -/
theorem appendW_B (r : Int) (x : List (List UInt8)) (h : ∀ y ∈ x, y.length ≤ 65520) (hr : ((recsB 1 x).length : Int) ≤ r) (hr2 : r ≤ 4194304) :
    ∃ D1, appendW ⟨0, [⟨walName 0 1, 1, [0]⟩], [], 1, false⟩ (dskB r []) x = (0, lgB x, D1) ∧ D1.cnt ≤ 2 ∧ syncW (lgB x) D1 = (0, lgB x, dskB r (recsB 1 x)) := by
  by_cases hx : x = []
  · subst hx
    refine ⟨dskB r [], ?_, by show (1 : Nat) ≤ 2; omega, ?_⟩
    · unfold appendW
      rw [if_neg (by simp), if_neg (by simp), if_pos rfl]; rfl
    · unfold syncW
      rw [if_neg (by simp [lgB]), syncD_B]; rfl
  · refine ⟨⟨[(walName 0 1, [])], [⟨1, walName 0 1, 0, recsB 1 x⟩], r, 0, false⟩, ?_, by show (2 : Nat) ≤ 2; omega, ?_⟩
    · have hto : Lg.to ⟨0, [⟨walName 0 1, 1, [0]⟩], [], 1, false⟩ = ⟨walName 0 1, 1, [0]⟩ := rfl
      have hp : putW (dskB r []) (walName 0 1) 0 (recsB 1 x) = (0, ⟨[(walName 0 1, [])], [⟨1, walName 0 1, 0, recsB 1 x⟩], r, 0, false⟩) := by
        have hrf : refuseD (dskB r []) ⟨1, walName 0 1, 0, recsB 1 x⟩ ((0 : Nat) : Int) = 0 := by
          unfold refuseD
          simp [dskB, DSt.files, nameOk_one, fget, afterN, fsize]
          omega
        unfold putW changeD
        rw [if_neg (by rw [hrf]; simp)]
        simp [burnD, dskB]
      have hany : ¬ (x.any fun r => decide (65520 < r.length)) = true := by
        rw [List.any_eq_true]
        rintro ⟨y, hy, h2⟩
        have := h y hy
        simp at h2; omega
      unfold appendW
      rw [if_neg (by simp), if_neg hany, if_neg hx, hto]
      have hp2 : putW (dskB r []) (Sg.mk (walName 0 1) 1 [0]).name (Sg.mk (walName 0 1) 1 [0]).stop (recsB (Lg.mk 0 [⟨walName 0 1, 1, [0]⟩] [] 1 false).next x) = (0, ⟨[(walName 0 1, [])], [⟨1, walName 0 1, 0, recsB 1 x⟩], r, 0, false⟩) := hp
      rw [hp2, if_neg (by simp)]
      rfl
    · unfold syncW
      rw [if_neg (by simp [lgB])]
      have : putD [] 0 (recsB 1 x) = recsB 1 x := by simp [putD, resizeD]
      simp [syncD, burnD, DSt.files, doF, fset, fget, this, dskB, Lg.fell, lgB]
end Go.Proofs.YtjgonfnpfbifjaaGreatDoor
