/- The law's answers; the walk of PostCuts. -/
import Derived.Test.YtihmnkkhccihpaaPostL
import Derived.Test.YtihmnkkhccihpaaI64
namespace Go.Proofs.Ytihmnkkhccihpaa
open Go.RowKit

set_option maxRecDepth 20000 in
set_option maxHeartbeats 2000000 in
theorem postAnswers (w : World) : Calls Try.prog 9 #[] w fun e w' => e = .returned (.bool true) ∧ Below w.heap.size w w' := by
  have C1 := Lib.hid (fun w => postNewI (w := w) 1 (by decide) (by decide))
  have e1 : sendErr [] (fun _ => false) 1 1 2 [] = 0 := by decide
  have e2 : sendErr [(1, 2, [])] (fun _ => false) 1 1 2 [] = 10 := by decide
  have E1 := Lib.hid e1
  have E2 := Lib.hid e2
  clear e1 e2
  go_enter Try.func9, Try.ntmps9
  go_wp2_with fail
  refine (C1.out _).mono ?_
  rintro e w1 ⟨g, rfl, hP1, hb1⟩
  go_wp2_with fail
  refine (postSendI 1 2 none 0 [] hP1 hb1.size RB.nil).mono ?_
  rintro e w2 ⟨rfl, hP2, hK2⟩
  rw [E1.out]
  rw [sendV, if_pos E1.out, List.nil_append] at hP2
  have hB2 := hb1.trans hK2.below
  clear hP1 hb1 hK2
  go_wp2_with fail
  refine (postLenI hP2).mono ?_
  rintro e w3 ⟨rfl, rfl⟩
  go_wp2_with fail
  refine (postSendI 1 2 none 0 [] hP2 hB2.size RB.nil).mono ?_
  rintro e w4 ⟨rfl, hP4, hK4⟩
  rw [E2.out]
  have hB4 := hB2.trans hK4.below
  clear hP2 hB2 hK4 hP4
  go_wp2_with fail
  go_ret
  exact ⟨rfl, hB4⟩

theorem sendErr_ok {V : List Val} {C : Int × Int → Bool} {room f t : Int} (hok : okB f t = true) (hC : C (f, t) = false) (hr : (V.length : Int) < room) : sendErr V C room f t [] = 0 := by
  rw [sendErr, if_neg (by simp [hok]), if_neg (by simp), if_neg (by simp [hC]), if_neg (by omega)]
theorem sendErr_down {V : List Val} {C : Int × Int → Bool} {room f t : Int} (hok : okB f t = true) (hC : C (f, t) = true) : sendErr V C room f t [] = 11 := by
  rw [sendErr, if_neg (by simp [hok]), if_neg (by simp), if_pos hC]
theorem sendV_ok {V : List Val} {C : Int × Int → Bool} {room f t : Int} {d : List UInt8} (h : sendErr V C room f t d = 0) : sendV V C room f t d = V ++ [(f, t, d)] := by rw [sendV, if_pos h]
theorem sendV_no {V : List Val} {C : Int × Int → Bool} {room f t : Int} {d : List UInt8} {e : Int} (h : sendErr V C room f t d = e) (he : e ≠ 0) : sendV V C room f t d = V := by rw [sendV, h, if_neg he]

set_option maxRecDepth 20000 in
set_option maxHeartbeats 8000000 in
theorem walkPostCuts (a b c d : Int) (_ha : I64 a) (_hb : I64 b) (_hc : I64 c) (_hd : I64 d) (w : World) : Calls Try.prog 3 #[.int .i64 a, .int .i64 b, .int .i64 c, .int .i64 d] w (Yes w) := by
  clear _ha _hb _hc _hd
  have S := Lib.hid postAnswers
  have N := Lib.hid (fun w => postNewI (w := w) 10 (by decide) (by decide))
  cases h0 : endB a
  · go_enter Try.func3, Try.ntmps3
    go_wp2_with fail
    refine (N.out _).mono ?_
    rintro e w1 ⟨g, rfl, hP1, hb1⟩
    go_wp2_with fail
    refine (S.out _).mono ?_
    rintro e w2 ⟨rfl, hb2⟩
    have hB2 := hb1.trans (hb2.mono hb1.size)
    have hP2 := hP1.below hb2
    clear hb1 hb2 hP1
    go_wp2_with fail
    refine (refEnd a _).mono ?_
    rintro e w' ⟨rfl, rfl⟩
    rw [h0]
    go_wp2_with fail
    refine (S.out _).mono ?_
    rintro e w3 ⟨rfl, hb3⟩
    have hB3 := hB2.trans (hb3.mono hB2.size)
    clear hb3 hB2 hP2
    go_wp2_with fail
    go_ret
    exact ⟨rfl, hB3⟩
  · skip
    cases h1 : endB b
    · go_enter Try.func3, Try.ntmps3
      go_wp2_with fail
      refine (N.out _).mono ?_
      rintro e w1 ⟨g, rfl, hP1, hb1⟩
      go_wp2_with fail
      refine (S.out _).mono ?_
      rintro e w2 ⟨rfl, hb2⟩
      have hB2 := hb1.trans (hb2.mono hb1.size)
      have hP2 := hP1.below hb2
      clear hb1 hb2 hP1
      go_wp2_with fail
      refine (refEnd a _).mono ?_
      rintro e w' ⟨rfl, rfl⟩
      rw [h0]
      go_wp2_with fail
      refine (refEnd b _).mono ?_
      rintro e w' ⟨rfl, rfl⟩
      rw [h1]
      go_wp2_with fail
      refine (S.out _).mono ?_
      rintro e w3 ⟨rfl, hb3⟩
      have hB3 := hB2.trans (hb3.mono hB2.size)
      clear hb3 hB2 hP2
      go_wp2_with fail
      go_ret
      exact ⟨rfl, hB3⟩
    · skip
      cases h2 : endB c
      · go_enter Try.func3, Try.ntmps3
        go_wp2_with fail
        refine (N.out _).mono ?_
        rintro e w1 ⟨g, rfl, hP1, hb1⟩
        go_wp2_with fail
        refine (S.out _).mono ?_
        rintro e w2 ⟨rfl, hb2⟩
        have hB2 := hb1.trans (hb2.mono hb1.size)
        have hP2 := hP1.below hb2
        clear hb1 hb2 hP1
        go_wp2_with fail
        refine (refEnd a _).mono ?_
        rintro e w' ⟨rfl, rfl⟩
        rw [h0]
        go_wp2_with fail
        refine (refEnd b _).mono ?_
        rintro e w' ⟨rfl, rfl⟩
        rw [h1]
        go_wp2_with fail
        refine (refEnd c _).mono ?_
        rintro e w' ⟨rfl, rfl⟩
        rw [h2]
        go_wp2_with fail
        refine (S.out _).mono ?_
        rintro e w3 ⟨rfl, hb3⟩
        have hB3 := hB2.trans (hb3.mono hB2.size)
        clear hb3 hB2 hP2
        go_wp2_with fail
        go_ret
        exact ⟨rfl, hB3⟩
      · skip
        cases h3 : endB d
        · go_enter Try.func3, Try.ntmps3
          go_wp2_with fail
          refine (N.out _).mono ?_
          rintro e w1 ⟨g, rfl, hP1, hb1⟩
          go_wp2_with fail
          refine (S.out _).mono ?_
          rintro e w2 ⟨rfl, hb2⟩
          have hB2 := hb1.trans (hb2.mono hb1.size)
          have hP2 := hP1.below hb2
          clear hb1 hb2 hP1
          go_wp2_with fail
          refine (refEnd a _).mono ?_
          rintro e w' ⟨rfl, rfl⟩
          rw [h0]
          go_wp2_with fail
          refine (refEnd b _).mono ?_
          rintro e w' ⟨rfl, rfl⟩
          rw [h1]
          go_wp2_with fail
          refine (refEnd c _).mono ?_
          rintro e w' ⟨rfl, rfl⟩
          rw [h2]
          go_wp2_with fail
          refine (refEnd d _).mono ?_
          rintro e w' ⟨rfl, rfl⟩
          rw [h3]
          go_wp2_with fail
          refine (S.out _).mono ?_
          rintro e w3 ⟨rfl, hb3⟩
          have hB3 := hB2.trans (hb3.mono hB2.size)
          clear hb3 hB2 hP2
          go_wp2_with fail
          go_ret
          exact ⟨rfl, hB3⟩
        · skip
          by_cases hab : a = b
          · subst hab
            clear h1
            have e1 : (a == a) = true := by simp
            go_enter Try.func3, Try.ntmps3
            go_wp2_with fail
            refine (N.out _).mono ?_
            rintro e w1 ⟨g, rfl, hP1, hb1⟩
            go_wp2_with fail
            refine (S.out _).mono ?_
            rintro e w2 ⟨rfl, hb2⟩
            have hB2 := hb1.trans (hb2.mono hb1.size)
            have hP2 := hP1.below hb2
            clear hb1 hb2 hP1
            go_wp2_with fail
            refine (refEnd a _).mono ?_
            rintro e w' ⟨rfl, rfl⟩
            rw [h0]
            go_wp2_with fail
            refine (refEnd a _).mono ?_
            rintro e w' ⟨rfl, rfl⟩
            rw [h0]
            go_wp2_with fail
            refine (refEnd c _).mono ?_
            rintro e w' ⟨rfl, rfl⟩
            rw [h2]
            go_wp2_with fail
            refine (refEnd d _).mono ?_
            rintro e w' ⟨rfl, rfl⟩
            rw [h3]
            go_wp2_with fail
            refine (S.out _).mono ?_
            rintro e w3 ⟨rfl, hb3⟩
            have hB3 := hB2.trans (hb3.mono hB2.size)
            clear hb3 hB2 hP2
            go_wp2_with fail
            go_ret
            exact ⟨rfl, hB3⟩
          · skip
            have e1 : (a == b) = false := by simpa using hab
            by_cases hcd : c = d
            · subst hcd
              clear h3
              have e2 : (c == c) = true := by simp
              have okab : okB a b = true := by simp [okB, h0, h1, hab]
              clear hab
              go_enter Try.func3, Try.ntmps3
              go_wp2_with fail
              refine (N.out _).mono ?_
              rintro e w1 ⟨g, rfl, hP1, hb1⟩
              go_wp2_with fail
              refine (S.out _).mono ?_
              rintro e w2 ⟨rfl, hb2⟩
              have hB2 := hb1.trans (hb2.mono hb1.size)
              have hP2 := hP1.below hb2
              clear hb1 hb2 hP1
              go_wp2_with fail
              refine (refEnd a _).mono ?_
              rintro e w' ⟨rfl, rfl⟩
              rw [h0]
              go_wp2_with fail
              refine (refEnd b _).mono ?_
              rintro e w' ⟨rfl, rfl⟩
              rw [h1]
              go_wp2_with fail
              refine (refEnd c _).mono ?_
              rintro e w' ⟨rfl, rfl⟩
              rw [h2]
              go_wp2_with fail
              refine (refEnd c _).mono ?_
              rintro e w' ⟨rfl, rfl⟩
              rw [h2]
              go_wp2_with fail
              refine (S.out _).mono ?_
              rintro e w3 ⟨rfl, hb3⟩
              have hB3 := hB2.trans (hb3.mono hB2.size)
              clear hb3 hB2 hP2
              go_wp2_with fail
              go_ret
              exact ⟨rfl, hB3⟩
            · skip
              have e2 : (c == d) = false := by simpa using hcd
              have okab := Lib.hid (show okB a b = true by simp [okB, h0, h1, hab])
              have okcd := Lib.hid (show okB c d = true by simp [okB, h2, h3, hcd])
              clear hab hcd
              by_cases hac : a = c
              · subst hac
                have e3 : (a == a) = true := by simp
                by_cases hbd : b = d
                · subst hbd
                  have e4 : (b == b) = true := by simp
                  clear h2 h3 e2 okcd
                  go_enter Try.func3, Try.ntmps3
                  go_wp2_with fail
                  refine (N.out _).mono ?_
                  rintro e w1 ⟨g, rfl, hP1, hb1⟩
                  go_wp2_with fail
                  refine (S.out _).mono ?_
                  rintro e w2 ⟨rfl, hb2⟩
                  have hB2 := hb1.trans (hb2.mono hb1.size)
                  have hP2 := hP1.below hb2
                  clear hb1 hb2 hP1
                  go_wp2_with fail
                  refine (refEnd a _).mono ?_
                  rintro e w' ⟨rfl, rfl⟩
                  rw [h0]
                  go_wp2_with fail
                  refine (refEnd b _).mono ?_
                  rintro e w' ⟨rfl, rfl⟩
                  rw [h1]
                  go_wp2_with fail
                  refine (refEnd a _).mono ?_
                  rintro e w' ⟨rfl, rfl⟩
                  rw [h0]
                  go_wp2_with fail
                  refine (refEnd b _).mono ?_
                  rintro e w' ⟨rfl, rfl⟩
                  rw [h1]
                  go_wp2_with fail
                  refine (postSendI a b none 0 [] hP2 hB2.size RB.nil).mono ?_
                  rintro e w3 ⟨rfl, hP3, hK3⟩
                  have q1 : sendErr [] (fun _ => false) 10 a b [] = 0 := sendErr_ok okab.out rfl (by decide)
                  rw [q1]
                  rw [sendV_ok q1, List.nil_append] at hP3
                  have hB3 := hB2.trans hK3.below
                  clear q1 hP2 hB2 hK3
                  go_wp2_with fail
                  refine (postCutI a b hP3 hB3.size).mono ?_
                  rintro e w4 ⟨rfl, hP4, hK4⟩
                  rw [okab.out]
                  rw [if_pos okab.out] at hP4
                  have hB4 := hB3.trans hK4.below
                  clear hP3 hB3 hK4
                  go_wp2_with fail
                  refine (postSendI a b none 0 [] hP4 hB4.size RB.nil).mono ?_
                  rintro e w5 ⟨rfl, hP5, hK5⟩
                  have q2 : sendErr [(a, b, [])] (setC (fun _ => false) (a, b) true) 10 a b [] = 11 := sendErr_down okab.out (by simp [setC])
                  rw [q2]
                  rw [sendV_no q2 (by decide)] at hP5
                  have hB5 := hB4.trans hK5.below
                  clear q2 hP4 hB4 hK5
                  go_wp2_with fail
                  refine (postSendI a b none 0 [] hP5 hB5.size RB.nil).mono ?_
                  rintro e w6 ⟨rfl, hP6, hK6⟩
                  have q3 : sendErr [(a, b, [])] (setC (fun _ => false) (a, b) true) 10 a b [] = 11 := sendErr_down okab.out (by simp [setC])
                  rw [q3]
                  rw [sendV_no q3 (by decide)] at hP6
                  have hB6 := hB5.trans hK6.below
                  clear q3 hP5 hB5 hK6
                  go_wp2_with fail
                  refine (postHealI a b hP6 hB6.size).mono ?_
                  rintro e w7 ⟨rfl, hP7, hK7⟩
                  rw [okab.out]
                  rw [if_pos okab.out] at hP7
                  have hB7 := hB6.trans hK7.below
                  clear hP6 hB6 hK7
                  go_wp2_with fail
                  refine (postLenI hP7).mono ?_
                  rintro e w8 ⟨rfl, rfl⟩
                  go_wp2_with fail
                  refine (postSendI a b none 0 [] hP7 hB7.size RB.nil).mono ?_
                  rintro e w9 ⟨rfl, hP9, hK9⟩
                  have q4 : sendErr [(a, b, [])] (setC (setC (fun _ => false) (a, b) true) (a, b) false) 10 a b [] = 0 := sendErr_ok okab.out (by simp [setC]) (by simp)
                  rw [q4]
                  rw [sendV_ok q4] at hP9
                  have hB9 := hB7.trans hK9.below
                  clear q4 hP7 hB7 hK9
                  go_wp2_with fail
                  refine (postLenI hP9).mono ?_
                  rintro e w10 ⟨rfl, rfl⟩
                  clear hP9
                  go_wp2_with fail
                  go_ret
                  exact ⟨rfl, hB9⟩
                · have e4 : (b == d) = false := by simpa using hbd
                  have HNE := Lib.hid hbd
                  clear hbd h2
                  go_enter Try.func3, Try.ntmps3
                  go_wp2_with fail
                  refine (N.out _).mono ?_
                  rintro e w1 ⟨g, rfl, hP1, hb1⟩
                  go_wp2_with fail
                  refine (S.out _).mono ?_
                  rintro e w2 ⟨rfl, hb2⟩
                  have hB2 := hb1.trans (hb2.mono hb1.size)
                  have hP2 := hP1.below hb2
                  clear hb1 hb2 hP1
                  go_wp2_with fail
                  refine (refEnd a _).mono ?_
                  rintro e w' ⟨rfl, rfl⟩
                  rw [h0]
                  go_wp2_with fail
                  refine (refEnd b _).mono ?_
                  rintro e w' ⟨rfl, rfl⟩
                  rw [h1]
                  go_wp2_with fail
                  refine (refEnd a _).mono ?_
                  rintro e w' ⟨rfl, rfl⟩
                  rw [h0]
                  go_wp2_with fail
                  refine (refEnd d _).mono ?_
                  rintro e w' ⟨rfl, rfl⟩
                  rw [h3]
                  go_wp2_with fail
                  refine (postSendI a b none 0 [] hP2 hB2.size RB.nil).mono ?_
                  rintro e w3 ⟨rfl, hP3, hK3⟩
                  have q1 : sendErr [] (fun _ => false) 10 a b [] = 0 := sendErr_ok okab.out rfl (by decide)
                  rw [q1]
                  rw [sendV_ok q1, List.nil_append] at hP3
                  have hB3 := hB2.trans hK3.below
                  clear q1 hP2 hB2 hK3
                  go_wp2_with fail
                  refine (postCutI a b hP3 hB3.size).mono ?_
                  rintro e w4 ⟨rfl, hP4, hK4⟩
                  rw [okab.out]
                  rw [if_pos okab.out] at hP4
                  have hB4 := hB3.trans hK4.below
                  clear hP3 hB3 hK4
                  go_wp2_with fail
                  refine (postSendI a b none 0 [] hP4 hB4.size RB.nil).mono ?_
                  rintro e w5 ⟨rfl, hP5, hK5⟩
                  have q2 : sendErr [(a, b, [])] (setC (fun _ => false) (a, b) true) 10 a b [] = 11 := sendErr_down okab.out (by simp [setC])
                  rw [q2]
                  rw [sendV_no q2 (by decide)] at hP5
                  have hB5 := hB4.trans hK5.below
                  clear q2 hP4 hB4 hK5
                  go_wp2_with fail
                  refine (postSendI a d none 0 [] hP5 hB5.size RB.nil).mono ?_
                  rintro e w6 ⟨rfl, hP6, hK6⟩
                  have q3 : sendErr [(a, b, [])] (setC (fun _ => false) (a, b) true) 10 a d [] = 0 := sendErr_ok okcd.out (by simp only [setC]; rw [if_neg (by intro e; injection e with x1 x2; exact HNE.out x2.symm)]) (by simp)
                  rw [q3]
                  rw [sendV_ok q3] at hP6
                  have hB6 := hB5.trans hK6.below
                  clear q3 hP5 hB5 hK6
                  go_wp2_with fail
                  refine (postHealI a b hP6 hB6.size).mono ?_
                  rintro e w7 ⟨rfl, hP7, hK7⟩
                  rw [okab.out]
                  rw [if_pos okab.out] at hP7
                  have hB7 := hB6.trans hK7.below
                  clear hP6 hB6 hK7
                  go_wp2_with fail
                  refine (postLenI hP7).mono ?_
                  rintro e w8 ⟨rfl, rfl⟩
                  go_wp2_with fail
                  refine (postSendI a b none 0 [] hP7 hB7.size RB.nil).mono ?_
                  rintro e w9 ⟨rfl, hP9, hK9⟩
                  have q4 : sendErr ([(a, b, [])] ++ [(a, d, [])]) (setC (setC (fun _ => false) (a, b) true) (a, b) false) 10 a b [] = 0 := sendErr_ok okab.out (by simp [setC]) (by simp)
                  rw [q4]
                  rw [sendV_ok q4] at hP9
                  have hB9 := hB7.trans hK9.below
                  clear q4 hP7 hB7 hK9
                  go_wp2_with fail
                  refine (postLenI hP9).mono ?_
                  rintro e w10 ⟨rfl, rfl⟩
                  clear hP9
                  go_wp2_with fail
                  go_ret
                  exact ⟨rfl, hB9⟩
              · have e3 : (a == c) = false := by simpa using hac
                have HNE := Lib.hid hac
                clear hac
                go_enter Try.func3, Try.ntmps3
                go_wp2_with fail
                refine (N.out _).mono ?_
                rintro e w1 ⟨g, rfl, hP1, hb1⟩
                go_wp2_with fail
                refine (S.out _).mono ?_
                rintro e w2 ⟨rfl, hb2⟩
                have hB2 := hb1.trans (hb2.mono hb1.size)
                have hP2 := hP1.below hb2
                clear hb1 hb2 hP1
                go_wp2_with fail
                refine (refEnd a _).mono ?_
                rintro e w' ⟨rfl, rfl⟩
                rw [h0]
                go_wp2_with fail
                refine (refEnd b _).mono ?_
                rintro e w' ⟨rfl, rfl⟩
                rw [h1]
                go_wp2_with fail
                refine (refEnd c _).mono ?_
                rintro e w' ⟨rfl, rfl⟩
                rw [h2]
                go_wp2_with fail
                refine (refEnd d _).mono ?_
                rintro e w' ⟨rfl, rfl⟩
                rw [h3]
                go_wp2_with fail
                refine (postSendI a b none 0 [] hP2 hB2.size RB.nil).mono ?_
                rintro e w3 ⟨rfl, hP3, hK3⟩
                have q1 : sendErr [] (fun _ => false) 10 a b [] = 0 := sendErr_ok okab.out rfl (by decide)
                rw [q1]
                rw [sendV_ok q1, List.nil_append] at hP3
                have hB3 := hB2.trans hK3.below
                clear q1 hP2 hB2 hK3
                go_wp2_with fail
                refine (postCutI a b hP3 hB3.size).mono ?_
                rintro e w4 ⟨rfl, hP4, hK4⟩
                rw [okab.out]
                rw [if_pos okab.out] at hP4
                have hB4 := hB3.trans hK4.below
                clear hP3 hB3 hK4
                go_wp2_with fail
                refine (postSendI a b none 0 [] hP4 hB4.size RB.nil).mono ?_
                rintro e w5 ⟨rfl, hP5, hK5⟩
                have q2 : sendErr [(a, b, [])] (setC (fun _ => false) (a, b) true) 10 a b [] = 11 := sendErr_down okab.out (by simp [setC])
                rw [q2]
                rw [sendV_no q2 (by decide)] at hP5
                have hB5 := hB4.trans hK5.below
                clear q2 hP4 hB4 hK5
                go_wp2_with fail
                refine (postSendI c d none 0 [] hP5 hB5.size RB.nil).mono ?_
                rintro e w6 ⟨rfl, hP6, hK6⟩
                have q3 : sendErr [(a, b, [])] (setC (fun _ => false) (a, b) true) 10 c d [] = 0 := sendErr_ok okcd.out (by simp only [setC]; rw [if_neg (by intro e; injection e with x1 x2; exact HNE.out x1.symm)]) (by simp)
                rw [q3]
                rw [sendV_ok q3] at hP6
                have hB6 := hB5.trans hK6.below
                clear q3 hP5 hB5 hK6
                go_wp2_with fail
                refine (postHealI a b hP6 hB6.size).mono ?_
                rintro e w7 ⟨rfl, hP7, hK7⟩
                rw [okab.out]
                rw [if_pos okab.out] at hP7
                have hB7 := hB6.trans hK7.below
                clear hP6 hB6 hK7
                go_wp2_with fail
                refine (postLenI hP7).mono ?_
                rintro e w8 ⟨rfl, rfl⟩
                go_wp2_with fail
                refine (postSendI a b none 0 [] hP7 hB7.size RB.nil).mono ?_
                rintro e w9 ⟨rfl, hP9, hK9⟩
                have q4 : sendErr ([(a, b, [])] ++ [(c, d, [])]) (setC (setC (fun _ => false) (a, b) true) (a, b) false) 10 a b [] = 0 := sendErr_ok okab.out (by simp [setC]) (by simp)
                rw [q4]
                rw [sendV_ok q4] at hP9
                have hB9 := hB7.trans hK9.below
                clear q4 hP7 hB7 hK9
                go_wp2_with fail
                refine (postLenI hP9).mono ?_
                rintro e w10 ⟨rfl, rfl⟩
                clear hP9
                go_wp2_with fail
                go_ret
                exact ⟨rfl, hB9⟩
end Go.Proofs.Ytihmnkkhccihpaa
