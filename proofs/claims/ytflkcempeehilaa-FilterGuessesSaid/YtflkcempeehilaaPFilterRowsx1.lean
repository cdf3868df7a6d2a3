-- PRINTED BY print.sh 35421559b90ae4d0a3588c463048766b98c2df88dd9212a6774a882060cdf62d: not written by this session
import Derived.Test.YtflkcempeehilaaPFilterRowsx0
namespace Go.Proofs.Ytflkcempeehilaa.PFilterRows
open Go.RowKit Go.Proofs.YtflkcempeehilaaW.PrintWords Go.Proofs.YtflkcempeehilaaW.PrintLast Go.Proofs.YtflkcempeehilaaW.PrintMore
attribute [local go_sem] max2_int min2_int max_two min_two max_three min_three max_four min_four   -- for this text's walks alone
set_option linter.unusedVariables false
set_option linter.unusedSimpArgs false

/-! ### filter_apart: function 30 -/
def filter_apart.f (a0 : Int) (a1 : Int) : Option (Int) := some (mx (wrap64 (a0 - a1)) (wrap64 (a1 - a0)))
set_option maxHeartbeats 8000000 in
set_option maxRecDepth 100000 in
theorem filter_apart.calls (a0 : Int) (a1 : Int) (r : Int) (w : World) (h : filter_apart.f a0 a1 = some r) :
    Calls Try.prog 30 #[.int .i64 a0, .int .i64 a1] w fun e w' => e = .returned (.int .i64 r) ∧ Below w.heap.size w w' := by
  have HB := Aside0.mk (Below.refl w.heap.size w)
  have H : (some (mx (wrap64 (a0 - a1)) (wrap64 (a1 - a0)))) = some r := h
  clear h
  obtain ⟨ji3, hji3⟩ : ∃ j_ : Int, (mx (wrap64 (a0 - a1)) (wrap64 (a1 - a0))) = j_ := ⟨_, rfl⟩
  replace H : (some ji3) = some r := by first | (rw [hji3] at H; exact H) | (simp only [hji3] at H ⊢; exact H)
  have hji3_ : (if (wrap64 (a0 - a1)) < (wrap64 (a1 - a0)) then (wrap64 (a1 - a0)) else (wrap64 (a0 - a1))) = ji3 := hji3
  obtain rfl := Option.some.inj H
  go_enter Try.func30, Try.ntmps30
  go_wp2
  go_ret
  exact ⟨by first | rfl | (simp [errW_none, errW_some] <;> rfl) | (simp only [← hji3]; first | rfl | (simp [errW_none, errW_some] <;> rfl)) | (simp [*, errW_none, errW_some] <;> rfl), by repeat (first | (with_reducible first | exact HB.out | apply below_alloc | apply pw_below_drewN | apply below_drew1) | exact HB.out)⟩

-- NOT PRINTED: function 19 (filter_nearest)

-- NOT PRINTED: function 9 (filter_Guess)

/-! ### filter_right: function 21 -/
def filter_right.f (a0 : Int) (a1 : Int) (a2 : ByteArray) (a3 : ByteArray) : Option (Bool) := if 0 ≤ a0 then (if a0 ≤ 4 then (if a1 ≥ 1 then (if a2.toList = ([] : List UInt8) then (some true) else (some ((a2.size : Int) == (a3.size : Int)))) else (some false)) else (some false)) else (some false)
set_option maxHeartbeats 8000000 in
set_option maxRecDepth 100000 in
theorem filter_right.calls (a0 : Int) (a1 : Int) (a2 : ByteArray) (a3 : ByteArray) (r : Bool) (w : World) (h : filter_right.f a0 a1 a2 a3 = some r) :
    Calls Try.prog 21 #[.int .i64 a0, .int .i64 a1, .string a2, .string a3] w fun e w' => e = .returned (.bool r) ∧ Drawn0 w w' := by
  have H : (if 0 ≤ a0 then (if a0 ≤ 4 then (if a1 ≥ 1 then (if a2.toList = ([] : List UInt8) then (some true) else (some ((a2.size : Int) == (a3.size : Int)))) else (some false)) else (some false)) else (some false)) = some r := h
  clear h
  by_cases c5 : 0 ≤ a0
  · rw [if_pos c5] at H
    have c5b0 : decide (0 ≤ a0) = true := decide_eq_true c5
    clear c5
    by_cases c6 : a0 ≤ 4
    · rw [if_pos c6] at H
      have c6b0 : decide (a0 ≤ 4) = true := decide_eq_true c6
      clear c6
      by_cases c7 : a1 ≥ 1
      · rw [if_pos c7] at H
        have c7b0 : decide (1 ≤ a1) = true := decide_eq_true c7
        clear c7
        by_cases c8 : a2.toList = ([] : List UInt8)
        · rw [if_pos c8] at H
          have c8b0 : (a2.toList == ([] : List UInt8)) = true := beq_iff_eq.mpr c8
          have c8b1 : (a2.toList != ([] : List UInt8)) = false := bne_eq_false_iff_eq.mpr c8
          clear c8
          obtain rfl := Option.some.inj H
          go_enter Try.func21, Try.ntmps21
          go_wp2
          go_ret
          exact ⟨by first | rfl | (simp; done) | (simp [*]; done), by repeat (first | exact Drawn0.refl _ | apply Drawn0.step)⟩
        · rw [if_neg c8] at H
          have c8b0 : (a2.toList == ([] : List UInt8)) = false := beq_eq_false_iff_ne.mpr c8
          have c8b1 : (a2.toList != ([] : List UInt8)) = true := bne_iff_ne.mpr c8
          obtain rfl := Option.some.inj H
          go_enter Try.func21, Try.ntmps21
          go_wp2
          go_ret
          exact ⟨by first | rfl | (simp; done) | (simp [*]; done), by repeat (first | exact Drawn0.refl _ | apply Drawn0.step)⟩
      · rw [if_neg c7] at H
        have c7b0 : decide (1 ≤ a1) = false := decide_eq_false c7
        clear c7
        obtain rfl := Option.some.inj H
        go_enter Try.func21, Try.ntmps21
        go_wp2
        go_ret
        exact ⟨by first | rfl | (simp; done) | (simp [*]; done), by repeat (first | exact Drawn0.refl _ | apply Drawn0.step)⟩
    · rw [if_neg c6] at H
      have c6b0 : decide (a0 ≤ 4) = false := decide_eq_false c6
      clear c6
      obtain rfl := Option.some.inj H
      go_enter Try.func21, Try.ntmps21
      go_wp2
      go_ret
      exact ⟨by first | rfl | (simp; done) | (simp [*]; done), by repeat (first | exact Drawn0.refl _ | apply Drawn0.step)⟩
  · rw [if_neg c5] at H
    have c5b0 : decide (0 ≤ a0) = false := decide_eq_false c5
    clear c5
    obtain rfl := Option.some.inj H
    go_enter Try.func21, Try.ntmps21
    go_wp2
    go_ret
    exact ⟨by first | rfl | (simp; done) | (simp [*]; done), by repeat (first | exact Drawn0.refl _ | apply Drawn0.step)⟩

-- NOT PRINTED: function 23 (filter_each)

-- NOT PRINTED: function 12 (filter_Filter)

-- NOT PRINTED: function 14 (filter_Unfilter)

-- NOT PRINTED: function 29 (filter_weight)

-- NOT PRINTED: function 16 (filter_Choose)

-- NOT PRINTED: function 8 (miradorlaw11_works)

/-! ### miradorlaw11_over: function 11 -/
def miradorlaw11_over.f (a0 : ByteArray) (a1 : ByteArray) : Option (Bool) := if (a0.size : Int) > 400 then (some true) else (some (decide ((a1.size : Int) > 400)))
set_option maxHeartbeats 8000000 in
set_option maxRecDepth 100000 in
theorem miradorlaw11_over.calls (a0 : ByteArray) (a1 : ByteArray) (r : Bool) (w : World) (h : miradorlaw11_over.f a0 a1 = some r) :
    Calls Try.prog 11 #[.string a0, .string a1] w fun e w' => e = .returned (.bool r) ∧ Drawn0 w w' := by
  have H : (if (a0.size : Int) > 400 then (some true) else (some (decide ((a1.size : Int) > 400)))) = some r := h
  clear h
  by_cases c3 : (a0.size : Int) > 400
  · rw [if_pos c3] at H
    have c3b0 : decide (400 < (a0.size : Int)) = true := decide_eq_true c3
    have c3b1 : decide (400 < a0.size) = true := decide_eq_true (by omega)
    clear c3
    obtain rfl := Option.some.inj H
    go_enter Try.func11, Try.ntmps11
    go_wp2
    go_ret
    exact ⟨by first | rfl | (simp; done) | (simp [*]; done), by repeat (first | exact Drawn0.refl _ | apply Drawn0.step)⟩
  · rw [if_neg c3] at H
    have c3b0 : decide (400 < (a0.size : Int)) = false := decide_eq_false c3
    have c3b1 : decide (400 < a0.size) = false := decide_eq_false (by omega)
    clear c3
    obtain rfl := Option.some.inj H
    go_enter Try.func11, Try.ntmps11
    go_wp2
    go_ret
    exact ⟨by first | rfl | (simp; done) | (simp [*]; done), by repeat (first | exact Drawn0.refl _ | apply Drawn0.step)⟩

/-! ### miradorref11_far: function 20 -/
def miradorref11_far.f (a0 : Int) (a1 : Int) : Option (Int) := some (mx (wrap64 (a0 - a1)) (wrap64 (a1 - a0)))
set_option maxHeartbeats 8000000 in
set_option maxRecDepth 100000 in
theorem miradorref11_far.calls (a0 : Int) (a1 : Int) (r : Int) (w : World) (h : miradorref11_far.f a0 a1 = some r) :
    Calls Try.prog 20 #[.int .i64 a0, .int .i64 a1] w fun e w' => e = .returned (.int .i64 r) ∧ Below w.heap.size w w' := by
  have HB := Aside0.mk (Below.refl w.heap.size w)
  have H : (some (mx (wrap64 (a0 - a1)) (wrap64 (a1 - a0)))) = some r := h
  clear h
  obtain ⟨ji3, hji3⟩ : ∃ j_ : Int, (mx (wrap64 (a0 - a1)) (wrap64 (a1 - a0))) = j_ := ⟨_, rfl⟩
  replace H : (some ji3) = some r := by first | (rw [hji3] at H; exact H) | (simp only [hji3] at H ⊢; exact H)
  have hji3_ : (if (wrap64 (a0 - a1)) < (wrap64 (a1 - a0)) then (wrap64 (a1 - a0)) else (wrap64 (a0 - a1))) = ji3 := hji3
  obtain rfl := Option.some.inj H
  go_enter Try.func20, Try.ntmps20
  go_wp2
  go_ret
  exact ⟨by first | rfl | (simp [errW_none, errW_some] <;> rfl) | (simp only [← hji3]; first | rfl | (simp [errW_none, errW_some] <;> rfl)) | (simp [*, errW_none, errW_some] <;> rfl), by repeat (first | (with_reducible first | exact HB.out | apply below_alloc | apply pw_below_drewN | apply below_drew1) | exact HB.out)⟩

/-! ### miradorref11_Guess: function 10 -/
def miradorref11_Guess.j0 : Nat → Int → Int → Int → Int → Bool → Option (Int)
  | 0, _, _, _, _, _ => none
  | k + 1, x1, x2, x3, x9, x44 => if x44 = true then (some x1) else ((miradorref11_far.f x9 x2).bind fun t106 => ((miradorref11_far.f x9 x3).bind fun t107 => (if t106 ≤ t107 then (some x2) else (some x3))))
def miradorref11_Guess.f (k : Nat) (a0 : Int) (a1 : Int) (a2 : Int) (a3 : Int) : Option (Int) := if a0 = 1 then (some a1) else (if a0 = 2 then (some a2) else (if a0 = 3 then (some (wrap64 (Int.tdiv (wrap64 (a1 + a2)) 2))) else (if a0 = 4 then ((miradorref11_far.f (wrap64 ((wrap64 (a1 + a2)) - a3)) a1).bind fun t102 => ((miradorref11_far.f (wrap64 ((wrap64 (a1 + a2)) - a3)) a2).bind fun t103 => (if t102 ≤ t103 then ((miradorref11_far.f (wrap64 ((wrap64 (a1 + a2)) - a3)) a1).bind fun t104 => ((miradorref11_far.f (wrap64 ((wrap64 (a1 + a2)) - a3)) a3).bind fun t105 => (miradorref11_Guess.j0 k a1 a2 a3 (wrap64 ((wrap64 (a1 + a2)) - a3)) (decide (t104 ≤ t105))))) else (miradorref11_Guess.j0 k a1 a2 a3 (wrap64 ((wrap64 (a1 + a2)) - a3)) false)))) else (some 0))))
theorem miradorref11_Guess.mono_l : ∀ k, (∀ y0 y1 y2 y3 y4, LeO (miradorref11_Guess.j0 k y0 y1 y2 y3 y4) (miradorref11_Guess.j0 (k + 1) y0 y1 y2 y3 y4))
  | 0 => fun _ _ _ _ _ r h => by simp [miradorref11_Guess.j0] at h
  | k + 1 => by
    have ih0 := miradorref11_Guess.mono_l k
    · intro y0 y1 y2 y3 y4
      unfold miradorref11_Guess.j0
      repeat' first
      | (with_reducible exact ih0 _ _ _ _ _)
      | (with_reducible exact LeO.refl _)
      | (with_reducible exact LeO.none _)
      | (with_reducible refine LeO.ite ?_ ?_)
      | (with_reducible refine LeO.bind ?_ (fun _ => ?_))
      | exact ih0 _ _ _ _ _
      | exact LeO.none _
      | refine LeO.ite ?_ ?_
      | refine LeO.bind ?_ (fun _ => ?_)
theorem miradorref11_Guess.mono : ∀ a0 a1 a2 a3 k, LeO (miradorref11_Guess.f k a0 a1 a2 a3) (miradorref11_Guess.f (k + 1) a0 a1 a2 a3) := by
  intro a0 a1 a2 a3 k
  have ih0 := miradorref11_Guess.mono_l k
  unfold miradorref11_Guess.f
  repeat' first
      | (with_reducible exact ih0 _ _ _ _ _)
      | (with_reducible exact LeO.refl _)
      | (with_reducible exact LeO.none _)
      | (with_reducible refine LeO.ite ?_ ?_)
      | (with_reducible refine LeO.bind ?_ (fun _ => ?_))
      | exact ih0 _ _ _ _ _
      | exact LeO.none _
      | refine LeO.ite ?_ ?_
      | refine LeO.bind ?_ (fun _ => ?_)
set_option maxHeartbeats 8000000 in
set_option maxRecDepth 100000 in
theorem miradorref11_Guess.calls (k : Nat) (a0 : Int) (a1 : Int) (a2 : Int) (a3 : Int) (r : Int) (w : World) (h : miradorref11_Guess.f k a0 a1 a2 a3 = some r) :
    Calls Try.prog 10 #[.int .i64 a0, .int .i64 a1, .int .i64 a2, .int .i64 a3] w fun e w' => e = .returned (.int .i64 r) ∧ Below w.heap.size w w' := by
  have HB := Aside0.mk (Below.refl w.heap.size w)
  have H : (if a0 = 1 then (some a1) else (if a0 = 2 then (some a2) else (if a0 = 3 then (some (wrap64 (Int.tdiv (wrap64 (a1 + a2)) 2))) else (if a0 = 4 then ((miradorref11_far.f (wrap64 ((wrap64 (a1 + a2)) - a3)) a1).bind fun t102 => ((miradorref11_far.f (wrap64 ((wrap64 (a1 + a2)) - a3)) a2).bind fun t103 => (if t102 ≤ t103 then ((miradorref11_far.f (wrap64 ((wrap64 (a1 + a2)) - a3)) a1).bind fun t104 => ((miradorref11_far.f (wrap64 ((wrap64 (a1 + a2)) - a3)) a3).bind fun t105 => (miradorref11_Guess.j0 k a1 a2 a3 (wrap64 ((wrap64 (a1 + a2)) - a3)) (decide (t104 ≤ t105))))) else (miradorref11_Guess.j0 k a1 a2 a3 (wrap64 ((wrap64 (a1 + a2)) - a3)) false)))) else (some 0))))) = some r := h
  clear h
  by_cases c5 : a0 = 1
  · rw [if_pos c5] at H
    have c5b0 : (a0 == 1) = true := beq_iff_eq.mpr c5
    have c5b1 : (a0 != 1) = false := bne_eq_false_iff_eq.mpr c5
    clear c5
    obtain rfl := Option.some.inj H
    go_enter Try.func10, Try.ntmps10
    go_wp2
    go_ret
    exact ⟨by first | rfl | (simp [errW_none, errW_some] <;> rfl) | (simp [*, errW_none, errW_some] <;> rfl), by repeat (first | (with_reducible first | exact HB.out | apply below_alloc | apply pw_below_drewN | apply below_drew1) | exact HB.out)⟩
  · rw [if_neg c5] at H
    have c5b0 : (a0 == 1) = false := beq_eq_false_iff_ne.mpr c5
    have c5b1 : (a0 != 1) = true := bne_iff_ne.mpr c5
    by_cases c6 : a0 = 2
    · rw [if_pos c6] at H
      have c6b0 : (a0 == 2) = true := beq_iff_eq.mpr c6
      have c6b1 : (a0 != 2) = false := bne_eq_false_iff_eq.mpr c6
      clear c6
      obtain rfl := Option.some.inj H
      go_enter Try.func10, Try.ntmps10
      go_wp2
      go_ret
      exact ⟨by first | rfl | (simp [errW_none, errW_some] <;> rfl) | (simp [*, errW_none, errW_some] <;> rfl), by repeat (first | (with_reducible first | exact HB.out | apply below_alloc | apply pw_below_drewN | apply below_drew1) | exact HB.out)⟩
    · rw [if_neg c6] at H
      have c6b0 : (a0 == 2) = false := beq_eq_false_iff_ne.mpr c6
      have c6b1 : (a0 != 2) = true := bne_iff_ne.mpr c6
      by_cases c7 : a0 = 3
      · rw [if_pos c7] at H
        have c7b0 : (a0 == 3) = true := beq_iff_eq.mpr c7
        have c7b1 : (a0 != 3) = false := bne_eq_false_iff_eq.mpr c7
        clear c7
        obtain rfl := Option.some.inj H
        go_enter Try.func10, Try.ntmps10
        go_wp2
        go_ret
        exact ⟨by first | rfl | (simp [errW_none, errW_some] <;> rfl) | (simp [*, errW_none, errW_some] <;> rfl), by repeat (first | (with_reducible first | exact HB.out | apply below_alloc | apply pw_below_drewN | apply below_drew1) | exact HB.out)⟩
      · rw [if_neg c7] at H
        have c7b0 : (a0 == 3) = false := beq_eq_false_iff_ne.mpr c7
        have c7b1 : (a0 != 3) = true := bne_iff_ne.mpr c7
        by_cases c8 : a0 = 4
        · rw [if_pos c8] at H
          have c8b0 : (a0 == 4) = true := beq_iff_eq.mpr c8
          have c8b1 : (a0 != 4) = false := bne_eq_false_iff_eq.mpr c8
          clear c8
          have HC9 := Aside0.mk H
          clear H
          go_enter Try.func10, Try.ntmps10
          go_upto_region 10 with (fail)
          go_cut [44] (fun v44 wc => ∃ (kq : Nat) (x44_8 : Bool), v44 = .bool x44_8 ∧ Aside0 (miradorref11_Guess.j0 kq a1 a2 a3 (wrap64 ((wrap64 (a1 + a2)) - a3)) x44_8 = some r) ∧ Aside0 (kq ≤ k) ∧ Aside0 (Below w.heap.size w wc))
          case first =>
            have H := HC9.out
            clear HC9
            replace H := Option.bind_eq_some_iff.mp H
            obtain ⟨t102, A100, H⟩ := H
            replace H : ((miradorref11_far.f (wrap64 ((wrap64 (a1 + a2)) - a3)) a2).bind fun t103 => (if t102 ≤ t103 then ((miradorref11_far.f (wrap64 ((wrap64 (a1 + a2)) - a3)) a1).bind fun t104 => ((miradorref11_far.f (wrap64 ((wrap64 (a1 + a2)) - a3)) a3).bind fun t105 => (miradorref11_Guess.j0 k a1 a2 a3 (wrap64 ((wrap64 (a1 + a2)) - a3)) (decide (t104 ≤ t105))))) else (miradorref11_Guess.j0 k a1 a2 a3 (wrap64 ((wrap64 (a1 + a2)) - a3)) false))) = some r := H
            have A10 := Aside0.mk A100
            clear A100
            replace H := Option.bind_eq_some_iff.mp H
            obtain ⟨t103, A110, H⟩ := H
            replace H : (if t102 ≤ t103 then ((miradorref11_far.f (wrap64 ((wrap64 (a1 + a2)) - a3)) a1).bind fun t104 => ((miradorref11_far.f (wrap64 ((wrap64 (a1 + a2)) - a3)) a3).bind fun t105 => (miradorref11_Guess.j0 k a1 a2 a3 (wrap64 ((wrap64 (a1 + a2)) - a3)) (decide (t104 ≤ t105))))) else (miradorref11_Guess.j0 k a1 a2 a3 (wrap64 ((wrap64 (a1 + a2)) - a3)) false)) = some r := H
            have A11 := Aside0.mk A110
            clear A110
            by_cases c12 : t102 ≤ t103
            · rw [if_pos c12] at H
              have c12b0 : decide (t102 ≤ t103) = true := decide_eq_true c12
              clear c12
              (first | rw [c12b0] | (simp only [i64_w, i32_w]; rw [c12b0]) | skip)
              replace H := Option.bind_eq_some_iff.mp H
              obtain ⟨t104, A130, H⟩ := H
              replace H : ((miradorref11_far.f (wrap64 ((wrap64 (a1 + a2)) - a3)) a3).bind fun t105 => (miradorref11_Guess.j0 k a1 a2 a3 (wrap64 ((wrap64 (a1 + a2)) - a3)) (decide (t104 ≤ t105)))) = some r := H
              have A13 := Aside0.mk A130
              clear A130
              replace H := Option.bind_eq_some_iff.mp H
              obtain ⟨t105, A140, H⟩ := H
              replace H : (miradorref11_Guess.j0 k a1 a2 a3 (wrap64 ((wrap64 (a1 + a2)) - a3)) (decide (t104 ≤ t105))) = some r := H
              have A14 := Aside0.mk A140
              clear A140
              have H' := Aside0.mk H
              clear H
              go_wp2_with (first | ((with_reducible refine gate_callee (f := 20) rfl ?_); refine goesL_ (some 31) rfl rfl Try.func20 (by kernel_rfl) rfl #[.int .i64 (wrap64 ((wrap64 (a1 + a2)) - a3)), .int .i64 a1] rfl (by (try simp only [List.map_toArray, List.map_cons, List.map_nil]); first | done | rfl | (simp only [List.length_drop, List.length_take]; rfl)) ?_; (with_reducible refine (miradorref11_far.calls (wrap64 ((wrap64 (a1 + a2)) - a3)) a1 t102 _ A10.out).mono ?_); rintro e w15 ⟨rfl, hb⟩; refine ⟨_, rfl, ?_⟩; have n0_ := Aside0.mk (below_step (by repeat (first | (with_reducible first | exact HB.out | apply below_alloc | apply pw_below_drewN | apply below_drew1) | exact HB.out)) hb); clear HB; have HB := n0_; clear n0_; (try clear hb); (try clear hb2); (try clear hk); (try clear hi)) | ((with_reducible refine gate_callee (f := 20) rfl ?_); refine goesL_ (some 34) rfl rfl Try.func20 (by kernel_rfl) rfl #[.int .i64 (wrap64 ((wrap64 (a1 + a2)) - a3)), .int .i64 a2] rfl (by (try simp only [List.map_toArray, List.map_cons, List.map_nil]); first | done | rfl | (simp only [List.length_drop, List.length_take]; rfl)) ?_; (with_reducible refine (miradorref11_far.calls (wrap64 ((wrap64 (a1 + a2)) - a3)) a2 t103 _ A11.out).mono ?_); rintro e w16 ⟨rfl, hb⟩; refine ⟨_, rfl, ?_⟩; have n0_ := Aside0.mk (below_step (by repeat (first | (with_reducible first | exact HB.out | apply below_alloc | apply pw_below_drewN | apply below_drew1) | exact HB.out)) hb); clear HB; have HB := n0_; clear n0_; (try clear hb); (try clear hb2); (try clear hk); (try clear hi)) | (go_at_call 20; (with_reducible refine (miradorref11_far.calls (wrap64 ((wrap64 (a1 + a2)) - a3)) a1 t104 _ A13.out).mono ?_); rintro e w17 ⟨rfl, hb⟩; have n0_ := Aside0.mk (below_step (by repeat (first | (with_reducible first | exact HB.out | apply below_alloc | apply pw_below_drewN | apply below_drew1) | exact HB.out)) hb); clear HB; have HB := n0_; clear n0_; (try clear hb); (try clear hb2); (try clear hk); (try clear hi)) | (go_at_call 20; (with_reducible refine (miradorref11_far.calls (wrap64 ((wrap64 (a1 + a2)) - a3)) a3 t105 _ A14.out).mono ?_); rintro e w18 ⟨rfl, hb⟩; have n0_ := Aside0.mk (below_step (by repeat (first | (with_reducible first | exact HB.out | apply below_alloc | apply pw_below_drewN | apply below_drew1) | exact HB.out)) hb); clear HB; have HB := n0_; clear n0_; (try clear hb); (try clear hb2); (try clear hk); (try clear hi)))
              go_meet
              case rel => exact ⟨_, (decide (t104 ≤ t105)), (by first | rfl | (simp; done) | (simp [*]; done)), H', ⟨by first | omega | exact Nat.le_refl _⟩, ⟨by repeat (first | (with_reducible first | exact HB.out | apply below_alloc | apply pw_below_drewN | apply below_drew1) | exact HB.out)⟩⟩
            · rw [if_neg c12] at H
              have c12b0 : decide (t102 ≤ t103) = false := decide_eq_false c12
              clear c12
              (first | rw [c12b0] | (simp only [i64_w, i32_w]; rw [c12b0]) | skip)
              have H' := Aside0.mk H
              clear H
              go_wp2_with (first | ((with_reducible refine gate_callee (f := 20) rfl ?_); refine goesL_ (some 31) rfl rfl Try.func20 (by kernel_rfl) rfl #[.int .i64 (wrap64 ((wrap64 (a1 + a2)) - a3)), .int .i64 a1] rfl (by (try simp only [List.map_toArray, List.map_cons, List.map_nil]); first | done | rfl | (simp only [List.length_drop, List.length_take]; rfl)) ?_; (with_reducible refine (miradorref11_far.calls (wrap64 ((wrap64 (a1 + a2)) - a3)) a1 t102 _ A10.out).mono ?_); rintro e w19 ⟨rfl, hb⟩; refine ⟨_, rfl, ?_⟩; have n0_ := Aside0.mk (below_step (by repeat (first | (with_reducible first | exact HB.out | apply below_alloc | apply pw_below_drewN | apply below_drew1) | exact HB.out)) hb); clear HB; have HB := n0_; clear n0_; (try clear hb); (try clear hb2); (try clear hk); (try clear hi)) | ((with_reducible refine gate_callee (f := 20) rfl ?_); refine goesL_ (some 34) rfl rfl Try.func20 (by kernel_rfl) rfl #[.int .i64 (wrap64 ((wrap64 (a1 + a2)) - a3)), .int .i64 a2] rfl (by (try simp only [List.map_toArray, List.map_cons, List.map_nil]); first | done | rfl | (simp only [List.length_drop, List.length_take]; rfl)) ?_; (with_reducible refine (miradorref11_far.calls (wrap64 ((wrap64 (a1 + a2)) - a3)) a2 t103 _ A11.out).mono ?_); rintro e w20 ⟨rfl, hb⟩; refine ⟨_, rfl, ?_⟩; have n0_ := Aside0.mk (below_step (by repeat (first | (with_reducible first | exact HB.out | apply below_alloc | apply pw_below_drewN | apply below_drew1) | exact HB.out)) hb); clear HB; have HB := n0_; clear n0_; (try clear hb); (try clear hb2); (try clear hk); (try clear hi)))
              go_meet
              case rel => exact ⟨_, (false), (by first | rfl | (simp; done) | (simp [*]; done)), H', ⟨by first | omega | exact Nat.le_refl _⟩, ⟨by repeat (first | (with_reducible first | exact HB.out | apply below_alloc | apply pw_below_drewN | apply below_drew1) | exact HB.out)⟩⟩
          case rest =>
            clear HC9
            try clear c1
            try clear c2
            try clear p2
            try clear c5
            try clear c5b0
            try clear c5b1
            try clear c6
            try clear c6b0
            try clear c6b1
            try clear p6
            try clear c7
            try clear c7b0
            try clear c7b1
            try clear c8
            try clear c8b0
            try clear c8b1
            try clear c10
            try clear c12
            try clear c12b0
            try clear c20
            obtain ⟨kq, x44_8, rfl, HA, HJ8, HB⟩ := hcut
            cases kq with
            | zero => exact absurd HA.out (by simp [miradorref11_Guess.j0])
            | succ kj8 =>
              have H := HA.out
              clear HA
              simp only [miradorref11_Guess.j0] at H
              by_cases c21 : x44_8 = true
              · subst c21
                have H1 : (some a1) = some r := by rw [if_pos rfl] at H; exact H
                clear H
                have H := H1
                clear H1
                obtain rfl := Option.some.inj H
                go_wp2
                go_ret
                exact ⟨by first | rfl | (simp [errW_none, errW_some] <;> rfl) | (simp [*, errW_none, errW_some] <;> rfl), by repeat (first | (with_reducible first | exact HB.out | apply below_alloc | apply pw_below_drewN | apply below_drew1) | exact HB.out)⟩
              · replace c21 := Bool.eq_false_iff.mpr c21
                subst c21
                have H1 : ((miradorref11_far.f (wrap64 ((wrap64 (a1 + a2)) - a3)) a2).bind fun t106 => ((miradorref11_far.f (wrap64 ((wrap64 (a1 + a2)) - a3)) a3).bind fun t107 => (if t106 ≤ t107 then (some a2) else (some a3)))) = some r := by rw [if_neg (show ¬ (false = true) by decide)] at H; exact H
                clear H
                have H := H1
                clear H1
                replace H := Option.bind_eq_some_iff.mp H
                obtain ⟨t106, A220, H⟩ := H
                replace H : ((miradorref11_far.f (wrap64 ((wrap64 (a1 + a2)) - a3)) a3).bind fun t107 => (if t106 ≤ t107 then (some a2) else (some a3))) = some r := H
                have A22 := Aside0.mk A220
                clear A220
                replace H := Option.bind_eq_some_iff.mp H
                obtain ⟨t107, A230, H⟩ := H
                replace H : (if t106 ≤ t107 then (some a2) else (some a3)) = some r := H
                have A23 := Aside0.mk A230
                clear A230
                by_cases c24 : t106 ≤ t107
                · rw [if_pos c24] at H
                  have c24b0 : decide (t106 ≤ t107) = true := decide_eq_true c24
                  clear c24
                  obtain rfl := Option.some.inj H
                  go_wp2_with (first | ((with_reducible refine gate_callee (f := 20) rfl ?_); refine goesL_ (some 48) rfl rfl Try.func20 (by kernel_rfl) rfl #[.int .i64 (wrap64 ((wrap64 (a1 + a2)) - a3)), .int .i64 a2] rfl (by (try simp only [List.map_toArray, List.map_cons, List.map_nil]); first | done | rfl | (simp only [List.length_drop, List.length_take]; rfl)) ?_; (with_reducible refine (miradorref11_far.calls (wrap64 ((wrap64 (a1 + a2)) - a3)) a2 t106 _ A22.out).mono ?_); rintro e w25 ⟨rfl, hb⟩; refine ⟨_, rfl, ?_⟩; have n0_ := Aside0.mk (below_step (by repeat (first | (with_reducible first | exact HB.out | apply below_alloc | apply pw_below_drewN | apply below_drew1) | exact HB.out)) hb); clear HB; have HB := n0_; clear n0_; (try clear hb); (try clear hb2); (try clear hk); (try clear hi)) | ((with_reducible refine gate_callee (f := 20) rfl ?_); refine goesL_ (some 51) rfl rfl Try.func20 (by kernel_rfl) rfl #[.int .i64 (wrap64 ((wrap64 (a1 + a2)) - a3)), .int .i64 a3] rfl (by (try simp only [List.map_toArray, List.map_cons, List.map_nil]); first | done | rfl | (simp only [List.length_drop, List.length_take]; rfl)) ?_; (with_reducible refine (miradorref11_far.calls (wrap64 ((wrap64 (a1 + a2)) - a3)) a3 t107 _ A23.out).mono ?_); rintro e w26 ⟨rfl, hb⟩; refine ⟨_, rfl, ?_⟩; have n0_ := Aside0.mk (below_step (by repeat (first | (with_reducible first | exact HB.out | apply below_alloc | apply pw_below_drewN | apply below_drew1) | exact HB.out)) hb); clear HB; have HB := n0_; clear n0_; (try clear hb); (try clear hb2); (try clear hk); (try clear hi)))
                  go_ret
                  exact ⟨by first | rfl | (simp [errW_none, errW_some] <;> rfl) | (simp [*, errW_none, errW_some] <;> rfl), by repeat (first | (with_reducible first | exact HB.out | apply below_alloc | apply pw_below_drewN | apply below_drew1) | exact HB.out)⟩
                · rw [if_neg c24] at H
                  have c24b0 : decide (t106 ≤ t107) = false := decide_eq_false c24
                  clear c24
                  obtain rfl := Option.some.inj H
                  go_wp2_with (first | ((with_reducible refine gate_callee (f := 20) rfl ?_); refine goesL_ (some 48) rfl rfl Try.func20 (by kernel_rfl) rfl #[.int .i64 (wrap64 ((wrap64 (a1 + a2)) - a3)), .int .i64 a2] rfl (by (try simp only [List.map_toArray, List.map_cons, List.map_nil]); first | done | rfl | (simp only [List.length_drop, List.length_take]; rfl)) ?_; (with_reducible refine (miradorref11_far.calls (wrap64 ((wrap64 (a1 + a2)) - a3)) a2 t106 _ A22.out).mono ?_); rintro e w27 ⟨rfl, hb⟩; refine ⟨_, rfl, ?_⟩; have n0_ := Aside0.mk (below_step (by repeat (first | (with_reducible first | exact HB.out | apply below_alloc | apply pw_below_drewN | apply below_drew1) | exact HB.out)) hb); clear HB; have HB := n0_; clear n0_; (try clear hb); (try clear hb2); (try clear hk); (try clear hi)) | ((with_reducible refine gate_callee (f := 20) rfl ?_); refine goesL_ (some 51) rfl rfl Try.func20 (by kernel_rfl) rfl #[.int .i64 (wrap64 ((wrap64 (a1 + a2)) - a3)), .int .i64 a3] rfl (by (try simp only [List.map_toArray, List.map_cons, List.map_nil]); first | done | rfl | (simp only [List.length_drop, List.length_take]; rfl)) ?_; (with_reducible refine (miradorref11_far.calls (wrap64 ((wrap64 (a1 + a2)) - a3)) a3 t107 _ A23.out).mono ?_); rintro e w28 ⟨rfl, hb⟩; refine ⟨_, rfl, ?_⟩; have n0_ := Aside0.mk (below_step (by repeat (first | (with_reducible first | exact HB.out | apply below_alloc | apply pw_below_drewN | apply below_drew1) | exact HB.out)) hb); clear HB; have HB := n0_; clear n0_; (try clear hb); (try clear hb2); (try clear hk); (try clear hi)))
                  go_ret
                  exact ⟨by first | rfl | (simp [errW_none, errW_some] <;> rfl) | (simp [*, errW_none, errW_some] <;> rfl), by repeat (first | (with_reducible first | exact HB.out | apply below_alloc | apply pw_below_drewN | apply below_drew1) | exact HB.out)⟩
        · rw [if_neg c8] at H
          have c8b0 : (a0 == 4) = false := beq_eq_false_iff_ne.mpr c8
          have c8b1 : (a0 != 4) = true := bne_iff_ne.mpr c8
          obtain rfl := Option.some.inj H
          go_enter Try.func10, Try.ntmps10
          go_wp2
          go_ret
          exact ⟨by first | rfl | (simp [errW_none, errW_some] <;> rfl) | (simp [*, errW_none, errW_some] <;> rfl), by repeat (first | (with_reducible first | exact HB.out | apply below_alloc | apply pw_below_drewN | apply below_drew1) | exact HB.out)⟩

/-! ### miradorref11_Right: function 25 -/
def miradorref11_Right.f (a0 : Int) (a1 : Int) (a2 : ByteArray) (a3 : ByteArray) : Option (Bool) := if a0 ≥ 0 then (if a0 ≤ 4 then (if a1 ≥ 1 then (if a2.toList = ([] : List UInt8) then (some true) else (some ((a2.size : Int) == (a3.size : Int)))) else (some false)) else (some false)) else (some false)
set_option maxHeartbeats 8000000 in
set_option maxRecDepth 100000 in
theorem miradorref11_Right.calls (a0 : Int) (a1 : Int) (a2 : ByteArray) (a3 : ByteArray) (r : Bool) (w : World) (h : miradorref11_Right.f a0 a1 a2 a3 = some r) :
    Calls Try.prog 25 #[.int .i64 a0, .int .i64 a1, .string a2, .string a3] w fun e w' => e = .returned (.bool r) ∧ Drawn0 w w' := by
  have H : (if a0 ≥ 0 then (if a0 ≤ 4 then (if a1 ≥ 1 then (if a2.toList = ([] : List UInt8) then (some true) else (some ((a2.size : Int) == (a3.size : Int)))) else (some false)) else (some false)) else (some false)) = some r := h
  clear h
  by_cases c5 : a0 ≥ 0
  · rw [if_pos c5] at H
    have c5b0 : decide (0 ≤ a0) = true := decide_eq_true c5
    clear c5
    by_cases c6 : a0 ≤ 4
    · rw [if_pos c6] at H
      have c6b0 : decide (a0 ≤ 4) = true := decide_eq_true c6
      clear c6
      by_cases c7 : a1 ≥ 1
      · rw [if_pos c7] at H
        have c7b0 : decide (1 ≤ a1) = true := decide_eq_true c7
        clear c7
        by_cases c8 : a2.toList = ([] : List UInt8)
        · rw [if_pos c8] at H
          have c8b0 : (a2.toList == ([] : List UInt8)) = true := beq_iff_eq.mpr c8
          have c8b1 : (a2.toList != ([] : List UInt8)) = false := bne_eq_false_iff_eq.mpr c8
          clear c8
          obtain rfl := Option.some.inj H
          go_enter Try.func25, Try.ntmps25
          go_wp2
          go_ret
          exact ⟨by first | rfl | (simp; done) | (simp [*]; done), by repeat (first | exact Drawn0.refl _ | apply Drawn0.step)⟩
        · rw [if_neg c8] at H
          have c8b0 : (a2.toList == ([] : List UInt8)) = false := beq_eq_false_iff_ne.mpr c8
          have c8b1 : (a2.toList != ([] : List UInt8)) = true := bne_iff_ne.mpr c8
          obtain rfl := Option.some.inj H
          go_enter Try.func25, Try.ntmps25
          go_wp2
          go_ret
          exact ⟨by first | rfl | (simp; done) | (simp [*]; done), by repeat (first | exact Drawn0.refl _ | apply Drawn0.step)⟩
      · rw [if_neg c7] at H
        have c7b0 : decide (1 ≤ a1) = false := decide_eq_false c7
        clear c7
        obtain rfl := Option.some.inj H
        go_enter Try.func25, Try.ntmps25
        go_wp2
        go_ret
        exact ⟨by first | rfl | (simp; done) | (simp [*]; done), by repeat (first | exact Drawn0.refl _ | apply Drawn0.step)⟩
    · rw [if_neg c6] at H
      have c6b0 : decide (a0 ≤ 4) = false := decide_eq_false c6
      clear c6
      obtain rfl := Option.some.inj H
      go_enter Try.func25, Try.ntmps25
      go_wp2
      go_ret
      exact ⟨by first | rfl | (simp; done) | (simp [*]; done), by repeat (first | exact Drawn0.refl _ | apply Drawn0.step)⟩
  · rw [if_neg c5] at H
    have c5b0 : decide (0 ≤ a0) = false := decide_eq_false c5
    clear c5
    obtain rfl := Option.some.inj H
    go_enter Try.func25, Try.ntmps25
    go_wp2
    go_ret
    exact ⟨by first | rfl | (simp; done) | (simp [*]; done), by repeat (first | exact Drawn0.refl _ | apply Drawn0.step)⟩

/-! ### miradorref11_at: function 26 -/
def miradorref11_at.f (a0 : ByteArray) (a1 : Int) : Option (Int) := if a1 < 0 then (some 0) else (if a1 ≥ (a0.size : Int) then (some 0) else (if 0 ≤ a1 then (if a1 < (a0.size : Int) then (some (wrap64 (bt a0 a1))) else (none)) else (none)))
set_option maxHeartbeats 8000000 in
set_option maxRecDepth 100000 in
theorem miradorref11_at.calls (a0 : ByteArray) (a1 : Int) (r : Int) (w : World) (h : miradorref11_at.f a0 a1 = some r) :
    Calls Try.prog 26 #[.string a0, .int .i64 a1] w fun e w' => e = .returned (.int .i64 r) ∧ Drawn0 w w' := by
  have H : (if a1 < 0 then (some 0) else (if a1 ≥ (a0.size : Int) then (some 0) else (if 0 ≤ a1 then (if a1 < (a0.size : Int) then (some (wrap64 (bt a0 a1))) else (none)) else (none)))) = some r := h
  clear h
  by_cases c3 : a1 < 0
  · rw [if_pos c3] at H
    have c3b0 : decide (a1 < 0) = true := decide_eq_true c3
    clear c3
    obtain rfl := Option.some.inj H
    go_enter Try.func26, Try.ntmps26
    go_wp2
    go_ret
    exact ⟨by first | rfl | (simp; done) | (simp [*]; done), by repeat (first | exact Drawn0.refl _ | apply Drawn0.step)⟩
  · rw [if_neg c3] at H
    have c3b0 : decide (a1 < 0) = false := decide_eq_false c3
    clear c3
    by_cases c4 : a1 ≥ (a0.size : Int)
    · rw [if_pos c4] at H
      have c4b0 : decide ((a0.size : Int) ≤ a1) = true := decide_eq_true c4
      clear c4
      obtain rfl := Option.some.inj H
      go_enter Try.func26, Try.ntmps26
      go_wp2
      go_ret
      exact ⟨by first | rfl | (simp; done) | (simp [*]; done), by repeat (first | exact Drawn0.refl _ | apply Drawn0.step)⟩
    · rw [if_neg c4] at H
      have c4b0 : decide ((a0.size : Int) ≤ a1) = false := decide_eq_false c4
      clear c4
      by_cases c5 : 0 ≤ a1
      · rw [if_pos c5] at H
        have c5b0 : decide (0 ≤ a1) = true := decide_eq_true c5
        clear c5
        by_cases c6 : a1 < (a0.size : Int)
        · rw [if_pos c6] at H
          have c6b0 : decide (a1 < (a0.size : Int)) = true := decide_eq_true c6
          clear c6
          obtain rfl := Option.some.inj H
          have p7 : 0 ≤ (a1 : Int) := of_decide_eq_true (by first | (with_reducible assumption) | assumption)
          have q7 : a1 < (a0.size : Int) := of_decide_eq_true (by first | (with_reducible assumption) | assumption)
          have hx7 := bt_at a0 a1
          replace p7 := eq_true p7
          replace q7 := eq_true q7
          go_enter Try.func26, Try.ntmps26
          go_wp2
          go_ret
          exact ⟨by first | rfl | (simp; done) | (simp [*]; done), by repeat (first | exact Drawn0.refl _ | apply Drawn0.step)⟩
        · rw [if_neg c6] at H
          exact absurd H (by simp)
      · rw [if_neg c5] at H
        exact absurd H (by simp)

/-! ### miradorref11_Filter: function 13 -/
def miradorref11_Filter.l0 : Nat → Int → Int → ByteArray → ByteArray → ByteArray → Int → Option (ByteArray × Int)
  | 0, _, _, _, _, _, _ => none
  | k + 1, x0, x1, x2, x3, x10, x11 => if x11 < (x3.size : Int) then ((miradorref11_at.f x3 (wrap64 (x11 - x1))).bind fun t109 => ((miradorref11_at.f x2 x11).bind fun t110 => ((miradorref11_at.f x2 (wrap64 (x11 - x1))).bind fun t111 => ((miradorref11_Guess.f k x0 t109 t110 t111).bind fun t112 => (if 0 ≤ x11 then ((some (([(Int.tmod (wrap64 ((wrap64 ((wrap64 (bt x3 x11)) - t112)) + 256)) 256) % 256] : List Int) : List Int)).bind fun y113 => (if x10.size + (strOfNums y113).size ≤ 9223372036854775807 then (miradorref11_Filter.l0 k x0 x1 x2 x3 (x10 ++ (strOfNums y113)) (wrap64 (x11 + 1))) else (none))) else (none)))))) else (some (x10, 0))
def miradorref11_Filter.f (k : Nat) (a0 : Int) (a1 : Int) (a2 : ByteArray) (a3 : ByteArray) : Option (ByteArray × Int) := (miradorref11_Right.f a0 a1 a2 a3).bind fun t108 => (if t108 = true then (miradorref11_Filter.l0 k a0 a1 a2 a3 (⟨#[]⟩ : ByteArray) 0) else (some ((⟨#[]⟩ : ByteArray), 1)))
theorem miradorref11_Filter.mono_l : ∀ k, (∀ y0 y1 y2 y3 y4 y5, LeO (miradorref11_Filter.l0 k y0 y1 y2 y3 y4 y5) (miradorref11_Filter.l0 (k + 1) y0 y1 y2 y3 y4 y5))
  | 0 => fun _ _ _ _ _ _ r h => by simp [miradorref11_Filter.l0] at h
  | k + 1 => by
    have ih0 := miradorref11_Filter.mono_l k
    · intro y0 y1 y2 y3 y4 y5
      unfold miradorref11_Filter.l0
      repeat' first
      | (with_reducible exact ih0 _ _ _ _ _ _)
      | (with_reducible exact miradorref11_Guess.mono _ _ _ _ _)
      | (with_reducible exact LeO.refl _)
      | (with_reducible exact LeO.none _)
      | (with_reducible refine LeO.ite ?_ ?_)
      | (with_reducible refine LeO.bind ?_ (fun _ => ?_))
      | exact ih0 _ _ _ _ _ _
      | exact miradorref11_Guess.mono _ _ _ _ _
      | exact LeO.none _
      | refine LeO.ite ?_ ?_
      | refine LeO.bind ?_ (fun _ => ?_)
theorem miradorref11_Filter.mono : ∀ a0 a1 a2 a3 k, LeO (miradorref11_Filter.f k a0 a1 a2 a3) (miradorref11_Filter.f (k + 1) a0 a1 a2 a3) := by
  intro a0 a1 a2 a3 k
  have ih0 := miradorref11_Filter.mono_l k
  unfold miradorref11_Filter.f
  repeat' first
      | (with_reducible exact ih0 _ _ _ _ _ _)
      | (with_reducible exact miradorref11_Guess.mono _ _ _ _ _)
      | (with_reducible exact LeO.refl _)
      | (with_reducible exact LeO.none _)
      | (with_reducible refine LeO.ite ?_ ?_)
      | (with_reducible refine LeO.bind ?_ (fun _ => ?_))
      | exact ih0 _ _ _ _ _ _
      | exact miradorref11_Guess.mono _ _ _ _ _
      | exact LeO.none _
      | refine LeO.ite ?_ ?_
      | refine LeO.bind ?_ (fun _ => ?_)
set_option maxHeartbeats 8000000 in
set_option maxRecDepth 100000 in
theorem miradorref11_Filter.calls (k : Nat) (a0 : Int) (a1 : Int) (a2 : ByteArray) (a3 : ByteArray) (r1 : ByteArray) (r2 : Int) (w : World) (h : miradorref11_Filter.f k a0 a1 a2 a3 = some (r1, r2)) :
    Calls Try.prog 13 #[.int .i64 a0, .int .i64 a1, .string a2, .string a3] w fun e w' => e = .returned (.tuple #[.string r1, .int .i64 r2]) ∧ Below w.heap.size w w' := by
  have HB := Aside0.mk (Below.refl w.heap.size w)
  have H : ((miradorref11_Right.f a0 a1 a2 a3).bind fun t108 => (if t108 = true then (miradorref11_Filter.l0 k a0 a1 a2 a3 (⟨#[]⟩ : ByteArray) 0) else (some ((⟨#[]⟩ : ByteArray), 1)))) = some (r1, r2) := h
  clear h
  replace H := Option.bind_eq_some_iff.mp H
  obtain ⟨t108, A50, H⟩ := H
  replace H : (if t108 = true then (miradorref11_Filter.l0 k a0 a1 a2 a3 (⟨#[]⟩ : ByteArray) 0) else (some ((⟨#[]⟩ : ByteArray), 1))) = some (r1, r2) := H
  have A5 := Aside0.mk A50
  clear A50
  by_cases c6 : t108 = true
  · subst c6
    have H1 : (miradorref11_Filter.l0 k a0 a1 a2 a3 (⟨#[]⟩ : ByteArray) 0) = some (r1, r2) := by rw [if_pos rfl] at H; exact H
    clear H
    have H := H1
    clear H1
    have H' := Aside0.mk H
    clear H
    go_enter Try.func13, Try.ntmps13
    go_wp2_with (first | ((with_reducible refine gate_callee (f := 25) rfl ?_); refine goesL_ (some 17) rfl rfl Try.func25 (by kernel_rfl) rfl #[.int .i64 a0, .int .i64 a1, .string a2, .string a3] rfl (by (try simp only [List.map_toArray, List.map_cons, List.map_nil]); first | done | rfl | (simp only [List.length_drop, List.length_take]; rfl)) ?_; (with_reducible refine (miradorref11_Right.calls a0 a1 a2 a3 true _ A5.out).mono ?_); rintro e w' ⟨rfl, ⟨nd, rfl⟩⟩; refine ⟨_, rfl, ?_⟩))
    go_loopg [10, 11] k (fun kq v10 v11 w' => ∃ (x10_1 : ByteArray) (x11_1 : Int), v10 = .string x10_1 ∧ v11 = .int .i64 x11_1 ∧ Aside0 (miradorref11_Filter.l0 kq a0 a1 a2 a3 x10_1 x11_1 = some (r1, r2)) ∧ Aside0 (kq ≤ k) ∧ Aside0 (Below w.heap.size w w'))
    case atStart => exact ⟨((⟨#[]⟩ : ByteArray)), (0), (by first | rfl | (simp; done) | (simp [*]; done)), (by first | rfl | (simp; done) | (simp [*]; done)), H', ⟨Nat.le_refl _⟩, ⟨by repeat (first | (with_reducible first | exact HB.out | apply below_alloc | apply pw_below_drewN | apply below_drew1) | exact HB.out)⟩⟩
    case round =>
      clear H'
      try clear c1
      try clear c2
      try clear p2
      try clear c6
      obtain ⟨x10_1, x11_1, rfl, rfl, HA, HK1, HB⟩ := hrel
      cases gk with
      | zero => exact absurd HA.out (by simp [miradorref11_Filter.l0])
      | succ k1 =>
        have H := HA.out
        clear HA
        simp only [miradorref11_Filter.l0] at H
        by_cases c7 : x11_1 < (a3.size : Int)
        · rw [if_pos c7] at H
          have c7b0 : decide (x11_1 < (a3.size : Int)) = true := decide_eq_true c7
          clear c7
          replace H := Option.bind_eq_some_iff.mp H
          obtain ⟨t109, A80, H⟩ := H
          replace H : ((miradorref11_at.f a2 x11_1).bind fun t110 => ((miradorref11_at.f a2 (wrap64 (x11_1 - a1))).bind fun t111 => ((miradorref11_Guess.f k1 a0 t109 t110 t111).bind fun t112 => (if 0 ≤ x11_1 then ((some (([(Int.tmod (wrap64 ((wrap64 ((wrap64 (bt a3 x11_1)) - t112)) + 256)) 256) % 256] : List Int) : List Int)).bind fun y113 => (if x10_1.size + (strOfNums y113).size ≤ 9223372036854775807 then (miradorref11_Filter.l0 k1 a0 a1 a2 a3 (x10_1 ++ (strOfNums y113)) (wrap64 (x11_1 + 1))) else (none))) else (none))))) = some (r1, r2) := H
          have A8 := Aside0.mk A80
          clear A80
          replace H := Option.bind_eq_some_iff.mp H
          obtain ⟨t110, A90, H⟩ := H
          replace H : ((miradorref11_at.f a2 (wrap64 (x11_1 - a1))).bind fun t111 => ((miradorref11_Guess.f k1 a0 t109 t110 t111).bind fun t112 => (if 0 ≤ x11_1 then ((some (([(Int.tmod (wrap64 ((wrap64 ((wrap64 (bt a3 x11_1)) - t112)) + 256)) 256) % 256] : List Int) : List Int)).bind fun y113 => (if x10_1.size + (strOfNums y113).size ≤ 9223372036854775807 then (miradorref11_Filter.l0 k1 a0 a1 a2 a3 (x10_1 ++ (strOfNums y113)) (wrap64 (x11_1 + 1))) else (none))) else (none)))) = some (r1, r2) := H
          have A9 := Aside0.mk A90
          clear A90
          replace H := Option.bind_eq_some_iff.mp H
          obtain ⟨t111, A100, H⟩ := H
          replace H : ((miradorref11_Guess.f k1 a0 t109 t110 t111).bind fun t112 => (if 0 ≤ x11_1 then ((some (([(Int.tmod (wrap64 ((wrap64 ((wrap64 (bt a3 x11_1)) - t112)) + 256)) 256) % 256] : List Int) : List Int)).bind fun y113 => (if x10_1.size + (strOfNums y113).size ≤ 9223372036854775807 then (miradorref11_Filter.l0 k1 a0 a1 a2 a3 (x10_1 ++ (strOfNums y113)) (wrap64 (x11_1 + 1))) else (none))) else (none))) = some (r1, r2) := H
          have A10 := Aside0.mk A100
          clear A100
          replace H := Option.bind_eq_some_iff.mp H
          obtain ⟨t112, A110, H⟩ := H
          replace H : (if 0 ≤ x11_1 then ((some (([(Int.tmod (wrap64 ((wrap64 ((wrap64 (bt a3 x11_1)) - t112)) + 256)) 256) % 256] : List Int) : List Int)).bind fun y113 => (if x10_1.size + (strOfNums y113).size ≤ 9223372036854775807 then (miradorref11_Filter.l0 k1 a0 a1 a2 a3 (x10_1 ++ (strOfNums y113)) (wrap64 (x11_1 + 1))) else (none))) else (none)) = some (r1, r2) := H
          have A11 := Aside0.mk A110
          clear A110
          by_cases c12 : 0 ≤ x11_1
          · rw [if_pos c12] at H
            have c12b0 : decide (0 ≤ x11_1) = true := decide_eq_true c12
            clear c12
            obtain ⟨y113, hy113⟩ : ∃ y_ : List Int, y_ = (([(Int.tmod (wrap64 ((wrap64 ((wrap64 (bt a3 x11_1)) - t112)) + 256)) 256) % 256] : List Int)) := ⟨_, rfl⟩
            replace H : (if x10_1.size + (strOfNums y113).size ≤ 9223372036854775807 then (miradorref11_Filter.l0 k1 a0 a1 a2 a3 (x10_1 ++ (strOfNums y113)) (wrap64 (x11_1 + 1))) else (none)) = some (r1, r2) := by first | (rw [hy113]; with_reducible exact H) | (have H2_ := (Option.bind_some _ _).symm.trans H; rw [hy113]; with_reducible exact H2_) | (have H2_ := (Option.bind_some _ _).symm.trans H; with_reducible exact H2_) | with_reducible exact H | (rw [hy113]; exact H) | exact H
            have Ny113 := Aside0.mk hy113
            clear hy113
            by_cases c14 : x10_1.size + (strOfNums y113).size ≤ 9223372036854775807
            · rw [if_pos c14] at H
              have c14b0 := eq_true c14
              have c14b1 : decide (x10_1.size + (strOfNums y113).size ≤ 9223372036854775807) = true := decide_eq_true c14
              try have c14b2 : (9223372036854775807 < x10_1.size + (strOfNums y113).size) = False := eq_false (Nat.not_lt.2 c14)
              have H' := Aside0.mk H
              clear H
              go_wp2_with (first | ((with_reducible refine gate_callee (f := 26) rfl ?_); refine goesL_ (some 30) rfl rfl Try.func26 (by kernel_rfl) rfl #[.string a3, .int .i64 (wrap64 (x11_1 - a1))] rfl (by (try simp only [List.map_toArray, List.map_cons, List.map_nil]); first | done | rfl | (simp only [List.length_drop, List.length_take]; rfl)) ?_; (with_reducible refine (miradorref11_at.calls a3 (wrap64 (x11_1 - a1)) t109 _ A8.out).mono ?_); rintro e w' ⟨rfl, ⟨nd, rfl⟩⟩; refine ⟨_, rfl, ?_⟩) | ((with_reducible refine gate_callee (f := 26) rfl ?_); refine goesL_ (some 33) rfl rfl Try.func26 (by kernel_rfl) rfl #[.string a2, .int .i64 x11_1] rfl (by (try simp only [List.map_toArray, List.map_cons, List.map_nil]); first | done | rfl | (simp only [List.length_drop, List.length_take]; rfl)) ?_; (with_reducible refine (miradorref11_at.calls a2 x11_1 t110 _ A9.out).mono ?_); rintro e w' ⟨rfl, ⟨nd, rfl⟩⟩; refine ⟨_, rfl, ?_⟩) | ((with_reducible refine gate_callee (f := 26) rfl ?_); refine goesL_ (some 38) rfl rfl Try.func26 (by kernel_rfl) rfl #[.string a2, .int .i64 (wrap64 (x11_1 - a1))] rfl (by (try simp only [List.map_toArray, List.map_cons, List.map_nil]); first | done | rfl | (simp only [List.length_drop, List.length_take]; rfl)) ?_; (with_reducible refine (miradorref11_at.calls a2 (wrap64 (x11_1 - a1)) t111 _ A10.out).mono ?_); rintro e w' ⟨rfl, ⟨nd, rfl⟩⟩; refine ⟨_, rfl, ?_⟩) | ((with_reducible refine gate_callee (f := 10) rfl ?_); refine goesL_ (some 39) rfl rfl Try.func10 (by kernel_rfl) rfl #[.int .i64 a0, .int .i64 t109, .int .i64 t110, .int .i64 t111] rfl (by (try simp only [List.map_toArray, List.map_cons, List.map_nil]); first | done | rfl | (simp only [List.length_drop, List.length_take]; rfl)) ?_; (with_reducible refine (miradorref11_Guess.calls k1 a0 t109 t110 t111 t112 _ A11.out).mono ?_); rintro e w15 ⟨rfl, hb⟩; refine ⟨_, rfl, ?_⟩; have n0_ := Aside0.mk (below_step (by repeat (first | (with_reducible first | exact HB.out | apply below_alloc | apply pw_below_drewN | apply below_drew1) | exact HB.out)) hb); clear HB; have HB := n0_; clear n0_; (try clear hb); (try clear hb2); (try clear hk); (try clear hi); have p13 : 0 ≤ (x11_1 : Int) := of_decide_eq_true (by first | (with_reducible assumption) | assumption); have q13 : x11_1 < (a3.size : Int) := of_decide_eq_true (by first | (with_reducible assumption) | assumption); have hx13 := bt_at a3 x11_1; replace p13 := eq_true p13; replace q13 := eq_true q13) | ((with_reducible refine gate_dst (N := 50) rfl ?_); refine Kd.R_lit (Kd.int .u8) _ 5 ?hg (N := 50) ?hd (xs := ([(Int.tmod (wrap64 ((wrap64 ((wrap64 (bt a3 x11_1)) - t112)) + 256)) 256) % 256] : List Int)) (inner := [.int .u8 ((Int.tmod (wrap64 ((wrap64 ((wrap64 (bt a3 x11_1)) - t112)) + 256)) 256) % 256)]) (ok := fun _ => True) (okp := fun _ => True) ?hr ?hp (fun _ hk => hk) trivial (Below.refl _ _) (Nat.le_refl _) (by simp) ?_; (case hd => rfl); (case hg => rfl); (case hr => first | (go_simp; done) | (go_simp; rfl)); (case hp => exact (Reps.one (show Kd.M (Kd.int .u8) _ _ _ ((Int.tmod (wrap64 ((wrap64 ((wrap64 (bt a3 x11_1)) - t112)) + 256)) 256) % 256) [.int .u8 ((Int.tmod (wrap64 ((wrap64 ((wrap64 (bt a3 x11_1)) - t112)) + 256)) 256) % 256)] from rfl) (Reps.none _ _))); intro v114 w16 ho17 hb hg_ hnew_; clear hg_ hnew_; (first | rw [← Ny113.out] at ho17 | (simp only [Int.reduceToNat] at ho17; rw [← Ny113.out] at ho17)); have n0_ := Aside0.mk (Kd.R_lower ho17 (below_size (by repeat (first | (with_reducible first | exact HB.out | apply below_alloc | apply pw_below_drewN | apply below_drew1) | exact HB.out)))); have n1_ := Aside0.mk (below_step (by repeat (first | (with_reducible first | exact HB.out | apply below_alloc | apply pw_below_drewN | apply below_drew1) | exact HB.out)) hb); clear HB; have HO115 := n0_; have HB := n1_; clear n0_ n1_; clear hb ho17; have hcv18 := own_string (P := Try.prog) Try.underlying33 Try.underlying5 Try.underlying9 (Kd.own_of_R HO115.out)))
              go_roundg k1
              case measure => have := HK1.out; omega
              case rel => exact ⟨(x10_1 ++ (strOfNums y113)), (wrap64 (x11_1 + 1)), (by first | rfl | (simp; done) | (simp [*]; done)), (by first | rfl | (simp; done) | (simp [*]; done)), H', ⟨by have := HK1.out; omega⟩, ⟨by repeat (first | (with_reducible first | exact HB.out | apply below_alloc | apply pw_below_drewN | apply below_drew1) | exact HB.out)⟩⟩
            · rw [if_neg c14] at H
              exact absurd H (by simp)
          · rw [if_neg c12] at H
            exact absurd H (by simp)
        · rw [if_neg c7] at H
          have c7b0 : decide (x11_1 < (a3.size : Int)) = false := decide_eq_false c7
          clear c7
          simp only [Option.some.injEq, Prod.mk.injEq] at H
          obtain ⟨rfl, rfl⟩ := H
          go_wp2
          go_ret2
          exact ⟨by first | rfl | (simp [errW_none, errW_some] <;> rfl) | (simp [*, errW_none, errW_some] <;> rfl), by repeat (first | (with_reducible first | exact HB.out | apply below_alloc | apply pw_below_drewN | apply below_drew1) | exact HB.out)⟩
  · replace c6 := Bool.eq_false_iff.mpr c6
    subst c6
    have H1 : (some ((⟨#[]⟩ : ByteArray), 1)) = some (r1, r2) := by rw [if_neg (show ¬ (false = true) by decide)] at H; exact H
    clear H
    have H := H1
    clear H1
    simp only [Option.some.injEq, Prod.mk.injEq] at H
    obtain ⟨rfl, rfl⟩ := H
    go_enter Try.func13, Try.ntmps13
    go_wp2_with (first | ((with_reducible refine gate_callee (f := 25) rfl ?_); refine goesL_ (some 17) rfl rfl Try.func25 (by kernel_rfl) rfl #[.int .i64 a0, .int .i64 a1, .string a2, .string a3] rfl (by (try simp only [List.map_toArray, List.map_cons, List.map_nil]); first | done | rfl | (simp only [List.length_drop, List.length_take]; rfl)) ?_; (with_reducible refine (miradorref11_Right.calls a0 a1 a2 a3 false _ A5.out).mono ?_); rintro e w' ⟨rfl, ⟨nd, rfl⟩⟩; refine ⟨_, rfl, ?_⟩))
    go_ret2
    exact ⟨by first | rfl | (simp [errW_none, errW_some] <;> rfl) | (simp [*, errW_none, errW_some] <;> rfl), by repeat (first | (with_reducible first | exact HB.out | apply below_alloc | apply pw_below_drewN | apply below_drew1) | exact HB.out)⟩

/-! ### miradorref11_Unfilter: function 15 -/
def miradorref11_Unfilter.l0 : Nat → Int → Int → ByteArray → ByteArray → ByteArray → Int → Option (ByteArray × Int)
  | 0, _, _, _, _, _, _ => none
  | k + 1, x0, x1, x2, x3, x10, x11 => if x11 < (x3.size : Int) then ((miradorref11_at.f x10 (wrap64 (x11 - x1))).bind fun t117 => ((miradorref11_at.f x2 x11).bind fun t118 => ((miradorref11_at.f x2 (wrap64 (x11 - x1))).bind fun t119 => ((miradorref11_Guess.f k x0 t117 t118 t119).bind fun t120 => (if 0 ≤ x11 then ((some (([(Int.tmod (wrap64 ((wrap64 (bt x3 x11)) + t120)) 256) % 256] : List Int) : List Int)).bind fun y121 => (if x10.size + (strOfNums y121).size ≤ 9223372036854775807 then (miradorref11_Unfilter.l0 k x0 x1 x2 x3 (x10 ++ (strOfNums y121)) (wrap64 (x11 + 1))) else (none))) else (none)))))) else (some (x10, 0))
def miradorref11_Unfilter.f (k : Nat) (a0 : Int) (a1 : Int) (a2 : ByteArray) (a3 : ByteArray) : Option (ByteArray × Int) := (miradorref11_Right.f a0 a1 a2 a3).bind fun t116 => (if t116 = true then (miradorref11_Unfilter.l0 k a0 a1 a2 a3 (⟨#[]⟩ : ByteArray) 0) else (some ((⟨#[]⟩ : ByteArray), 1)))
theorem miradorref11_Unfilter.mono_l : ∀ k, (∀ y0 y1 y2 y3 y4 y5, LeO (miradorref11_Unfilter.l0 k y0 y1 y2 y3 y4 y5) (miradorref11_Unfilter.l0 (k + 1) y0 y1 y2 y3 y4 y5))
  | 0 => fun _ _ _ _ _ _ r h => by simp [miradorref11_Unfilter.l0] at h
  | k + 1 => by
    have ih0 := miradorref11_Unfilter.mono_l k
    · intro y0 y1 y2 y3 y4 y5
      unfold miradorref11_Unfilter.l0
      repeat' first
      | (with_reducible exact ih0 _ _ _ _ _ _)
      | (with_reducible exact miradorref11_Guess.mono _ _ _ _ _)
      | (with_reducible exact LeO.refl _)
      | (with_reducible exact LeO.none _)
      | (with_reducible refine LeO.ite ?_ ?_)
      | (with_reducible refine LeO.bind ?_ (fun _ => ?_))
      | exact ih0 _ _ _ _ _ _
      | exact miradorref11_Guess.mono _ _ _ _ _
      | exact LeO.none _
      | refine LeO.ite ?_ ?_
      | refine LeO.bind ?_ (fun _ => ?_)
theorem miradorref11_Unfilter.mono : ∀ a0 a1 a2 a3 k, LeO (miradorref11_Unfilter.f k a0 a1 a2 a3) (miradorref11_Unfilter.f (k + 1) a0 a1 a2 a3) := by
  intro a0 a1 a2 a3 k
  have ih0 := miradorref11_Unfilter.mono_l k
  unfold miradorref11_Unfilter.f
  repeat' first
      | (with_reducible exact ih0 _ _ _ _ _ _)
      | (with_reducible exact miradorref11_Guess.mono _ _ _ _ _)
      | (with_reducible exact LeO.refl _)
      | (with_reducible exact LeO.none _)
      | (with_reducible refine LeO.ite ?_ ?_)
      | (with_reducible refine LeO.bind ?_ (fun _ => ?_))
      | exact ih0 _ _ _ _ _ _
      | exact miradorref11_Guess.mono _ _ _ _ _
      | exact LeO.none _
      | refine LeO.ite ?_ ?_
      | refine LeO.bind ?_ (fun _ => ?_)
set_option maxHeartbeats 8000000 in
set_option maxRecDepth 100000 in
theorem miradorref11_Unfilter.calls (k : Nat) (a0 : Int) (a1 : Int) (a2 : ByteArray) (a3 : ByteArray) (r1 : ByteArray) (r2 : Int) (w : World) (h : miradorref11_Unfilter.f k a0 a1 a2 a3 = some (r1, r2)) :
    Calls Try.prog 15 #[.int .i64 a0, .int .i64 a1, .string a2, .string a3] w fun e w' => e = .returned (.tuple #[.string r1, .int .i64 r2]) ∧ Below w.heap.size w w' := by
  have HB := Aside0.mk (Below.refl w.heap.size w)
  have H : ((miradorref11_Right.f a0 a1 a2 a3).bind fun t116 => (if t116 = true then (miradorref11_Unfilter.l0 k a0 a1 a2 a3 (⟨#[]⟩ : ByteArray) 0) else (some ((⟨#[]⟩ : ByteArray), 1)))) = some (r1, r2) := h
  clear h
  replace H := Option.bind_eq_some_iff.mp H
  obtain ⟨t116, A50, H⟩ := H
  replace H : (if t116 = true then (miradorref11_Unfilter.l0 k a0 a1 a2 a3 (⟨#[]⟩ : ByteArray) 0) else (some ((⟨#[]⟩ : ByteArray), 1))) = some (r1, r2) := H
  have A5 := Aside0.mk A50
  clear A50
  by_cases c6 : t116 = true
  · subst c6
    have H1 : (miradorref11_Unfilter.l0 k a0 a1 a2 a3 (⟨#[]⟩ : ByteArray) 0) = some (r1, r2) := by rw [if_pos rfl] at H; exact H
    clear H
    have H := H1
    clear H1
    have H' := Aside0.mk H
    clear H
    go_enter Try.func15, Try.ntmps15
    go_wp2_with (first | ((with_reducible refine gate_callee (f := 25) rfl ?_); refine goesL_ (some 17) rfl rfl Try.func25 (by kernel_rfl) rfl #[.int .i64 a0, .int .i64 a1, .string a2, .string a3] rfl (by (try simp only [List.map_toArray, List.map_cons, List.map_nil]); first | done | rfl | (simp only [List.length_drop, List.length_take]; rfl)) ?_; (with_reducible refine (miradorref11_Right.calls a0 a1 a2 a3 true _ A5.out).mono ?_); rintro e w' ⟨rfl, ⟨nd, rfl⟩⟩; refine ⟨_, rfl, ?_⟩))
    go_loopg [10, 11] k (fun kq v10 v11 w' => ∃ (x10_1 : ByteArray) (x11_1 : Int), v10 = .string x10_1 ∧ v11 = .int .i64 x11_1 ∧ Aside0 (miradorref11_Unfilter.l0 kq a0 a1 a2 a3 x10_1 x11_1 = some (r1, r2)) ∧ Aside0 (kq ≤ k) ∧ Aside0 (Below w.heap.size w w'))
    case atStart => exact ⟨((⟨#[]⟩ : ByteArray)), (0), (by first | rfl | (simp; done) | (simp [*]; done)), (by first | rfl | (simp; done) | (simp [*]; done)), H', ⟨Nat.le_refl _⟩, ⟨by repeat (first | (with_reducible first | exact HB.out | apply below_alloc | apply pw_below_drewN | apply below_drew1) | exact HB.out)⟩⟩
    case round =>
      clear H'
      try clear c1
      try clear c2
      try clear p2
      try clear c6
      obtain ⟨x10_1, x11_1, rfl, rfl, HA, HK1, HB⟩ := hrel
      cases gk with
      | zero => exact absurd HA.out (by simp [miradorref11_Unfilter.l0])
      | succ k1 =>
        have H := HA.out
        clear HA
        simp only [miradorref11_Unfilter.l0] at H
        by_cases c7 : x11_1 < (a3.size : Int)
        · rw [if_pos c7] at H
          have c7b0 : decide (x11_1 < (a3.size : Int)) = true := decide_eq_true c7
          clear c7
          replace H := Option.bind_eq_some_iff.mp H
          obtain ⟨t117, A80, H⟩ := H
          replace H : ((miradorref11_at.f a2 x11_1).bind fun t118 => ((miradorref11_at.f a2 (wrap64 (x11_1 - a1))).bind fun t119 => ((miradorref11_Guess.f k1 a0 t117 t118 t119).bind fun t120 => (if 0 ≤ x11_1 then ((some (([(Int.tmod (wrap64 ((wrap64 (bt a3 x11_1)) + t120)) 256) % 256] : List Int) : List Int)).bind fun y121 => (if x10_1.size + (strOfNums y121).size ≤ 9223372036854775807 then (miradorref11_Unfilter.l0 k1 a0 a1 a2 a3 (x10_1 ++ (strOfNums y121)) (wrap64 (x11_1 + 1))) else (none))) else (none))))) = some (r1, r2) := H
          have A8 := Aside0.mk A80
          clear A80
          replace H := Option.bind_eq_some_iff.mp H
          obtain ⟨t118, A90, H⟩ := H
          replace H : ((miradorref11_at.f a2 (wrap64 (x11_1 - a1))).bind fun t119 => ((miradorref11_Guess.f k1 a0 t117 t118 t119).bind fun t120 => (if 0 ≤ x11_1 then ((some (([(Int.tmod (wrap64 ((wrap64 (bt a3 x11_1)) + t120)) 256) % 256] : List Int) : List Int)).bind fun y121 => (if x10_1.size + (strOfNums y121).size ≤ 9223372036854775807 then (miradorref11_Unfilter.l0 k1 a0 a1 a2 a3 (x10_1 ++ (strOfNums y121)) (wrap64 (x11_1 + 1))) else (none))) else (none)))) = some (r1, r2) := H
          have A9 := Aside0.mk A90
          clear A90
          replace H := Option.bind_eq_some_iff.mp H
          obtain ⟨t119, A100, H⟩ := H
          replace H : ((miradorref11_Guess.f k1 a0 t117 t118 t119).bind fun t120 => (if 0 ≤ x11_1 then ((some (([(Int.tmod (wrap64 ((wrap64 (bt a3 x11_1)) + t120)) 256) % 256] : List Int) : List Int)).bind fun y121 => (if x10_1.size + (strOfNums y121).size ≤ 9223372036854775807 then (miradorref11_Unfilter.l0 k1 a0 a1 a2 a3 (x10_1 ++ (strOfNums y121)) (wrap64 (x11_1 + 1))) else (none))) else (none))) = some (r1, r2) := H
          have A10 := Aside0.mk A100
          clear A100
          replace H := Option.bind_eq_some_iff.mp H
          obtain ⟨t120, A110, H⟩ := H
          replace H : (if 0 ≤ x11_1 then ((some (([(Int.tmod (wrap64 ((wrap64 (bt a3 x11_1)) + t120)) 256) % 256] : List Int) : List Int)).bind fun y121 => (if x10_1.size + (strOfNums y121).size ≤ 9223372036854775807 then (miradorref11_Unfilter.l0 k1 a0 a1 a2 a3 (x10_1 ++ (strOfNums y121)) (wrap64 (x11_1 + 1))) else (none))) else (none)) = some (r1, r2) := H
          have A11 := Aside0.mk A110
          clear A110
          by_cases c12 : 0 ≤ x11_1
          · rw [if_pos c12] at H
            have c12b0 : decide (0 ≤ x11_1) = true := decide_eq_true c12
            clear c12
            obtain ⟨y121, hy121⟩ : ∃ y_ : List Int, y_ = (([(Int.tmod (wrap64 ((wrap64 (bt a3 x11_1)) + t120)) 256) % 256] : List Int)) := ⟨_, rfl⟩
            replace H : (if x10_1.size + (strOfNums y121).size ≤ 9223372036854775807 then (miradorref11_Unfilter.l0 k1 a0 a1 a2 a3 (x10_1 ++ (strOfNums y121)) (wrap64 (x11_1 + 1))) else (none)) = some (r1, r2) := by first | (rw [hy121]; with_reducible exact H) | (have H2_ := (Option.bind_some _ _).symm.trans H; rw [hy121]; with_reducible exact H2_) | (have H2_ := (Option.bind_some _ _).symm.trans H; with_reducible exact H2_) | with_reducible exact H | (rw [hy121]; exact H) | exact H
            have Ny121 := Aside0.mk hy121
            clear hy121
            by_cases c14 : x10_1.size + (strOfNums y121).size ≤ 9223372036854775807
            · rw [if_pos c14] at H
              have c14b0 := eq_true c14
              have c14b1 : decide (x10_1.size + (strOfNums y121).size ≤ 9223372036854775807) = true := decide_eq_true c14
              try have c14b2 : (9223372036854775807 < x10_1.size + (strOfNums y121).size) = False := eq_false (Nat.not_lt.2 c14)
              have H' := Aside0.mk H
              clear H
              go_wp2_with (first | ((with_reducible refine gate_callee (f := 26) rfl ?_); refine goesL_ (some 30) rfl rfl Try.func26 (by kernel_rfl) rfl #[.string x10_1, .int .i64 (wrap64 (x11_1 - a1))] rfl (by (try simp only [List.map_toArray, List.map_cons, List.map_nil]); first | done | rfl | (simp only [List.length_drop, List.length_take]; rfl)) ?_; (with_reducible refine (miradorref11_at.calls x10_1 (wrap64 (x11_1 - a1)) t117 _ A8.out).mono ?_); rintro e w' ⟨rfl, ⟨nd, rfl⟩⟩; refine ⟨_, rfl, ?_⟩) | ((with_reducible refine gate_callee (f := 26) rfl ?_); refine goesL_ (some 33) rfl rfl Try.func26 (by kernel_rfl) rfl #[.string a2, .int .i64 x11_1] rfl (by (try simp only [List.map_toArray, List.map_cons, List.map_nil]); first | done | rfl | (simp only [List.length_drop, List.length_take]; rfl)) ?_; (with_reducible refine (miradorref11_at.calls a2 x11_1 t118 _ A9.out).mono ?_); rintro e w' ⟨rfl, ⟨nd, rfl⟩⟩; refine ⟨_, rfl, ?_⟩) | ((with_reducible refine gate_callee (f := 26) rfl ?_); refine goesL_ (some 38) rfl rfl Try.func26 (by kernel_rfl) rfl #[.string a2, .int .i64 (wrap64 (x11_1 - a1))] rfl (by (try simp only [List.map_toArray, List.map_cons, List.map_nil]); first | done | rfl | (simp only [List.length_drop, List.length_take]; rfl)) ?_; (with_reducible refine (miradorref11_at.calls a2 (wrap64 (x11_1 - a1)) t119 _ A10.out).mono ?_); rintro e w' ⟨rfl, ⟨nd, rfl⟩⟩; refine ⟨_, rfl, ?_⟩) | ((with_reducible refine gate_callee (f := 10) rfl ?_); refine goesL_ (some 39) rfl rfl Try.func10 (by kernel_rfl) rfl #[.int .i64 a0, .int .i64 t117, .int .i64 t118, .int .i64 t119] rfl (by (try simp only [List.map_toArray, List.map_cons, List.map_nil]); first | done | rfl | (simp only [List.length_drop, List.length_take]; rfl)) ?_; (with_reducible refine (miradorref11_Guess.calls k1 a0 t117 t118 t119 t120 _ A11.out).mono ?_); rintro e w15 ⟨rfl, hb⟩; refine ⟨_, rfl, ?_⟩; have n0_ := Aside0.mk (below_step (by repeat (first | (with_reducible first | exact HB.out | apply below_alloc | apply pw_below_drewN | apply below_drew1) | exact HB.out)) hb); clear HB; have HB := n0_; clear n0_; (try clear hb); (try clear hb2); (try clear hk); (try clear hi); have p13 : 0 ≤ (x11_1 : Int) := of_decide_eq_true (by first | (with_reducible assumption) | assumption); have q13 : x11_1 < (a3.size : Int) := of_decide_eq_true (by first | (with_reducible assumption) | assumption); have hx13 := bt_at a3 x11_1; replace p13 := eq_true p13; replace q13 := eq_true q13) | ((with_reducible refine gate_dst (N := 49) rfl ?_); refine Kd.R_lit (Kd.int .u8) _ 5 ?hg (N := 49) ?hd (xs := ([(Int.tmod (wrap64 ((wrap64 (bt a3 x11_1)) + t120)) 256) % 256] : List Int)) (inner := [.int .u8 ((Int.tmod (wrap64 ((wrap64 (bt a3 x11_1)) + t120)) 256) % 256)]) (ok := fun _ => True) (okp := fun _ => True) ?hr ?hp (fun _ hk => hk) trivial (Below.refl _ _) (Nat.le_refl _) (by simp) ?_; (case hd => rfl); (case hg => rfl); (case hr => first | (go_simp; done) | (go_simp; rfl)); (case hp => exact (Reps.one (show Kd.M (Kd.int .u8) _ _ _ ((Int.tmod (wrap64 ((wrap64 (bt a3 x11_1)) + t120)) 256) % 256) [.int .u8 ((Int.tmod (wrap64 ((wrap64 (bt a3 x11_1)) + t120)) 256) % 256)] from rfl) (Reps.none _ _))); intro v122 w16 ho17 hb hg_ hnew_; clear hg_ hnew_; (first | rw [← Ny121.out] at ho17 | (simp only [Int.reduceToNat] at ho17; rw [← Ny121.out] at ho17)); have n0_ := Aside0.mk (Kd.R_lower ho17 (below_size (by repeat (first | (with_reducible first | exact HB.out | apply below_alloc | apply pw_below_drewN | apply below_drew1) | exact HB.out)))); have n1_ := Aside0.mk (below_step (by repeat (first | (with_reducible first | exact HB.out | apply below_alloc | apply pw_below_drewN | apply below_drew1) | exact HB.out)) hb); clear HB; have HO123 := n0_; have HB := n1_; clear n0_ n1_; clear hb ho17; have hcv18 := own_string (P := Try.prog) Try.underlying33 Try.underlying5 Try.underlying9 (Kd.own_of_R HO123.out)))
              go_roundg k1
              case measure => have := HK1.out; omega
              case rel => exact ⟨(x10_1 ++ (strOfNums y121)), (wrap64 (x11_1 + 1)), (by first | rfl | (simp; done) | (simp [*]; done)), (by first | rfl | (simp; done) | (simp [*]; done)), H', ⟨by have := HK1.out; omega⟩, ⟨by repeat (first | (with_reducible first | exact HB.out | apply below_alloc | apply pw_below_drewN | apply below_drew1) | exact HB.out)⟩⟩
            · rw [if_neg c14] at H
              exact absurd H (by simp)
          · rw [if_neg c12] at H
            exact absurd H (by simp)
        · rw [if_neg c7] at H
          have c7b0 : decide (x11_1 < (a3.size : Int)) = false := decide_eq_false c7
          clear c7
          simp only [Option.some.injEq, Prod.mk.injEq] at H
          obtain ⟨rfl, rfl⟩ := H
          go_wp2
          go_ret2
          exact ⟨by first | rfl | (simp [errW_none, errW_some] <;> rfl) | (simp [*, errW_none, errW_some] <;> rfl), by repeat (first | (with_reducible first | exact HB.out | apply below_alloc | apply pw_below_drewN | apply below_drew1) | exact HB.out)⟩
  · replace c6 := Bool.eq_false_iff.mpr c6
    subst c6
    have H1 : (some ((⟨#[]⟩ : ByteArray), 1)) = some (r1, r2) := by rw [if_neg (show ¬ (false = true) by decide)] at H; exact H
    clear H
    have H := H1
    clear H1
    simp only [Option.some.injEq, Prod.mk.injEq] at H
    obtain ⟨rfl, rfl⟩ := H
    go_enter Try.func15, Try.ntmps15
    go_wp2_with (first | ((with_reducible refine gate_callee (f := 25) rfl ?_); refine goesL_ (some 17) rfl rfl Try.func25 (by kernel_rfl) rfl #[.int .i64 a0, .int .i64 a1, .string a2, .string a3] rfl (by (try simp only [List.map_toArray, List.map_cons, List.map_nil]); first | done | rfl | (simp only [List.length_drop, List.length_take]; rfl)) ?_; (with_reducible refine (miradorref11_Right.calls a0 a1 a2 a3 false _ A5.out).mono ?_); rintro e w' ⟨rfl, ⟨nd, rfl⟩⟩; refine ⟨_, rfl, ?_⟩))
    go_ret2
    exact ⟨by first | rfl | (simp [errW_none, errW_some] <;> rfl) | (simp [*, errW_none, errW_some] <;> rfl), by repeat (first | (with_reducible first | exact HB.out | apply below_alloc | apply pw_below_drewN | apply below_drew1) | exact HB.out)⟩

/-! ### miradorref11_Weight: function 18 -/
def miradorref11_Weight.l0 : Nat → ByteArray → Int → Int → Option (Int)
  | 0, _, _, _ => none
  | k + 1, x0, x3, x4 => if x4 < (x0.size : Int) then (if 0 ≤ x4 then (miradorref11_Weight.l0 k x0 (wrap64 (x3 + (mn (wrap64 (bt x0 x4)) (wrap64 (256 - (wrap64 (bt x0 x4))))))) (wrap64 (x4 + 1))) else (none)) else (some x3)
def miradorref11_Weight.f (k : Nat) (a0 : ByteArray) : Option (Int) := miradorref11_Weight.l0 k a0 0 0
theorem miradorref11_Weight.mono_l : ∀ k, (∀ y0 y1 y2, LeO (miradorref11_Weight.l0 k y0 y1 y2) (miradorref11_Weight.l0 (k + 1) y0 y1 y2))
  | 0 => fun _ _ _ r h => by simp [miradorref11_Weight.l0] at h
  | k + 1 => by
    have ih0 := miradorref11_Weight.mono_l k
    · intro y0 y1 y2
      unfold miradorref11_Weight.l0
      repeat' first
      | (with_reducible exact ih0 _ _ _)
      | (with_reducible exact LeO.refl _)
      | (with_reducible exact LeO.none _)
      | (with_reducible refine LeO.ite ?_ ?_)
      | (with_reducible refine LeO.bind ?_ (fun _ => ?_))
      | exact ih0 _ _ _
      | exact LeO.none _
      | refine LeO.ite ?_ ?_
      | refine LeO.bind ?_ (fun _ => ?_)
theorem miradorref11_Weight.mono : ∀ a0 k, LeO (miradorref11_Weight.f k a0) (miradorref11_Weight.f (k + 1) a0) := by
  intro a0 k
  have ih0 := miradorref11_Weight.mono_l k
  unfold miradorref11_Weight.f
  repeat' first
      | (with_reducible exact ih0 _ _ _)
      | (with_reducible exact LeO.refl _)
      | (with_reducible exact LeO.none _)
      | (with_reducible refine LeO.ite ?_ ?_)
      | (with_reducible refine LeO.bind ?_ (fun _ => ?_))
      | exact ih0 _ _ _
      | exact LeO.none _
      | refine LeO.ite ?_ ?_
      | refine LeO.bind ?_ (fun _ => ?_)
set_option maxHeartbeats 8000000 in
set_option maxRecDepth 100000 in
theorem miradorref11_Weight.calls (k : Nat) (a0 : ByteArray) (r : Int) (w : World) (h : miradorref11_Weight.f k a0 = some r) :
    Calls Try.prog 18 #[.string a0] w fun e w' => e = .returned (.int .i64 r) ∧ Below w.heap.size w w' := by
  have HB := Aside0.mk (Below.refl w.heap.size w)
  have H : (miradorref11_Weight.l0 k a0 0 0) = some r := h
  clear h
  have H' := Aside0.mk H
  clear H
  go_enter Try.func18, Try.ntmps18
  go_wp2
  go_loopg [3, 4] k (fun kq v3 v4 w' => ∃ (x3_1 : Int) (x4_1 : Int), v3 = .int .i64 x3_1 ∧ v4 = .int .i64 x4_1 ∧ Aside0 (miradorref11_Weight.l0 kq a0 x3_1 x4_1 = some r) ∧ Aside0 (kq ≤ k) ∧ Aside0 (Below w.heap.size w w'))
  case atStart => exact ⟨(0), (0), (by first | rfl | (simp; done) | (simp [*]; done)), (by first | rfl | (simp; done) | (simp [*]; done)), H', ⟨Nat.le_refl _⟩, ⟨by repeat (first | (with_reducible first | exact HB.out | apply below_alloc | apply pw_below_drewN | apply below_drew1) | exact HB.out)⟩⟩
  case round =>
    clear H'
    try clear c1
    obtain ⟨x3_1, x4_1, rfl, rfl, HA, HK1, HB⟩ := hrel
    cases gk with
    | zero => exact absurd HA.out (by simp [miradorref11_Weight.l0])
    | succ k1 =>
      have H := HA.out
      clear HA
      simp only [miradorref11_Weight.l0] at H
      by_cases c2 : x4_1 < (a0.size : Int)
      · rw [if_pos c2] at H
        have c2b0 : decide (x4_1 < (a0.size : Int)) = true := decide_eq_true c2
        clear c2
        by_cases c3 : 0 ≤ x4_1
        · rw [if_pos c3] at H
          have c3b0 : decide (0 ≤ x4_1) = true := decide_eq_true c3
          clear c3
          obtain ⟨ji5, hji5⟩ : ∃ j_ : Int, (mn (wrap64 (bt a0 x4_1)) (wrap64 (256 - (wrap64 (bt a0 x4_1))))) = j_ := ⟨_, rfl⟩
          replace H : (miradorref11_Weight.l0 k1 a0 (wrap64 (x3_1 + (ji5))) (wrap64 (x4_1 + 1))) = some r := by first | (rw [hji5] at H; exact H) | (simp only [hji5] at H ⊢; exact H)
          have hji5_ : (if (wrap64 (256 - (wrap64 (bt a0 x4_1)))) < (wrap64 (bt a0 x4_1)) then (wrap64 (256 - (wrap64 (bt a0 x4_1)))) else (wrap64 (bt a0 x4_1))) = ji5 := hji5
          have H' := Aside0.mk H
          clear H
          have p4 : 0 ≤ (x4_1 : Int) := of_decide_eq_true (by first | (with_reducible assumption) | assumption)
          have q4 : x4_1 < (a0.size : Int) := of_decide_eq_true (by first | (with_reducible assumption) | assumption)
          have hx4 := bt_at a0 x4_1
          replace p4 := eq_true p4
          replace q4 := eq_true q4
          go_wp2
          go_roundg k1
          case measure => have := HK1.out; omega
          case rel => exact ⟨(wrap64 (x3_1 + (ji5))), (wrap64 (x4_1 + 1)), (by first | rfl | (simp; done) | (simp only [← hji5] <;> (first | rfl | simp)) | (simp [*]; done)), (by first | rfl | (simp; done) | (simp [*]; done)), H', ⟨by have := HK1.out; omega⟩, ⟨by repeat (first | (with_reducible first | exact HB.out | apply below_alloc | apply pw_below_drewN | apply below_drew1) | exact HB.out)⟩⟩
        · rw [if_neg c3] at H
          exact absurd H (by simp)
      · rw [if_neg c2] at H
        have c2b0 : decide (x4_1 < (a0.size : Int)) = false := decide_eq_false c2
        clear c2
        obtain rfl := Option.some.inj H
        go_wp2
        go_ret
        exact ⟨by first | rfl | (simp [errW_none, errW_some] <;> rfl) | (simp [*, errW_none, errW_some] <;> rfl), by repeat (first | (with_reducible first | exact HB.out | apply below_alloc | apply pw_below_drewN | apply below_drew1) | exact HB.out)⟩

end Go.Proofs.Ytflkcempeehilaa.PFilterRows
