-- PRINTED BY print.sh 35421559b90ae4d0a3588c463048766b98c2df88dd9212a6774a882060cdf62d: not written by this session
import Derived.Test.YtbiamfokicmkpaaPAdlerSumsx0
namespace Go.Proofs.Ytbiamfokicmkpaa.PAdlerSums
open Go.RowKit Go.Proofs.YtbiamfokicmkpaaW.PrintWords Go.Proofs.YtbiamfokicmkpaaW.PrintLast Go.Proofs.YtbiamfokicmkpaaW.PrintMore
attribute [local go_sem] max2_int min2_int max_two min_two max_three min_three max_four min_four   -- for this text's walks alone
set_option linter.unusedVariables false
set_option linter.unusedSimpArgs false

/-! ### adler_parts: function 13 -/
def adler_parts.f (a0 : Int) : Option (Int × Int) := some (Go.bits .and .i64 a0 65535, Go.bits .and .i64 (a0 / 65536) 65535)
set_option maxHeartbeats 8000000 in
set_option maxRecDepth 100000 in
theorem adler_parts.calls (a0 : Int) (r1 : Int) (r2 : Int) (w : World) (h : adler_parts.f a0 = some (r1, r2)) :
    Calls Try.prog 13 #[.int .i64 a0] w fun e w' => e = .returned (.tuple #[.int .i64 r1, .int .i64 r2]) ∧ Drawn0 w w' := by
  have H : (some (Go.bits .and .i64 a0 65535, Go.bits .and .i64 (a0 / 65536) 65535)) = some (r1, r2) := h
  clear h
  simp only [Option.some.injEq, Prod.mk.injEq] at H
  obtain ⟨rfl, rfl⟩ := H
  go_enter Try.func13, Try.ntmps13
  go_wp2
  go_ret2
  exact ⟨by first | rfl | (simp; done) | (simp [*]; done), by repeat (first | exact Drawn0.refl _ | apply Drawn0.step)⟩

/-! ### adler_More: function 9 -/
mutual
def adler_More.l0 : Nat → ByteArray → Int → Int → Option (Int)
  | 0, _, _, _ => none
  | k + 1, x1, x5, x6 => if (x1.size : Int) > 0 then (adler_More.l1 k x1 x5 x6 (mn (x1.size : Int) 4096) (mn (x1.size : Int) 4096) 0) else (some (Go.bits .or .i64 (wrap64 (x6 * 65536)) x5))
def adler_More.l1 : Nat → ByteArray → Int → Int → Int → Int → Int → Option (Int)
  | 0, _, _, _, _, _, _ => none
  | k + 1, x1, x5, x6, x7, x20, x21 => if x21 < x20 then (if 0 ≤ x21 then (if x21 < (x1.size : Int) then (adler_More.l1 k x1 (wrap64 (x5 + (wrap64 (bt x1 x21)))) (wrap64 (x6 + (wrap64 (x5 + (wrap64 (bt x1 x21)))))) x7 x20 (wrap64 (x21 + 1))) else (none)) else (none)) else (if 0 ≤ x7 then (if x7 ≤ (x1.size : Int) then (adler_More.l0 k (x1.extract (x7 : Int).toNat x1.size) (Int.tmod x5 65521) (Int.tmod x6 65521)) else (none)) else (none))
end
def adler_More.f (k : Nat) (a0 : Int) (a1 : ByteArray) : Option (Int) := (adler_parts.f a0).bind fun bt101 => (adler_More.l0 k a1 bt101.1 bt101.2)
theorem adler_More.mono_l : ∀ k, (∀ y0 y1 y2, LeO (adler_More.l0 k y0 y1 y2) (adler_More.l0 (k + 1) y0 y1 y2)) ∧ (∀ y0 y1 y2 y3 y4 y5, LeO (adler_More.l1 k y0 y1 y2 y3 y4 y5) (adler_More.l1 (k + 1) y0 y1 y2 y3 y4 y5))
  | 0 => ⟨fun _ _ _ r h => by simp [adler_More.l0] at h, fun _ _ _ _ _ _ r h => by simp [adler_More.l1] at h⟩
  | k + 1 => by
    obtain ⟨ih0, ih1⟩ := adler_More.mono_l k
    refine ⟨?_, ?_⟩
    · intro y0 y1 y2
      unfold adler_More.l0
      repeat' first
      | (with_reducible exact ih0 _ _ _)
      | (with_reducible exact ih1 _ _ _ _ _ _)
      | (with_reducible exact LeO.refl _)
      | (with_reducible exact LeO.none _)
      | (with_reducible refine LeO.ite ?_ ?_)
      | (with_reducible refine LeO.bind ?_ (fun _ => ?_))
      | exact ih0 _ _ _
      | exact ih1 _ _ _ _ _ _
      | exact LeO.none _
      | refine LeO.ite ?_ ?_
      | refine LeO.bind ?_ (fun _ => ?_)
    · intro y0 y1 y2 y3 y4 y5
      unfold adler_More.l1
      repeat' first
      | (with_reducible exact ih0 _ _ _)
      | (with_reducible exact ih1 _ _ _ _ _ _)
      | (with_reducible exact LeO.refl _)
      | (with_reducible exact LeO.none _)
      | (with_reducible refine LeO.ite ?_ ?_)
      | (with_reducible refine LeO.bind ?_ (fun _ => ?_))
      | exact ih0 _ _ _
      | exact ih1 _ _ _ _ _ _
      | exact LeO.none _
      | refine LeO.ite ?_ ?_
      | refine LeO.bind ?_ (fun _ => ?_)
theorem adler_More.mono : ∀ a0 a1 k, LeO (adler_More.f k a0 a1) (adler_More.f (k + 1) a0 a1) := by
  intro a0 a1 k
  obtain ⟨ih0, ih1⟩ := adler_More.mono_l k
  unfold adler_More.f
  repeat' first
      | (with_reducible exact ih0 _ _ _)
      | (with_reducible exact ih1 _ _ _ _ _ _)
      | (with_reducible exact LeO.refl _)
      | (with_reducible exact LeO.none _)
      | (with_reducible refine LeO.ite ?_ ?_)
      | (with_reducible refine LeO.bind ?_ (fun _ => ?_))
      | exact ih0 _ _ _
      | exact ih1 _ _ _ _ _ _
      | exact LeO.none _
      | refine LeO.ite ?_ ?_
      | refine LeO.bind ?_ (fun _ => ?_)
set_option maxHeartbeats 8000000 in
set_option maxRecDepth 100000 in
theorem adler_More.calls (k : Nat) (a0 : Int) (a1 : ByteArray) (r : Int) (w : World) (h : adler_More.f k a0 a1 = some r) :
    Calls Try.prog 9 #[.int .i64 a0, .string a1] w fun e w' => e = .returned (.int .i64 r) ∧ Below w.heap.size w w' := by
  have HB := Aside0.mk (Below.refl w.heap.size w)
  have H : ((adler_parts.f a0).bind fun bt101 => (adler_More.l0 k a1 bt101.1 bt101.2)) = some r := h
  clear h
  replace H := Option.bind_eq_some_iff.mp H
  obtain ⟨⟨t101, t102⟩, A30, H⟩ := H
  replace H : (adler_More.l0 k a1 t101 t102) = some r := H
  have A3 := Aside0.mk A30
  clear A30
  have H' := Aside0.mk H
  clear H
  go_enter Try.func9, Try.ntmps9
  go_wp2_with (first | (go_at_call 13; (with_reducible refine (adler_parts.calls a0 t101 t102 _ A3.out).mono ?_); rintro e w' ⟨rfl, ⟨nd, rfl⟩⟩; (try first | exact ⟨rfl, _, World.drewN_drewN _ _ _⟩ | exact ⟨rfl, _, Eq.trans (World.drewN_drewN _ _ _) (congrArg (World.drewN _) (Nat.add_assoc _ _ _))⟩)))
  repeat (go_quiet (first | (go_at_call 13; (with_reducible refine (adler_parts.calls a0 t101 t102 _ A3.out).mono ?_); rintro e w' ⟨rfl, ⟨nd, rfl⟩⟩; (try first | exact ⟨rfl, _, World.drewN_drewN _ _ _⟩ | exact ⟨rfl, _, Eq.trans (World.drewN_drewN _ _ _) (congrArg (World.drewN _) (Nat.add_assoc _ _ _))⟩))); try go_wp2_with (first | (go_at_call 13; (with_reducible refine (adler_parts.calls a0 t101 t102 _ A3.out).mono ?_); rintro e w' ⟨rfl, ⟨nd, rfl⟩⟩; (try first | exact ⟨rfl, _, World.drewN_drewN _ _ _⟩ | exact ⟨rfl, _, Eq.trans (World.drewN_drewN _ _ _) (congrArg (World.drewN _) (Nat.add_assoc _ _ _))⟩))))
  go_loopg [1, 5, 6] k (fun kq v1 v5 v6 w' => ∃ (x1_1 : ByteArray) (x5_1 : Int) (x6_1 : Int), v1 = .string x1_1 ∧ v5 = .int .i64 x5_1 ∧ v6 = .int .i64 x6_1 ∧ Aside0 (adler_More.l0 kq x1_1 x5_1 x6_1 = some r) ∧ Aside0 (kq ≤ k) ∧ Aside0 (Below w.heap.size w w'))
  case atStart => exact ⟨(a1), (t101), (t102), (by first | rfl | (simp; done) | (simp [*]; done)), (by first | rfl | (simp; done) | (simp [*]; done)), (by first | rfl | (simp; done) | (simp [*]; done)), H', ⟨Nat.le_refl _⟩, ⟨by repeat (first | (with_reducible first | exact HB.out | apply below_alloc | apply pw_below_drewN | apply below_drew1) | exact HB.out)⟩⟩
  case round =>
    clear H'
    try clear p2
    obtain ⟨x1_1, x5_1, x6_1, rfl, rfl, rfl, HA, HK1, HB⟩ := hrel
    cases gk with
    | zero => exact absurd HA.out (by simp [adler_More.l0])
    | succ k1 =>
      have H := HA.out
      clear HA
      simp only [adler_More.l0] at H
      by_cases c4 : (x1_1.size : Int) > 0
      · rw [if_pos c4] at H
        have c4b0 : decide (0 < (x1_1.size : Int)) = true := decide_eq_true c4
        have c4b1 : decide (0 < x1_1.size) = true := decide_eq_true (by omega)
        clear c4
        obtain ⟨ji5, hji5⟩ : ∃ j_ : Int, (mn (x1_1.size : Int) 4096) = j_ := ⟨_, rfl⟩
        replace H : (adler_More.l1 k1 x1_1 x5_1 x6_1 ji5 ji5 0) = some r := by first | (rw [hji5] at H; exact H) | (simp only [hji5] at H ⊢; exact H)
        have hji5_ : (if 4096 < (x1_1.size : Int) then 4096 else (x1_1.size : Int)) = ji5 := hji5
        have H' := Aside0.mk H
        clear H
        go_wp2
        repeat (go_quiet (fail); try go_wp2)
        go_loopg [5, 6, 21] k1 (fun kq v5 v6 v21 w' => ∃ (x5_2 : Int) (x6_2 : Int) (x21_2 : Int), v5 = .int .i64 x5_2 ∧ v6 = .int .i64 x6_2 ∧ v21 = .int .i64 x21_2 ∧ Aside0 (adler_More.l1 kq x1_1 x5_2 x6_2 ji5 ji5 x21_2 = some r) ∧ Aside0 (kq ≤ k1) ∧ Aside0 (Below w.heap.size w w'))
        case atStart => exact ⟨(x5_1), (x6_1), (0), (by first | rfl | (simp; done) | (simp [*]; done)), (by first | rfl | (simp; done) | (simp [*]; done)), (by first | rfl | (simp; done) | (simp [*]; done)), H', ⟨Nat.le_refl _⟩, ⟨by repeat (first | (with_reducible first | exact HB.out | apply below_alloc | apply pw_below_drewN | apply below_drew1) | exact HB.out)⟩⟩
        case round =>
          clear H'
          try clear p2
          try clear c4
          try clear c4b0
          try clear c4b1
          try clear p2
          obtain ⟨x5_2, x6_2, x21_2, rfl, rfl, rfl, HA, HK2, HB⟩ := hrel
          cases gk with
          | zero => exact absurd HA.out (by simp [adler_More.l1])
          | succ k2 =>
            have H := HA.out
            clear HA
            simp only [adler_More.l1] at H
            by_cases c6 : x21_2 < ji5
            · rw [if_pos c6] at H
              have c6b0 : decide (x21_2 < ji5) = true := decide_eq_true c6
              clear c6
              by_cases c7 : 0 ≤ x21_2
              · rw [if_pos c7] at H
                have c7b0 : decide (0 ≤ x21_2) = true := decide_eq_true c7
                clear c7
                by_cases c8 : x21_2 < (x1_1.size : Int)
                · rw [if_pos c8] at H
                  have c8b0 : decide (x21_2 < (x1_1.size : Int)) = true := decide_eq_true c8
                  clear c8
                  have H' := Aside0.mk H
                  clear H
                  have p9 : 0 ≤ (x21_2 : Int) := of_decide_eq_true (by first | (with_reducible assumption) | assumption)
                  have q9 : x21_2 < (x1_1.size : Int) := of_decide_eq_true (by first | (with_reducible assumption) | assumption)
                  have hx9 := bt_at x1_1 x21_2
                  replace p9 := eq_true p9
                  replace q9 := eq_true q9
                  go_wp2
                  repeat (go_quiet (fail); try go_wp2)
                  go_roundg k2
                  case measure => have := HK1.out; have := HK2.out; omega
                  case rel => exact ⟨(wrap64 (x5_2 + (wrap64 (bt x1_1 x21_2)))), (wrap64 (x6_2 + (wrap64 (x5_2 + (wrap64 (bt x1_1 x21_2)))))), (wrap64 (x21_2 + 1)), (by first | rfl | (simp; done) | (simp [*]; done)), (by first | rfl | (simp; done) | (simp [*]; done)), (by first | rfl | (simp; done) | (simp [*]; done)), H', ⟨by have := HK1.out; have := HK2.out; omega⟩, ⟨by repeat (first | (with_reducible first | exact HB.out | apply below_alloc | apply pw_below_drewN | apply below_drew1) | exact HB.out)⟩⟩
                · rw [if_neg c8] at H
                  exact absurd H (by simp)
              · rw [if_neg c7] at H
                exact absurd H (by simp)
            · rw [if_neg c6] at H
              have c6b0 : decide (x21_2 < ji5) = false := decide_eq_false c6
              clear c6
              by_cases c10 : 0 ≤ ji5
              · rw [if_pos c10] at H
                have c10b0 := eq_true c10
                have c10b1 : decide (0 ≤ ji5) = true := decide_eq_true c10
                clear c10
                by_cases c11 : ji5 ≤ (x1_1.size : Int)
                · rw [if_pos c11] at H
                  have c11b0 := eq_true c11
                  have c11b1 : decide (ji5 ≤ (x1_1.size : Int)) = true := decide_eq_true c11
                  clear c11
                  have H' := Aside0.mk H
                  clear H
                  go_wp2
                  repeat (go_quiet (fail); try go_wp2)
                  go_roundg k2
                  case measure => have := HK1.out; have := HK2.out; omega
                  case rel => exact ⟨(x1_1.extract (ji5 : Int).toNat x1_1.size), (Int.tmod x5_2 65521), (Int.tmod x6_2 65521), (by first | rfl | (simp; done) | (simp only [← hji5] <;> (first | rfl | simp)) | (simp [*]; done)), (by first | rfl | (simp; done) | (simp [*]; done)), (by first | rfl | (simp; done) | (simp [*]; done)), H', ⟨by have := HK1.out; have := HK2.out; omega⟩, ⟨by repeat (first | (with_reducible first | exact HB.out | apply below_alloc | apply pw_below_drewN | apply below_drew1) | exact HB.out)⟩⟩
                · rw [if_neg c11] at H
                  exact absurd H (by simp)
              · rw [if_neg c10] at H
                exact absurd H (by simp)
      · rw [if_neg c4] at H
        have c4b0 : decide (0 < (x1_1.size : Int)) = false := decide_eq_false c4
        have c4b1 : decide (0 < x1_1.size) = false := decide_eq_false (by omega)
        clear c4
        obtain rfl := Option.some.inj H
        go_wp2
        repeat (go_quiet (fail); try go_wp2)
        go_ret
        exact ⟨by first | rfl | (simp [errW_none, errW_some] <;> rfl) | (simp [*, errW_none, errW_some] <;> rfl), by repeat (first | (with_reducible first | exact HB.out | apply below_alloc | apply pw_below_drewN | apply below_drew1) | exact HB.out)⟩

/-! ### adler_Sum: function 8 -/
def adler_Sum.l0 : Nat → Int → List ByteArray → Int → Int → Option (Int)
  | 0, _, _, _, _ => none
  | k + 1, x3, x6, x7, x8 => if x8 < x7 then (if 0 ≤ x8 then (if x8 < (x6.length : Int) then ((adler_More.f k x3 (rdOf ByteArray.empty x6 x8)).bind fun t104 => (adler_Sum.l0 k t104 x6 x7 (wrap64 (x8 + 1)))) else (none)) else (none)) else (some x3)
def adler_Sum.f (k : Nat) (l0 : List ByteArray) : Option (Int) := adler_Sum.l0 k 1 l0 (l0.length : Int) 0
theorem adler_Sum.mono_l : ∀ k, (∀ y0 y1 y2 y3, LeO (adler_Sum.l0 k y0 y1 y2 y3) (adler_Sum.l0 (k + 1) y0 y1 y2 y3))
  | 0 => fun _ _ _ _ r h => by simp [adler_Sum.l0] at h
  | k + 1 => by
    have ih0 := adler_Sum.mono_l k
    · intro y0 y1 y2 y3
      unfold adler_Sum.l0
      repeat' first
      | (with_reducible exact ih0 _ _ _ _)
      | (with_reducible exact adler_More.mono _ _ _)
      | (with_reducible exact LeO.refl _)
      | (with_reducible exact LeO.none _)
      | (with_reducible refine LeO.ite ?_ ?_)
      | (with_reducible refine LeO.bind ?_ (fun _ => ?_))
      | exact ih0 _ _ _ _
      | exact adler_More.mono _ _ _
      | exact LeO.none _
      | refine LeO.ite ?_ ?_
      | refine LeO.bind ?_ (fun _ => ?_)
theorem adler_Sum.mono : ∀ a0 k, LeO (adler_Sum.f k a0) (adler_Sum.f (k + 1) a0) := by
  intro a0 k
  have ih0 := adler_Sum.mono_l k
  unfold adler_Sum.f
  repeat' first
      | (with_reducible exact ih0 _ _ _ _)
      | (with_reducible exact adler_More.mono _ _ _)
      | (with_reducible exact LeO.refl _)
      | (with_reducible exact LeO.none _)
      | (with_reducible refine LeO.ite ?_ ?_)
      | (with_reducible refine LeO.bind ?_ (fun _ => ?_))
      | exact ih0 _ _ _ _
      | exact adler_More.mono _ _ _
      | exact LeO.none _
      | refine LeO.ite ?_ ?_
      | refine LeO.bind ?_ (fun _ => ?_)
set_option maxHeartbeats 8000000 in
set_option maxRecDepth 100000 in
theorem adler_Sum.calls (k : Nat) (A0 : Option Addr) (c0 : Nat) (l0 : List ByteArray) (r : Int) (w : World) (hr0 : Kd.C Kd.string w A0 l0.length l0) (hc0 : l0.length ≤ c0) (h : adler_Sum.f k l0 = some r) :
    Calls Try.prog 8 #[.slice A0 l0.length c0] w fun e w' => e = .returned (.int .i64 r) ∧ Below w.heap.size w w' := by
  have HR0 := Aside0.mk hr0
  have HC0 := Aside0.mk hc0
  clear hr0 hc0
  have HB := Aside0.mk (Below.refl w.heap.size w)
  have H : (adler_Sum.l0 k 1 l0 (l0.length : Int) 0) = some r := h
  clear h
  have H' := Aside0.mk H
  clear H
  go_enter Try.func8, Try.ntmps8
  go_wp2
  go_loopg [3, 8] k (fun kq v3 v8 w' => ∃ (x3_1 : Int) (x8_1 : Int), v3 = .int .i64 x3_1 ∧ v8 = .int .i64 x8_1 ∧ Aside0 (adler_Sum.l0 kq x3_1 l0 (l0.length : Int) x8_1 = some r) ∧ Aside0 (kq ≤ k) ∧ Aside0 (Below w.heap.size w w'))
  case atStart => exact ⟨(1), (0), (by first | rfl | (simp; done) | (simp [*]; done)), (by first | rfl | (simp; done) | (simp [*]; done)), H', ⟨Nat.le_refl _⟩, ⟨by repeat (first | (with_reducible first | exact HB.out | apply below_alloc | apply pw_below_drewN | apply below_drew1) | exact HB.out)⟩⟩
  case round =>
    clear H'
    obtain ⟨x3_1, x8_1, rfl, rfl, HA, HK1, HB⟩ := hrel
    cases gk with
    | zero => exact absurd HA.out (by simp [adler_Sum.l0])
    | succ k1 =>
      have H := HA.out
      clear HA
      simp only [adler_Sum.l0] at H
      by_cases c2 : x8_1 < (l0.length : Int)
      · rw [if_pos c2] at H
        have c2b0 : decide (x8_1 < (l0.length : Int)) = true := decide_eq_true c2
        clear c2
        by_cases c3 : 0 ≤ x8_1
        · rw [if_pos c3] at H
          have c3b0 : decide (0 ≤ x8_1) = true := decide_eq_true c3
          clear c3
          by_cases c4 : x8_1 < (l0.length : Int)
          · rw [if_pos c4] at H
            have c4b0 : decide (x8_1 < (l0.length : Int)) = true := decide_eq_true c4
            clear c4
            replace H := Option.bind_eq_some_iff.mp H
            obtain ⟨t104, A50, H⟩ := H
            replace H : (adler_Sum.l0 k1 t104 l0 (l0.length : Int) (wrap64 (x8_1 + 1))) = some r := H
            have A5 := Aside0.mk A50
            clear A50
            have H' := Aside0.mk H
            clear H
            have p103 : 0 ≤ (x8_1 : Int) := of_decide_eq_true (by first | (with_reducible assumption) | assumption)
            have q103 : x8_1 < (l0.length : Int) := of_decide_eq_true (by first | (with_reducible assumption) | assumption)
            obtain ⟨ad103, e103, hx103_0⟩ := Kd.at_string HR0.out x8_1 p103 q103
            cases e103
            replace hx103_0 := (HB.out.cell (World.block_lt_of_cell? w _ hx103_0)).trans hx103_0
            replace p103 := eq_true p103
            replace q103 := eq_true q103
            go_wp2_with (first | ((with_reducible refine gate_callee (f := 9) rfl ?_); refine goesL_ (some 14) rfl rfl Try.func9 (by kernel_rfl) rfl #[.int .i64 x3_1, .string (rdOf ByteArray.empty l0 x8_1)] rfl (by (try simp only [List.map_toArray, List.map_cons, List.map_nil]); first | done | rfl | (simp only [List.length_drop, List.length_take]; rfl)) ?_; (with_reducible refine (adler_More.calls k1 x3_1 (rdOf ByteArray.empty l0 x8_1) t104 _ A5.out).mono ?_); rintro e w6 ⟨rfl, hb⟩; refine ⟨_, rfl, ?_⟩; have n0_ := Aside0.mk (below_step (by repeat (first | (with_reducible first | exact HB.out | apply below_alloc | apply pw_below_drewN | apply below_drew1) | exact HB.out)) hb); clear HB; have HB := n0_; clear n0_; (try clear hb); (try clear hb2); (try clear hk); (try clear hi)))
            go_roundg k1
            case measure => have := HK1.out; omega
            case rel => exact ⟨(t104), (wrap64 (x8_1 + 1)), (by first | rfl | (simp; done) | (simp [*]; done)), (by first | rfl | (simp; done) | (simp [*]; done)), H', ⟨by have := HK1.out; omega⟩, ⟨by repeat (first | (with_reducible first | exact HB.out | apply below_alloc | apply pw_below_drewN | apply below_drew1) | exact HB.out)⟩⟩
          · rw [if_neg c4] at H
            exact absurd H (by simp)
        · rw [if_neg c3] at H
          exact absurd H (by simp)
      · rw [if_neg c2] at H
        have c2b0 : decide (x8_1 < (l0.length : Int)) = false := decide_eq_false c2
        clear c2
        obtain rfl := Option.some.inj H
        go_wp2
        go_ret
        exact ⟨by first | rfl | (simp [errW_none, errW_some] <;> rfl) | (simp [*, errW_none, errW_some] <;> rfl), by repeat (first | (with_reducible first | exact HB.out | apply below_alloc | apply pw_below_drewN | apply below_drew1) | exact HB.out)⟩

/-! ### miradorlaw03_works: function 7 -/
def miradorlaw03_works.f (k : Nat)  : Option (Bool) := (adler_Sum.f k ([] : List ByteArray)).bind fun t105 => (if t105 = 1 then ((adler_Sum.f k (([(⟨#[87, 105, 107, 105]⟩ : ByteArray), (⟨#[112, 101, 100, 105, 97]⟩ : ByteArray)] : List ByteArray))).bind fun t109 => (some (t109 == 300286872))) else (some false))
theorem miradorlaw03_works.mono : ∀ k, LeO (miradorlaw03_works.f k ) (miradorlaw03_works.f (k + 1) ) := by
  intro  k
  unfold miradorlaw03_works.f
  repeat' first
      | (with_reducible exact adler_Sum.mono _ _)
      | (with_reducible exact LeO.refl _)
      | (with_reducible exact LeO.none _)
      | (with_reducible refine LeO.ite ?_ ?_)
      | (with_reducible refine LeO.bind ?_ (fun _ => ?_))
      | exact adler_Sum.mono _ _
      | exact LeO.none _
      | refine LeO.ite ?_ ?_
      | refine LeO.bind ?_ (fun _ => ?_)
set_option maxHeartbeats 8000000 in
set_option maxRecDepth 100000 in
theorem miradorlaw03_works.calls (k : Nat)  (r : Bool) (w : World) (h : miradorlaw03_works.f k  = some r) :
    Calls Try.prog 7 #[] w fun e w' => e = .returned (.bool r) ∧ Below w.heap.size w w' := by
  have HB := Aside0.mk (Below.refl w.heap.size w)
  have H : ((adler_Sum.f k ([] : List ByteArray)).bind fun t105 => (if t105 = 1 then ((adler_Sum.f k (([(⟨#[87, 105, 107, 105]⟩ : ByteArray), (⟨#[112, 101, 100, 105, 97]⟩ : ByteArray)] : List ByteArray))).bind fun t109 => (some (t109 == 300286872))) else (some false))) = some r := h
  clear h
  replace H := Option.bind_eq_some_iff.mp H
  obtain ⟨t105, A10, H⟩ := H
  replace H : (if t105 = 1 then ((adler_Sum.f k (([(⟨#[87, 105, 107, 105]⟩ : ByteArray), (⟨#[112, 101, 100, 105, 97]⟩ : ByteArray)] : List ByteArray))).bind fun t109 => (some (t109 == 300286872))) else (some false)) = some r := H
  have A1 := Aside0.mk A10
  clear A10
  by_cases c2 : t105 = 1
  · rw [if_pos c2] at H
    have c2b0 : (t105 == 1) = true := beq_iff_eq.mpr c2
    have c2b1 : (t105 != 1) = false := bne_eq_false_iff_eq.mpr c2
    clear c2
    obtain ⟨y106, hy106⟩ : ∃ y_ : List ByteArray, y_ = (([(⟨#[87, 105, 107, 105]⟩ : ByteArray), (⟨#[112, 101, 100, 105, 97]⟩ : ByteArray)] : List ByteArray)) := ⟨_, rfl⟩
    replace H : ((adler_Sum.f k y106).bind fun t109 => (some (t109 == 300286872))) = some r := by first | (rw [hy106]; with_reducible exact H) | (have H2_ := (Option.bind_some _ _).symm.trans H; rw [hy106]; with_reducible exact H2_) | (have H2_ := (Option.bind_some _ _).symm.trans H; with_reducible exact H2_) | with_reducible exact H | (rw [hy106]; exact H) | exact H
    have Ny106 := Aside0.mk hy106
    clear hy106
    replace H := Option.bind_eq_some_iff.mp H
    obtain ⟨t109, A30, H⟩ := H
    replace H : (some (t109 == 300286872)) = some r := H
    have A3 := Aside0.mk A30
    clear A30
    obtain rfl := Option.some.inj H
    go_enter Try.func7, Try.ntmps7
    go_wp2_with (first | ((with_reducible refine gate_callee (f := 8) rfl ?_); refine goesL_ (some 1) rfl rfl Try.func8 (by kernel_rfl) rfl #[.slice none 0 0] rfl (by (try simp only [List.map_toArray, List.map_cons, List.map_nil]); first | done | rfl | (simp only [List.length_drop, List.length_take]; rfl)) ?_; (refine (adler_Sum.calls k _ _ ([] : List ByteArray) t105 _ ?side1 ?side2 A1.out).mono ?_); (case side1 => exact Kd.C_nil _ _); (case side2 => exact Nat.le_refl _); rintro e w4 ⟨rfl, hb⟩; refine ⟨_, rfl, ?_⟩; have n0_ := Aside0.mk (below_step (by repeat (first | (with_reducible first | exact HB.out | apply below_alloc | apply pw_below_drewN | apply below_drew1) | exact HB.out)) hb); clear HB; have HB := n0_; clear n0_; (try clear hb); (try clear hb2); (try clear hk); (try clear hi)) | ((with_reducible refine gate_dst (N := 4) rfl ?_); (try (refine gate_guard (by rfl) ?_; dsimp only)); refine Kd.R_lit Kd.string _ 9 ?hg (N := 4) ?hd (xs := ([(⟨#[87, 105, 107, 105]⟩ : ByteArray), (⟨#[112, 101, 100, 105, 97]⟩ : ByteArray)] : List ByteArray)) (inner := [.string (⟨#[87, 105, 107, 105]⟩ : ByteArray), .string (⟨#[112, 101, 100, 105, 97]⟩ : ByteArray)]) (ok := fun _ => True) (okp := fun _ => True) ?hr ?hp (fun _ hk => hk) trivial (Below.refl _ _) (Nat.le_refl _) (by simp) ?_; (case hd => rfl); (case hg => rfl); (case hr => first | (go_simp; done) | (go_simp; rfl)); (case hp => exact (Reps.one (show Kd.M Kd.string _ _ _ (⟨#[87, 105, 107, 105]⟩ : ByteArray) [.string (⟨#[87, 105, 107, 105]⟩ : ByteArray)] from rfl) (Reps.one (show Kd.M Kd.string _ _ _ (⟨#[112, 101, 100, 105, 97]⟩ : ByteArray) [.string (⟨#[112, 101, 100, 105, 97]⟩ : ByteArray)] from rfl) (Reps.none _ _)))); intro v107 w5 ho6 hb hg_ hnew_; clear hg_ hnew_; (first | rw [← Ny106.out] at ho6 | (simp only [Int.reduceToNat] at ho6; rw [← Ny106.out] at ho6)); have n0_ := Aside0.mk (Kd.R_lower ho6 (below_size (by repeat (first | (with_reducible first | exact HB.out | apply below_alloc | apply pw_below_drewN | apply below_drew1) | exact HB.out)))); have n1_ := Aside0.mk (below_step (by repeat (first | (with_reducible first | exact HB.out | apply below_alloc | apply pw_below_drewN | apply below_drew1) | exact HB.out)) hb); clear HB; have HO108 := n0_; have HB := n1_; clear n0_ n1_; clear hb ho6; obtain ⟨Ao7, co7, eo7⟩ := Kd.R_slice HO108.out; subst eo7) | (go_at_call 8; (with_reducible refine (adler_Sum.calls k _ _ y106 t109 _ ?side1 ?side2 A3.out).mono ?_); (case side1 => repeat (first | exact (Kd.R_reads' HO108.out).2.2 | (with_reducible refine Kd.C_alloc ?_ _) | (with_reducible refine Kd.C_drewN ?_ _) | (with_reducible refine Kd.C_drew ?_))); (case side2 => exact (Kd.R_reads' HO108.out).2.1); rintro e w8 ⟨rfl, hb⟩; have n0_ := Aside0.mk (Kd.R_below (by (with_reducible repeat (first | apply Kd.R_alloc | apply Kd.R_drewN | apply Kd.R_drew)); exact HO108.out) hb); have n1_ := Aside0.mk (below_step (by repeat (first | (with_reducible first | exact HB.out | apply below_alloc | apply pw_below_drewN | apply below_drew1) | exact HB.out)) hb); clear HO108; clear HB; have HO108 := n0_; have HB := n1_; clear n0_ n1_; (try clear hb); (try clear hb2); (try clear hk); (try clear hi)))
    go_ret
    exact ⟨by first | rfl | (simp [errW_none, errW_some] <;> rfl) | (simp [*, errW_none, errW_some] <;> rfl), by repeat (first | (with_reducible first | exact HB.out | apply below_alloc | apply pw_below_drewN | apply below_drew1) | exact HB.out)⟩
  · rw [if_neg c2] at H
    have c2b0 : (t105 == 1) = false := beq_eq_false_iff_ne.mpr c2
    have c2b1 : (t105 != 1) = true := bne_iff_ne.mpr c2
    obtain rfl := Option.some.inj H
    go_enter Try.func7, Try.ntmps7
    go_wp2_with (first | ((with_reducible refine gate_callee (f := 8) rfl ?_); refine goesL_ (some 1) rfl rfl Try.func8 (by kernel_rfl) rfl #[.slice none 0 0] rfl (by (try simp only [List.map_toArray, List.map_cons, List.map_nil]); first | done | rfl | (simp only [List.length_drop, List.length_take]; rfl)) ?_; (refine (adler_Sum.calls k _ _ ([] : List ByteArray) t105 _ ?side1 ?side2 A1.out).mono ?_); (case side1 => exact Kd.C_nil _ _); (case side2 => exact Nat.le_refl _); rintro e w9 ⟨rfl, hb⟩; refine ⟨_, rfl, ?_⟩; have n0_ := Aside0.mk (below_step (by repeat (first | (with_reducible first | exact HB.out | apply below_alloc | apply pw_below_drewN | apply below_drew1) | exact HB.out)) hb); clear HB; have HB := n0_; clear n0_; (try clear hb); (try clear hb2); (try clear hk); (try clear hi)))
    go_ret
    exact ⟨by first | rfl | (simp [errW_none, errW_some] <;> rfl) | (simp [*, errW_none, errW_some] <;> rfl), by repeat (first | (with_reducible first | exact HB.out | apply below_alloc | apply pw_below_drewN | apply below_drew1) | exact HB.out)⟩

/-! ### miradorref03_Low: function 14 -/
def miradorref03_Low.f (a0 : Int) : Option (Int) := some (Go.bits .and .i64 a0 65535)
set_option maxHeartbeats 8000000 in
set_option maxRecDepth 100000 in
theorem miradorref03_Low.calls (a0 : Int) (r : Int) (w : World) (h : miradorref03_Low.f a0 = some r) :
    Calls Try.prog 14 #[.int .i64 a0] w fun e w' => e = .returned (.int .i64 r) ∧ Drawn0 w w' := by
  have H : (some (Go.bits .and .i64 a0 65535)) = some r := h
  clear h
  obtain rfl := Option.some.inj H
  go_enter Try.func14, Try.ntmps14
  go_wp2
  go_ret
  exact ⟨by first | rfl | (simp; done) | (simp [*]; done), by repeat (first | exact Drawn0.refl _ | apply Drawn0.step)⟩

/-! ### miradorref03_High: function 15 -/
def miradorref03_High.f (a0 : Int) : Option (Int) := some (Go.bits .and .i64 (a0 / 65536) 65535)
set_option maxHeartbeats 8000000 in
set_option maxRecDepth 100000 in
theorem miradorref03_High.calls (a0 : Int) (r : Int) (w : World) (h : miradorref03_High.f a0 = some r) :
    Calls Try.prog 15 #[.int .i64 a0] w fun e w' => e = .returned (.int .i64 r) ∧ Drawn0 w w' := by
  have H : (some (Go.bits .and .i64 (a0 / 65536) 65535)) = some r := h
  clear h
  obtain rfl := Option.some.inj H
  go_enter Try.func15, Try.ntmps15
  go_wp2
  go_ret
  exact ⟨by first | rfl | (simp; done) | (simp [*]; done), by repeat (first | exact Drawn0.refl _ | apply Drawn0.step)⟩

/-! ### miradorref03_More: function 10 -/
def miradorref03_More.l0 : Nat → ByteArray → Int → Int → Int → Option (Int)
  | 0, _, _, _, _ => none
  | k + 1, x1, x5, x6, x7 => if x7 < (x1.size : Int) then (if 0 ≤ x7 then (miradorref03_More.l0 k x1 (Int.tmod (wrap64 (x5 + (wrap64 (bt x1 x7)))) 65521) (Int.tmod (wrap64 (x6 + (Int.tmod (wrap64 (x5 + (wrap64 (bt x1 x7)))) 65521))) 65521) (wrap64 (x7 + 1))) else (none)) else (some (wrap64 ((wrap64 (x6 * 65536)) + x5)))
def miradorref03_More.f (k : Nat) (a0 : Int) (a1 : ByteArray) : Option (Int) := (miradorref03_Low.f a0).bind fun t110 => ((miradorref03_High.f a0).bind fun t111 => (miradorref03_More.l0 k a1 t110 t111 0))
theorem miradorref03_More.mono_l : ∀ k, (∀ y0 y1 y2 y3, LeO (miradorref03_More.l0 k y0 y1 y2 y3) (miradorref03_More.l0 (k + 1) y0 y1 y2 y3))
  | 0 => fun _ _ _ _ r h => by simp [miradorref03_More.l0] at h
  | k + 1 => by
    have ih0 := miradorref03_More.mono_l k
    · intro y0 y1 y2 y3
      unfold miradorref03_More.l0
      repeat' first
      | (with_reducible exact ih0 _ _ _ _)
      | (with_reducible exact LeO.refl _)
      | (with_reducible exact LeO.none _)
      | (with_reducible refine LeO.ite ?_ ?_)
      | (with_reducible refine LeO.bind ?_ (fun _ => ?_))
      | exact ih0 _ _ _ _
      | exact LeO.none _
      | refine LeO.ite ?_ ?_
      | refine LeO.bind ?_ (fun _ => ?_)
theorem miradorref03_More.mono : ∀ a0 a1 k, LeO (miradorref03_More.f k a0 a1) (miradorref03_More.f (k + 1) a0 a1) := by
  intro a0 a1 k
  have ih0 := miradorref03_More.mono_l k
  unfold miradorref03_More.f
  repeat' first
      | (with_reducible exact ih0 _ _ _ _)
      | (with_reducible exact LeO.refl _)
      | (with_reducible exact LeO.none _)
      | (with_reducible refine LeO.ite ?_ ?_)
      | (with_reducible refine LeO.bind ?_ (fun _ => ?_))
      | exact ih0 _ _ _ _
      | exact LeO.none _
      | refine LeO.ite ?_ ?_
      | refine LeO.bind ?_ (fun _ => ?_)
set_option maxHeartbeats 8000000 in
set_option maxRecDepth 100000 in
theorem miradorref03_More.calls (k : Nat) (a0 : Int) (a1 : ByteArray) (r : Int) (w : World) (h : miradorref03_More.f k a0 a1 = some r) :
    Calls Try.prog 10 #[.int .i64 a0, .string a1] w fun e w' => e = .returned (.int .i64 r) ∧ Drawn0 w w' := by
  have H : ((miradorref03_Low.f a0).bind fun t110 => ((miradorref03_High.f a0).bind fun t111 => (miradorref03_More.l0 k a1 t110 t111 0))) = some r := h
  clear h
  replace H := Option.bind_eq_some_iff.mp H
  obtain ⟨t110, A30, H⟩ := H
  replace H : ((miradorref03_High.f a0).bind fun t111 => (miradorref03_More.l0 k a1 t110 t111 0)) = some r := H
  have A3 := Aside0.mk A30
  clear A30
  replace H := Option.bind_eq_some_iff.mp H
  obtain ⟨t111, A40, H⟩ := H
  replace H : (miradorref03_More.l0 k a1 t110 t111 0) = some r := H
  have A4 := Aside0.mk A40
  clear A40
  have H' := Aside0.mk H
  clear H
  go_enter Try.func10, Try.ntmps10
  go_wp2_with (first | ((with_reducible refine gate_callee (f := 14) rfl ?_); refine goesL_ (some 9) rfl rfl Try.func14 (by kernel_rfl) rfl #[.int .i64 a0] rfl (by (try simp only [List.map_toArray, List.map_cons, List.map_nil]); first | done | rfl | (simp only [List.length_drop, List.length_take]; rfl)) ?_; (with_reducible refine (miradorref03_Low.calls a0 t110 _ A3.out).mono ?_); rintro e w' ⟨rfl, ⟨nd, rfl⟩⟩; refine ⟨_, rfl, ?_⟩) | ((with_reducible refine gate_callee (f := 15) rfl ?_); refine goesL_ (some 11) rfl rfl Try.func15 (by kernel_rfl) rfl #[.int .i64 a0] rfl (by (try simp only [List.map_toArray, List.map_cons, List.map_nil]); first | done | rfl | (simp only [List.length_drop, List.length_take]; rfl)) ?_; (with_reducible refine (miradorref03_High.calls a0 t111 _ A4.out).mono ?_); rintro e w' ⟨rfl, ⟨nd, rfl⟩⟩; refine ⟨_, rfl, ?_⟩))
  go_loopg [5, 6, 7] k (fun kq v5 v6 v7 w' => ∃ (x5_1 : Int) (x6_1 : Int) (x7_1 : Int), v5 = .int .i64 x5_1 ∧ v6 = .int .i64 x6_1 ∧ v7 = .int .i64 x7_1 ∧ Aside0 (miradorref03_More.l0 kq a1 x5_1 x6_1 x7_1 = some r) ∧ Aside0 (kq ≤ k) ∧ Drawn0 w w')
  case atStart => exact ⟨(t110), (t111), (0), (by first | rfl | (simp; done) | (simp [*]; done)), (by first | rfl | (simp; done) | (simp [*]; done)), (by first | rfl | (simp; done) | (simp [*]; done)), H', ⟨Nat.le_refl _⟩, by repeat (first | exact Drawn0.refl _ | apply Drawn0.step)⟩
  case round =>
    clear H'
    try clear c1
    try clear p2
    obtain ⟨x5_1, x6_1, x7_1, rfl, rfl, rfl, HA, HK1, ⟨m1, rfl⟩⟩ := hrel
    cases gk with
    | zero => exact absurd HA.out (by simp [miradorref03_More.l0])
    | succ k1 =>
      have H := HA.out
      clear HA
      simp only [miradorref03_More.l0] at H
      by_cases c5 : x7_1 < (a1.size : Int)
      · rw [if_pos c5] at H
        have c5b0 : decide (x7_1 < (a1.size : Int)) = true := decide_eq_true c5
        clear c5
        by_cases c6 : 0 ≤ x7_1
        · rw [if_pos c6] at H
          have c6b0 : decide (0 ≤ x7_1) = true := decide_eq_true c6
          clear c6
          have H' := Aside0.mk H
          clear H
          have p7 : 0 ≤ (x7_1 : Int) := of_decide_eq_true (by first | (with_reducible assumption) | assumption)
          have q7 : x7_1 < (a1.size : Int) := of_decide_eq_true (by first | (with_reducible assumption) | assumption)
          have hx7 := bt_at a1 x7_1
          replace p7 := eq_true p7
          replace q7 := eq_true q7
          go_wp2
          go_roundg k1
          case measure => have := HK1.out; omega
          case rel => exact ⟨(Int.tmod (wrap64 (x5_1 + (wrap64 (bt a1 x7_1)))) 65521), (Int.tmod (wrap64 (x6_1 + (Int.tmod (wrap64 (x5_1 + (wrap64 (bt a1 x7_1)))) 65521))) 65521), (wrap64 (x7_1 + 1)), (by first | rfl | (simp; done) | (simp [*]; done)), (by first | rfl | (simp; done) | (simp [*]; done)), (by first | rfl | (simp; done) | (simp [*]; done)), H', ⟨by have := HK1.out; omega⟩, by repeat (first | exact Drawn0.refl _ | apply Drawn0.step)⟩
        · rw [if_neg c6] at H
          exact absurd H (by simp)
      · rw [if_neg c5] at H
        have c5b0 : decide (x7_1 < (a1.size : Int)) = false := decide_eq_false c5
        clear c5
        obtain rfl := Option.some.inj H
        go_wp2
        go_ret
        exact ⟨by first | rfl | (simp; done) | (simp [*]; done), by repeat (first | exact Drawn0.refl _ | apply Drawn0.step)⟩

/-! ### adler_Join: function 11 -/
def adler_Join.f (a0 : Int) (a1 : Int) (a2 : Int) : Option (Int) := (adler_parts.f a0).bind fun bt112 => ((adler_parts.f a1).bind fun bt114 => (some (Go.bits .or .i64 (wrap64 ((Int.tmod (wrap64 ((wrap64 (bt112.2 + bt114.2)) + (wrap64 (((mx a2 0) % 65521) * (wrap64 ((wrap64 (bt112.1 + 65521)) - 1)))))) 65521) * 65536)) (Int.tmod (wrap64 ((wrap64 ((wrap64 (bt112.1 + 65521)) - 1)) + bt114.1)) 65521))))
set_option maxHeartbeats 8000000 in
set_option maxRecDepth 100000 in
theorem adler_Join.calls (a0 : Int) (a1 : Int) (a2 : Int) (r : Int) (w : World) (h : adler_Join.f a0 a1 a2 = some r) :
    Calls Try.prog 11 #[.int .i64 a0, .int .i64 a1, .int .i64 a2] w fun e w' => e = .returned (.int .i64 r) ∧ Below w.heap.size w w' := by
  have HB := Aside0.mk (Below.refl w.heap.size w)
  have H : ((adler_parts.f a0).bind fun bt112 => ((adler_parts.f a1).bind fun bt114 => (some (Go.bits .or .i64 (wrap64 ((Int.tmod (wrap64 ((wrap64 (bt112.2 + bt114.2)) + (wrap64 (((mx a2 0) % 65521) * (wrap64 ((wrap64 (bt112.1 + 65521)) - 1)))))) 65521) * 65536)) (Int.tmod (wrap64 ((wrap64 ((wrap64 (bt112.1 + 65521)) - 1)) + bt114.1)) 65521))))) = some r := h
  clear h
  replace H := Option.bind_eq_some_iff.mp H
  obtain ⟨⟨t112, t113⟩, A40, H⟩ := H
  replace H : ((adler_parts.f a1).bind fun bt114 => (some (Go.bits .or .i64 (wrap64 ((Int.tmod (wrap64 ((wrap64 (t113 + bt114.2)) + (wrap64 (((mx a2 0) % 65521) * (wrap64 ((wrap64 (t112 + 65521)) - 1)))))) 65521) * 65536)) (Int.tmod (wrap64 ((wrap64 ((wrap64 (t112 + 65521)) - 1)) + bt114.1)) 65521)))) = some r := H
  have A4 := Aside0.mk A40
  clear A40
  replace H := Option.bind_eq_some_iff.mp H
  obtain ⟨⟨t114, t115⟩, A50, H⟩ := H
  replace H : (some (Go.bits .or .i64 (wrap64 ((Int.tmod (wrap64 ((wrap64 (t113 + t115)) + (wrap64 (((mx a2 0) % 65521) * (wrap64 ((wrap64 (t112 + 65521)) - 1)))))) 65521) * 65536)) (Int.tmod (wrap64 ((wrap64 ((wrap64 (t112 + 65521)) - 1)) + t114)) 65521))) = some r := H
  have A5 := Aside0.mk A50
  clear A50
  obtain ⟨ji6, hji6⟩ : ∃ j_ : Int, (mx a2 0) = j_ := ⟨_, rfl⟩
  replace H : (some (Go.bits .or .i64 (wrap64 ((Int.tmod (wrap64 ((wrap64 (t113 + t115)) + (wrap64 (((ji6) % 65521) * (wrap64 ((wrap64 (t112 + 65521)) - 1)))))) 65521) * 65536)) (Int.tmod (wrap64 ((wrap64 ((wrap64 (t112 + 65521)) - 1)) + t114)) 65521))) = some r := by first | (rw [hji6] at H; exact H) | (simp only [hji6] at H ⊢; exact H)
  (try rw [hji6] at A4)
  (try rw [hji6] at A5)
  (try (have hji6l : 0 ≤ ji6 := by (rw [← hji6]; unfold mx; (repeat' split) <;> omega)))
  (try (have hji6m : 0 ≤ ji6 := by omega))
  have hji6_ : (if a2 < 0 then 0 else a2) = ji6 := hji6
  obtain rfl := Option.some.inj H
  go_enter Try.func11, Try.ntmps11
  go_wp2_with (first | ((with_reducible refine gate_callee (f := 13) rfl ?_); refine goesL_ (some 15) rfl rfl Try.func13 (by kernel_rfl) rfl #[.int .i64 a0] rfl (by (try simp only [List.map_toArray, List.map_cons, List.map_nil]); first | done | rfl | (simp only [List.length_drop, List.length_take]; rfl)) ?_; (with_reducible refine (adler_parts.calls a0 t112 t113 _ A4.out).mono ?_); rintro e w' ⟨rfl, ⟨nd, rfl⟩⟩; refine ⟨_, rfl, ?_⟩) | ((with_reducible refine gate_callee (f := 13) rfl ?_); refine goesL_ (some 20) rfl rfl Try.func13 (by kernel_rfl) rfl #[.int .i64 a1] rfl (by (try simp only [List.map_toArray, List.map_cons, List.map_nil]); first | done | rfl | (simp only [List.length_drop, List.length_take]; rfl)) ?_; (with_reducible refine (adler_parts.calls a1 t114 t115 _ A5.out).mono ?_); rintro e w' ⟨rfl, ⟨nd, rfl⟩⟩; refine ⟨_, rfl, ?_⟩))
  go_ret
  exact ⟨by first | rfl | (simp [errW_none, errW_some] <;> rfl) | (simp only [← hji6]; first | rfl | (simp [errW_none, errW_some] <;> rfl)) | (simp [*, errW_none, errW_some] <;> rfl), by repeat (first | (with_reducible first | exact HB.out | apply below_alloc | apply pw_below_drewN | apply below_drew1) | exact HB.out)⟩

/-! ### miradorref03_Join: function 12 -/
def miradorref03_Join.f (a0 : Int) (a1 : Int) (a2 : Int) : Option (Int) := (miradorref03_Low.f a0).bind fun t116 => ((miradorref03_Low.f a1).bind fun t117 => ((miradorref03_High.f a0).bind fun t118 => ((miradorref03_High.f a1).bind fun t119 => ((miradorref03_Low.f a0).bind fun t120 => (some (wrap64 ((wrap64 ((Int.tmod (wrap64 ((wrap64 (t118 + t119)) + (wrap64 (((mx a2 0) % 65521) * (wrap64 ((wrap64 (t120 + 65521)) - 1)))))) 65521) * 65536)) + (Int.tmod (wrap64 ((wrap64 ((wrap64 (t116 + t117)) + 65521)) - 1)) 65521))))))))
set_option maxHeartbeats 8000000 in
set_option maxRecDepth 100000 in
theorem miradorref03_Join.calls (a0 : Int) (a1 : Int) (a2 : Int) (r : Int) (w : World) (h : miradorref03_Join.f a0 a1 a2 = some r) :
    Calls Try.prog 12 #[.int .i64 a0, .int .i64 a1, .int .i64 a2] w fun e w' => e = .returned (.int .i64 r) ∧ Below w.heap.size w w' := by
  have HB := Aside0.mk (Below.refl w.heap.size w)
  have H : ((miradorref03_Low.f a0).bind fun t116 => ((miradorref03_Low.f a1).bind fun t117 => ((miradorref03_High.f a0).bind fun t118 => ((miradorref03_High.f a1).bind fun t119 => ((miradorref03_Low.f a0).bind fun t120 => (some (wrap64 ((wrap64 ((Int.tmod (wrap64 ((wrap64 (t118 + t119)) + (wrap64 (((mx a2 0) % 65521) * (wrap64 ((wrap64 (t120 + 65521)) - 1)))))) 65521) * 65536)) + (Int.tmod (wrap64 ((wrap64 ((wrap64 (t116 + t117)) + 65521)) - 1)) 65521))))))))) = some r := h
  clear h
  obtain ⟨ji4, hji4⟩ : ∃ j_ : Int, (mx a2 0) = j_ := ⟨_, rfl⟩
  replace H : ((miradorref03_Low.f a0).bind fun t116 => ((miradorref03_Low.f a1).bind fun t117 => ((miradorref03_High.f a0).bind fun t118 => ((miradorref03_High.f a1).bind fun t119 => ((miradorref03_Low.f a0).bind fun t120 => (some (wrap64 ((wrap64 ((Int.tmod (wrap64 ((wrap64 (t118 + t119)) + (wrap64 (((ji4) % 65521) * (wrap64 ((wrap64 (t120 + 65521)) - 1)))))) 65521) * 65536)) + (Int.tmod (wrap64 ((wrap64 ((wrap64 (t116 + t117)) + 65521)) - 1)) 65521))))))))) = some r := by first | (rw [hji4] at H; exact H) | (simp only [hji4] at H ⊢; exact H)
  (try (have hji4l : 0 ≤ ji4 := by (rw [← hji4]; unfold mx; (repeat' split) <;> omega)))
  (try (have hji4m : 0 ≤ ji4 := by omega))
  have hji4_ : (if a2 < 0 then 0 else a2) = ji4 := hji4
  replace H := Option.bind_eq_some_iff.mp H
  obtain ⟨t116, A50, H⟩ := H
  replace H : ((miradorref03_Low.f a1).bind fun t117 => ((miradorref03_High.f a0).bind fun t118 => ((miradorref03_High.f a1).bind fun t119 => ((miradorref03_Low.f a0).bind fun t120 => (some (wrap64 ((wrap64 ((Int.tmod (wrap64 ((wrap64 (t118 + t119)) + (wrap64 (((ji4) % 65521) * (wrap64 ((wrap64 (t120 + 65521)) - 1)))))) 65521) * 65536)) + (Int.tmod (wrap64 ((wrap64 ((wrap64 (t116 + t117)) + 65521)) - 1)) 65521)))))))) = some r := H
  have A5 := Aside0.mk A50
  clear A50
  replace H := Option.bind_eq_some_iff.mp H
  obtain ⟨t117, A60, H⟩ := H
  replace H : ((miradorref03_High.f a0).bind fun t118 => ((miradorref03_High.f a1).bind fun t119 => ((miradorref03_Low.f a0).bind fun t120 => (some (wrap64 ((wrap64 ((Int.tmod (wrap64 ((wrap64 (t118 + t119)) + (wrap64 (((ji4) % 65521) * (wrap64 ((wrap64 (t120 + 65521)) - 1)))))) 65521) * 65536)) + (Int.tmod (wrap64 ((wrap64 ((wrap64 (t116 + t117)) + 65521)) - 1)) 65521))))))) = some r := H
  have A6 := Aside0.mk A60
  clear A60
  replace H := Option.bind_eq_some_iff.mp H
  obtain ⟨t118, A70, H⟩ := H
  replace H : ((miradorref03_High.f a1).bind fun t119 => ((miradorref03_Low.f a0).bind fun t120 => (some (wrap64 ((wrap64 ((Int.tmod (wrap64 ((wrap64 (t118 + t119)) + (wrap64 (((ji4) % 65521) * (wrap64 ((wrap64 (t120 + 65521)) - 1)))))) 65521) * 65536)) + (Int.tmod (wrap64 ((wrap64 ((wrap64 (t116 + t117)) + 65521)) - 1)) 65521)))))) = some r := H
  have A7 := Aside0.mk A70
  clear A70
  replace H := Option.bind_eq_some_iff.mp H
  obtain ⟨t119, A80, H⟩ := H
  replace H : ((miradorref03_Low.f a0).bind fun t120 => (some (wrap64 ((wrap64 ((Int.tmod (wrap64 ((wrap64 (t118 + t119)) + (wrap64 (((ji4) % 65521) * (wrap64 ((wrap64 (t120 + 65521)) - 1)))))) 65521) * 65536)) + (Int.tmod (wrap64 ((wrap64 ((wrap64 (t116 + t117)) + 65521)) - 1)) 65521))))) = some r := H
  have A8 := Aside0.mk A80
  clear A80
  replace H := Option.bind_eq_some_iff.mp H
  obtain ⟨t120, A90, H⟩ := H
  replace H : (some (wrap64 ((wrap64 ((Int.tmod (wrap64 ((wrap64 (t118 + t119)) + (wrap64 (((ji4) % 65521) * (wrap64 ((wrap64 (t120 + 65521)) - 1)))))) 65521) * 65536)) + (Int.tmod (wrap64 ((wrap64 ((wrap64 (t116 + t117)) + 65521)) - 1)) 65521)))) = some r := H
  have A9 := Aside0.mk A90
  clear A90
  obtain rfl := Option.some.inj H
  go_enter Try.func12, Try.ntmps12
  go_wp2_with (first | ((with_reducible refine gate_callee (f := 14) rfl ?_); refine goesL_ (some 14) rfl rfl Try.func14 (by kernel_rfl) rfl #[.int .i64 a0] rfl (by (try simp only [List.map_toArray, List.map_cons, List.map_nil]); first | done | rfl | (simp only [List.length_drop, List.length_take]; rfl)) ?_; (with_reducible refine (miradorref03_Low.calls a0 t116 _ A5.out).mono ?_); rintro e w' ⟨rfl, ⟨nd, rfl⟩⟩; refine ⟨_, rfl, ?_⟩) | ((with_reducible refine gate_callee (f := 14) rfl ?_); refine goesL_ (some 16) rfl rfl Try.func14 (by kernel_rfl) rfl #[.int .i64 a1] rfl (by (try simp only [List.map_toArray, List.map_cons, List.map_nil]); first | done | rfl | (simp only [List.length_drop, List.length_take]; rfl)) ?_; (with_reducible refine (miradorref03_Low.calls a1 t117 _ A6.out).mono ?_); rintro e w' ⟨rfl, ⟨nd, rfl⟩⟩; refine ⟨_, rfl, ?_⟩) | ((with_reducible refine gate_callee (f := 15) rfl ?_); refine goesL_ (some 22) rfl rfl Try.func15 (by kernel_rfl) rfl #[.int .i64 a0] rfl (by (try simp only [List.map_toArray, List.map_cons, List.map_nil]); first | done | rfl | (simp only [List.length_drop, List.length_take]; rfl)) ?_; (with_reducible refine (miradorref03_High.calls a0 t118 _ A7.out).mono ?_); rintro e w' ⟨rfl, ⟨nd, rfl⟩⟩; refine ⟨_, rfl, ?_⟩) | ((with_reducible refine gate_callee (f := 15) rfl ?_); refine goesL_ (some 24) rfl rfl Try.func15 (by kernel_rfl) rfl #[.int .i64 a1] rfl (by (try simp only [List.map_toArray, List.map_cons, List.map_nil]); first | done | rfl | (simp only [List.length_drop, List.length_take]; rfl)) ?_; (with_reducible refine (miradorref03_High.calls a1 t119 _ A8.out).mono ?_); rintro e w' ⟨rfl, ⟨nd, rfl⟩⟩; refine ⟨_, rfl, ?_⟩) | ((with_reducible refine gate_callee (f := 14) rfl ?_); refine goesL_ (some 28) rfl rfl Try.func14 (by kernel_rfl) rfl #[.int .i64 a0] rfl (by (try simp only [List.map_toArray, List.map_cons, List.map_nil]); first | done | rfl | (simp only [List.length_drop, List.length_take]; rfl)) ?_; (with_reducible refine (miradorref03_Low.calls a0 t120 _ A9.out).mono ?_); rintro e w' ⟨rfl, ⟨nd, rfl⟩⟩; refine ⟨_, rfl, ?_⟩))
  go_ret
  exact ⟨by first | rfl | (simp [errW_none, errW_some] <;> rfl) | (simp only [← hji4]; first | rfl | (simp [errW_none, errW_some] <;> rfl)) | (simp [*, errW_none, errW_some] <;> rfl), by repeat (first | (with_reducible first | exact HB.out | apply below_alloc | apply pw_below_drewN | apply below_drew1) | exact HB.out)⟩

/-! ### miradorlaw03_AdlerSums: function 5 -/
def miradorlaw03_AdlerSums.f (k : Nat) (a0 : Int) (a1 : ByteArray) (a2 : Int) (a3 : Int) (a4 : Int) : Option (Bool) := (miradorlaw03_works.f k).bind fun t121 => (if t121 = true then (if (a1.size : Int) > 3000 then (some t121) else ((adler_More.f k a0 a1).bind fun t122 => ((miradorref03_More.f k a0 a1).bind fun t123 => (if t122 = t123 then ((adler_Sum.f k (([a1] : List ByteArray))).bind fun t127 => ((miradorref03_More.f k 1 a1).bind fun t128 => (if t127 = t128 then ((adler_Join.f a2 a3 a4).bind fun t129 => ((miradorref03_Join.f a2 a3 a4).bind fun t130 => (some (t129 == t130)))) else (some false)))) else (some false))))) else (some false))
theorem miradorlaw03_AdlerSums.mono : ∀ a0 a1 a2 a3 a4 k, LeO (miradorlaw03_AdlerSums.f k a0 a1 a2 a3 a4) (miradorlaw03_AdlerSums.f (k + 1) a0 a1 a2 a3 a4) := by
  intro a0 a1 a2 a3 a4 k
  unfold miradorlaw03_AdlerSums.f
  repeat' first
      | (with_reducible exact adler_More.mono _ _ _)
      | (with_reducible exact adler_Sum.mono _ _)
      | (with_reducible exact miradorlaw03_works.mono _)
      | (with_reducible exact miradorref03_More.mono _ _ _)
      | (with_reducible exact LeO.refl _)
      | (with_reducible exact LeO.none _)
      | (with_reducible refine LeO.ite ?_ ?_)
      | (with_reducible refine LeO.bind ?_ (fun _ => ?_))
      | exact adler_More.mono _ _ _
      | exact adler_Sum.mono _ _
      | exact miradorlaw03_works.mono _
      | exact miradorref03_More.mono _ _ _
      | exact LeO.none _
      | refine LeO.ite ?_ ?_
      | refine LeO.bind ?_ (fun _ => ?_)
set_option maxHeartbeats 8000000 in
set_option maxRecDepth 100000 in
theorem miradorlaw03_AdlerSums.calls (k : Nat) (a0 : Int) (a1 : ByteArray) (a2 : Int) (a3 : Int) (a4 : Int) (r : Bool) (w : World) (h : miradorlaw03_AdlerSums.f k a0 a1 a2 a3 a4 = some r) :
    Calls Try.prog 5 #[.int .i64 a0, .string a1, .int .i64 a2, .int .i64 a3, .int .i64 a4] w fun e w' => e = .returned (.bool r) ∧ Below w.heap.size w w' := by
  have HB := Aside0.mk (Below.refl w.heap.size w)
  have H : ((miradorlaw03_works.f k).bind fun t121 => (if t121 = true then (if (a1.size : Int) > 3000 then (some t121) else ((adler_More.f k a0 a1).bind fun t122 => ((miradorref03_More.f k a0 a1).bind fun t123 => (if t122 = t123 then ((adler_Sum.f k (([a1] : List ByteArray))).bind fun t127 => ((miradorref03_More.f k 1 a1).bind fun t128 => (if t127 = t128 then ((adler_Join.f a2 a3 a4).bind fun t129 => ((miradorref03_Join.f a2 a3 a4).bind fun t130 => (some (t129 == t130)))) else (some false)))) else (some false))))) else (some false))) = some r := h
  clear h
  replace H := Option.bind_eq_some_iff.mp H
  obtain ⟨t121, A60, H⟩ := H
  replace H : (if t121 = true then (if (a1.size : Int) > 3000 then (some t121) else ((adler_More.f k a0 a1).bind fun t122 => ((miradorref03_More.f k a0 a1).bind fun t123 => (if t122 = t123 then ((adler_Sum.f k (([a1] : List ByteArray))).bind fun t127 => ((miradorref03_More.f k 1 a1).bind fun t128 => (if t127 = t128 then ((adler_Join.f a2 a3 a4).bind fun t129 => ((miradorref03_Join.f a2 a3 a4).bind fun t130 => (some (t129 == t130)))) else (some false)))) else (some false))))) else (some false)) = some r := H
  have A6 := Aside0.mk A60
  clear A60
  by_cases c7 : t121 = true
  · subst c7
    have H1 : (if (a1.size : Int) > 3000 then (some true) else ((adler_More.f k a0 a1).bind fun t122 => ((miradorref03_More.f k a0 a1).bind fun t123 => (if t122 = t123 then ((adler_Sum.f k (([a1] : List ByteArray))).bind fun t127 => ((miradorref03_More.f k 1 a1).bind fun t128 => (if t127 = t128 then ((adler_Join.f a2 a3 a4).bind fun t129 => ((miradorref03_Join.f a2 a3 a4).bind fun t130 => (some (t129 == t130)))) else (some false)))) else (some false))))) = some r := by rw [if_pos rfl] at H; exact H
    clear H
    have H := H1
    clear H1
    by_cases c8 : (a1.size : Int) > 3000
    · rw [if_pos c8] at H
      have c8b0 : decide (3000 < (a1.size : Int)) = true := decide_eq_true c8
      have c8b1 : decide (3000 < a1.size) = true := decide_eq_true (by omega)
      clear c8
      obtain rfl := Option.some.inj H
      go_enter Try.func5, Try.ntmps5
      go_wp2_with (first | ((with_reducible refine gate_callee (f := 7) rfl ?_); refine goesL_ (some 12) rfl rfl Try.func7 (by kernel_rfl) rfl #[] rfl (by (try simp only [List.map_toArray, List.map_cons, List.map_nil]); first | done | rfl | (simp only [List.length_drop, List.length_take]; rfl)) ?_; (with_reducible refine (miradorlaw03_works.calls k  true _ A6.out).mono ?_); rintro e w9 ⟨rfl, hb⟩; refine ⟨_, rfl, ?_⟩; have n0_ := Aside0.mk (below_step (by repeat (first | (with_reducible first | exact HB.out | apply below_alloc | apply pw_below_drewN | apply below_drew1) | exact HB.out)) hb); clear HB; have HB := n0_; clear n0_; (try clear hb); (try clear hb2); (try clear hk); (try clear hi)))
      go_ret
      exact ⟨by first | rfl | (simp [errW_none, errW_some] <;> rfl) | (simp [*, errW_none, errW_some] <;> rfl), by repeat (first | (with_reducible first | exact HB.out | apply below_alloc | apply pw_below_drewN | apply below_drew1) | exact HB.out)⟩
    · rw [if_neg c8] at H
      have c8b0 : decide (3000 < (a1.size : Int)) = false := decide_eq_false c8
      have c8b1 : decide (3000 < a1.size) = false := decide_eq_false (by omega)
      clear c8
      replace H := Option.bind_eq_some_iff.mp H
      obtain ⟨t122, A100, H⟩ := H
      replace H : ((miradorref03_More.f k a0 a1).bind fun t123 => (if t122 = t123 then ((adler_Sum.f k (([a1] : List ByteArray))).bind fun t127 => ((miradorref03_More.f k 1 a1).bind fun t128 => (if t127 = t128 then ((adler_Join.f a2 a3 a4).bind fun t129 => ((miradorref03_Join.f a2 a3 a4).bind fun t130 => (some (t129 == t130)))) else (some false)))) else (some false))) = some r := H
      have A10 := Aside0.mk A100
      clear A100
      replace H := Option.bind_eq_some_iff.mp H
      obtain ⟨t123, A110, H⟩ := H
      replace H : (if t122 = t123 then ((adler_Sum.f k (([a1] : List ByteArray))).bind fun t127 => ((miradorref03_More.f k 1 a1).bind fun t128 => (if t127 = t128 then ((adler_Join.f a2 a3 a4).bind fun t129 => ((miradorref03_Join.f a2 a3 a4).bind fun t130 => (some (t129 == t130)))) else (some false)))) else (some false)) = some r := H
      have A11 := Aside0.mk A110
      clear A110
      by_cases c12 : t122 = t123
      · rw [if_pos c12] at H
        have c12b0 : (t122 == t123) = true := beq_iff_eq.mpr c12
        have c12b1 : (t122 != t123) = false := bne_eq_false_iff_eq.mpr c12
        clear c12
        obtain ⟨y124, hy124⟩ : ∃ y_ : List ByteArray, y_ = (([a1] : List ByteArray)) := ⟨_, rfl⟩
        replace H : ((adler_Sum.f k y124).bind fun t127 => ((miradorref03_More.f k 1 a1).bind fun t128 => (if t127 = t128 then ((adler_Join.f a2 a3 a4).bind fun t129 => ((miradorref03_Join.f a2 a3 a4).bind fun t130 => (some (t129 == t130)))) else (some false)))) = some r := by first | (rw [hy124]; with_reducible exact H) | (have H2_ := (Option.bind_some _ _).symm.trans H; rw [hy124]; with_reducible exact H2_) | (have H2_ := (Option.bind_some _ _).symm.trans H; with_reducible exact H2_) | with_reducible exact H | (rw [hy124]; exact H) | exact H
        have Ny124 := Aside0.mk hy124
        clear hy124
        replace H := Option.bind_eq_some_iff.mp H
        obtain ⟨t127, A130, H⟩ := H
        replace H : ((miradorref03_More.f k 1 a1).bind fun t128 => (if t127 = t128 then ((adler_Join.f a2 a3 a4).bind fun t129 => ((miradorref03_Join.f a2 a3 a4).bind fun t130 => (some (t129 == t130)))) else (some false))) = some r := H
        have A13 := Aside0.mk A130
        clear A130
        replace H := Option.bind_eq_some_iff.mp H
        obtain ⟨t128, A140, H⟩ := H
        replace H : (if t127 = t128 then ((adler_Join.f a2 a3 a4).bind fun t129 => ((miradorref03_Join.f a2 a3 a4).bind fun t130 => (some (t129 == t130)))) else (some false)) = some r := H
        have A14 := Aside0.mk A140
        clear A140
        by_cases c15 : t127 = t128
        · rw [if_pos c15] at H
          have c15b0 : (t127 == t128) = true := beq_iff_eq.mpr c15
          have c15b1 : (t127 != t128) = false := bne_eq_false_iff_eq.mpr c15
          clear c15
          replace H := Option.bind_eq_some_iff.mp H
          obtain ⟨t129, A160, H⟩ := H
          replace H : ((miradorref03_Join.f a2 a3 a4).bind fun t130 => (some (t129 == t130))) = some r := H
          have A16 := Aside0.mk A160
          clear A160
          replace H := Option.bind_eq_some_iff.mp H
          obtain ⟨t130, A170, H⟩ := H
          replace H : (some (t129 == t130)) = some r := H
          have A17 := Aside0.mk A170
          clear A170
          obtain rfl := Option.some.inj H
          go_enter Try.func5, Try.ntmps5
          go_wp2_with (first | ((with_reducible refine gate_callee (f := 7) rfl ?_); refine goesL_ (some 12) rfl rfl Try.func7 (by kernel_rfl) rfl #[] rfl (by (try simp only [List.map_toArray, List.map_cons, List.map_nil]); first | done | rfl | (simp only [List.length_drop, List.length_take]; rfl)) ?_; (with_reducible refine (miradorlaw03_works.calls k  true _ A6.out).mono ?_); rintro e w18 ⟨rfl, hb⟩; refine ⟨_, rfl, ?_⟩; have n0_ := Aside0.mk (below_step (by repeat (first | (with_reducible first | exact HB.out | apply below_alloc | apply pw_below_drewN | apply below_drew1) | exact HB.out)) hb); clear HB; have HB := n0_; clear n0_; (try clear hb); (try clear hb2); (try clear hk); (try clear hi)) | (go_at_call 9; (with_reducible refine (adler_More.calls k a0 a1 t122 _ A10.out).mono ?_); rintro e w19 ⟨rfl, hb⟩; have n0_ := Aside0.mk (below_step (by repeat (first | (with_reducible first | exact HB.out | apply below_alloc | apply pw_below_drewN | apply below_drew1) | exact HB.out)) hb); clear HB; have HB := n0_; clear n0_; (try clear hb); (try clear hb2); (try clear hk); (try clear hi)) | (go_at_call 10; (with_reducible refine (miradorref03_More.calls k a0 a1 t123 _ A11.out).mono ?_); rintro e w' ⟨rfl, ⟨nd, rfl⟩⟩) | ((with_reducible refine gate_dst (N := 31) rfl ?_); (try (refine gate_guard (by rfl) ?_; dsimp only)); refine Kd.R_lit Kd.string _ 9 ?hg (N := 31) ?hd (xs := ([a1] : List ByteArray)) (inner := [.string a1]) (ok := fun _ => True) (okp := fun _ => True) ?hr ?hp (fun _ hk => hk) trivial (Below.refl _ _) (Nat.le_refl _) (by simp) ?_; (case hd => rfl); (case hg => rfl); (case hr => first | (go_simp; done) | (go_simp; rfl)); (case hp => exact (Reps.one (show Kd.M Kd.string _ _ _ a1 [.string a1] from rfl) (Reps.none _ _))); intro v125 w20 ho21 hb hg_ hnew_; clear hg_ hnew_; (first | rw [← Ny124.out] at ho21 | (simp only [Int.reduceToNat] at ho21; rw [← Ny124.out] at ho21)); have n0_ := Aside0.mk (Kd.R_lower ho21 (below_size (by repeat (first | (with_reducible first | exact HB.out | apply below_alloc | apply pw_below_drewN | apply below_drew1) | exact HB.out)))); have n1_ := Aside0.mk (below_step (by repeat (first | (with_reducible first | exact HB.out | apply below_alloc | apply pw_below_drewN | apply below_drew1) | exact HB.out)) hb); clear HB; have HO126 := n0_; have HB := n1_; clear n0_ n1_; clear hb ho21; obtain ⟨Ao22, co22, eo22⟩ := Kd.R_slice HO126.out; subst eo22) | (go_at_call 8; (with_reducible refine (adler_Sum.calls k _ _ y124 t127 _ ?side1 ?side2 A13.out).mono ?_); (case side1 => repeat (first | exact (Kd.R_reads' HO126.out).2.2 | (with_reducible refine Kd.C_alloc ?_ _) | (with_reducible refine Kd.C_drewN ?_ _) | (with_reducible refine Kd.C_drew ?_))); (case side2 => exact (Kd.R_reads' HO126.out).2.1); rintro e w23 ⟨rfl, hb⟩; have n0_ := Aside0.mk (Kd.R_below (by (with_reducible repeat (first | apply Kd.R_alloc | apply Kd.R_drewN | apply Kd.R_drew)); exact HO126.out) hb); have n1_ := Aside0.mk (below_step (by repeat (first | (with_reducible first | exact HB.out | apply below_alloc | apply pw_below_drewN | apply below_drew1) | exact HB.out)) hb); clear HO126; clear HB; have HO126 := n0_; have HB := n1_; clear n0_ n1_; (try clear hb); (try clear hb2); (try clear hk); (try clear hi)) | (go_at_call 10; (with_reducible refine (miradorref03_More.calls k 1 a1 t128 _ A14.out).mono ?_); rintro e w' ⟨rfl, ⟨nd, rfl⟩⟩) | (go_at_call 11; (with_reducible refine (adler_Join.calls a2 a3 a4 t129 _ A16.out).mono ?_); rintro e w24 ⟨rfl, hb⟩; have n0_ := Aside0.mk (Kd.R_below (by (with_reducible repeat (first | apply Kd.R_alloc | apply Kd.R_drewN | apply Kd.R_drew)); exact HO126.out) hb); have n1_ := Aside0.mk (below_step (by repeat (first | (with_reducible first | exact HB.out | apply below_alloc | apply pw_below_drewN | apply below_drew1) | exact HB.out)) hb); clear HO126; clear HB; have HO126 := n0_; have HB := n1_; clear n0_ n1_; (try clear hb); (try clear hb2); (try clear hk); (try clear hi)) | (go_at_call 12; (with_reducible refine (miradorref03_Join.calls a2 a3 a4 t130 _ A17.out).mono ?_); rintro e w25 ⟨rfl, hb⟩; have n0_ := Aside0.mk (Kd.R_below (by (with_reducible repeat (first | apply Kd.R_alloc | apply Kd.R_drewN | apply Kd.R_drew)); exact HO126.out) hb); have n1_ := Aside0.mk (below_step (by repeat (first | (with_reducible first | exact HB.out | apply below_alloc | apply pw_below_drewN | apply below_drew1) | exact HB.out)) hb); clear HO126; clear HB; have HO126 := n0_; have HB := n1_; clear n0_ n1_; (try clear hb); (try clear hb2); (try clear hk); (try clear hi)))
          go_ret
          exact ⟨by first | rfl | (simp [errW_none, errW_some] <;> rfl) | (simp [*, errW_none, errW_some] <;> rfl), by repeat (first | (with_reducible first | exact HB.out | apply below_alloc | apply pw_below_drewN | apply below_drew1) | exact HB.out)⟩
        · rw [if_neg c15] at H
          have c15b0 : (t127 == t128) = false := beq_eq_false_iff_ne.mpr c15
          have c15b1 : (t127 != t128) = true := bne_iff_ne.mpr c15
          obtain rfl := Option.some.inj H
          go_enter Try.func5, Try.ntmps5
          go_wp2_with (first | ((with_reducible refine gate_callee (f := 7) rfl ?_); refine goesL_ (some 12) rfl rfl Try.func7 (by kernel_rfl) rfl #[] rfl (by (try simp only [List.map_toArray, List.map_cons, List.map_nil]); first | done | rfl | (simp only [List.length_drop, List.length_take]; rfl)) ?_; (with_reducible refine (miradorlaw03_works.calls k  true _ A6.out).mono ?_); rintro e w26 ⟨rfl, hb⟩; refine ⟨_, rfl, ?_⟩; have n0_ := Aside0.mk (below_step (by repeat (first | (with_reducible first | exact HB.out | apply below_alloc | apply pw_below_drewN | apply below_drew1) | exact HB.out)) hb); clear HB; have HB := n0_; clear n0_; (try clear hb); (try clear hb2); (try clear hk); (try clear hi)) | (go_at_call 9; (with_reducible refine (adler_More.calls k a0 a1 t122 _ A10.out).mono ?_); rintro e w27 ⟨rfl, hb⟩; have n0_ := Aside0.mk (below_step (by repeat (first | (with_reducible first | exact HB.out | apply below_alloc | apply pw_below_drewN | apply below_drew1) | exact HB.out)) hb); clear HB; have HB := n0_; clear n0_; (try clear hb); (try clear hb2); (try clear hk); (try clear hi)) | (go_at_call 10; (with_reducible refine (miradorref03_More.calls k a0 a1 t123 _ A11.out).mono ?_); rintro e w' ⟨rfl, ⟨nd, rfl⟩⟩) | ((with_reducible refine gate_dst (N := 31) rfl ?_); (try (refine gate_guard (by rfl) ?_; dsimp only)); refine Kd.R_lit Kd.string _ 9 ?hg (N := 31) ?hd (xs := ([a1] : List ByteArray)) (inner := [.string a1]) (ok := fun _ => True) (okp := fun _ => True) ?hr ?hp (fun _ hk => hk) trivial (Below.refl _ _) (Nat.le_refl _) (by simp) ?_; (case hd => rfl); (case hg => rfl); (case hr => first | (go_simp; done) | (go_simp; rfl)); (case hp => exact (Reps.one (show Kd.M Kd.string _ _ _ a1 [.string a1] from rfl) (Reps.none _ _))); intro v125 w28 ho29 hb hg_ hnew_; clear hg_ hnew_; (first | rw [← Ny124.out] at ho29 | (simp only [Int.reduceToNat] at ho29; rw [← Ny124.out] at ho29)); have n0_ := Aside0.mk (Kd.R_lower ho29 (below_size (by repeat (first | (with_reducible first | exact HB.out | apply below_alloc | apply pw_below_drewN | apply below_drew1) | exact HB.out)))); have n1_ := Aside0.mk (below_step (by repeat (first | (with_reducible first | exact HB.out | apply below_alloc | apply pw_below_drewN | apply below_drew1) | exact HB.out)) hb); clear HB; have HO126 := n0_; have HB := n1_; clear n0_ n1_; clear hb ho29; obtain ⟨Ao30, co30, eo30⟩ := Kd.R_slice HO126.out; subst eo30) | (go_at_call 8; (with_reducible refine (adler_Sum.calls k _ _ y124 t127 _ ?side1 ?side2 A13.out).mono ?_); (case side1 => repeat (first | exact (Kd.R_reads' HO126.out).2.2 | (with_reducible refine Kd.C_alloc ?_ _) | (with_reducible refine Kd.C_drewN ?_ _) | (with_reducible refine Kd.C_drew ?_))); (case side2 => exact (Kd.R_reads' HO126.out).2.1); rintro e w31 ⟨rfl, hb⟩; have n0_ := Aside0.mk (Kd.R_below (by (with_reducible repeat (first | apply Kd.R_alloc | apply Kd.R_drewN | apply Kd.R_drew)); exact HO126.out) hb); have n1_ := Aside0.mk (below_step (by repeat (first | (with_reducible first | exact HB.out | apply below_alloc | apply pw_below_drewN | apply below_drew1) | exact HB.out)) hb); clear HO126; clear HB; have HO126 := n0_; have HB := n1_; clear n0_ n1_; (try clear hb); (try clear hb2); (try clear hk); (try clear hi)) | (go_at_call 10; (with_reducible refine (miradorref03_More.calls k 1 a1 t128 _ A14.out).mono ?_); rintro e w' ⟨rfl, ⟨nd, rfl⟩⟩))
          go_ret
          exact ⟨by first | rfl | (simp [errW_none, errW_some] <;> rfl) | (simp [*, errW_none, errW_some] <;> rfl), by repeat (first | (with_reducible first | exact HB.out | apply below_alloc | apply pw_below_drewN | apply below_drew1) | exact HB.out)⟩
      · rw [if_neg c12] at H
        have c12b0 : (t122 == t123) = false := beq_eq_false_iff_ne.mpr c12
        have c12b1 : (t122 != t123) = true := bne_iff_ne.mpr c12
        obtain rfl := Option.some.inj H
        go_enter Try.func5, Try.ntmps5
        go_wp2_with (first | ((with_reducible refine gate_callee (f := 7) rfl ?_); refine goesL_ (some 12) rfl rfl Try.func7 (by kernel_rfl) rfl #[] rfl (by (try simp only [List.map_toArray, List.map_cons, List.map_nil]); first | done | rfl | (simp only [List.length_drop, List.length_take]; rfl)) ?_; (with_reducible refine (miradorlaw03_works.calls k  true _ A6.out).mono ?_); rintro e w32 ⟨rfl, hb⟩; refine ⟨_, rfl, ?_⟩; have n0_ := Aside0.mk (below_step (by repeat (first | (with_reducible first | exact HB.out | apply below_alloc | apply pw_below_drewN | apply below_drew1) | exact HB.out)) hb); clear HB; have HB := n0_; clear n0_; (try clear hb); (try clear hb2); (try clear hk); (try clear hi)) | (go_at_call 9; (with_reducible refine (adler_More.calls k a0 a1 t122 _ A10.out).mono ?_); rintro e w33 ⟨rfl, hb⟩; have n0_ := Aside0.mk (below_step (by repeat (first | (with_reducible first | exact HB.out | apply below_alloc | apply pw_below_drewN | apply below_drew1) | exact HB.out)) hb); clear HB; have HB := n0_; clear n0_; (try clear hb); (try clear hb2); (try clear hk); (try clear hi)) | (go_at_call 10; (with_reducible refine (miradorref03_More.calls k a0 a1 t123 _ A11.out).mono ?_); rintro e w' ⟨rfl, ⟨nd, rfl⟩⟩))
        go_ret
        exact ⟨by first | rfl | (simp [errW_none, errW_some] <;> rfl) | (simp [*, errW_none, errW_some] <;> rfl), by repeat (first | (with_reducible first | exact HB.out | apply below_alloc | apply pw_below_drewN | apply below_drew1) | exact HB.out)⟩
  · replace c7 := Bool.eq_false_iff.mpr c7
    subst c7
    have H1 : (some false) = some r := by rw [if_neg (show ¬ (false = true) by decide)] at H; exact H
    clear H
    have H := H1
    clear H1
    obtain rfl := Option.some.inj H
    go_enter Try.func5, Try.ntmps5
    go_wp2_with (first | ((with_reducible refine gate_callee (f := 7) rfl ?_); refine goesL_ (some 12) rfl rfl Try.func7 (by kernel_rfl) rfl #[] rfl (by (try simp only [List.map_toArray, List.map_cons, List.map_nil]); first | done | rfl | (simp only [List.length_drop, List.length_take]; rfl)) ?_; (with_reducible refine (miradorlaw03_works.calls k  false _ A6.out).mono ?_); rintro e w34 ⟨rfl, hb⟩; refine ⟨_, rfl, ?_⟩; have n0_ := Aside0.mk (below_step (by repeat (first | (with_reducible first | exact HB.out | apply below_alloc | apply pw_below_drewN | apply below_drew1) | exact HB.out)) hb); clear HB; have HB := n0_; clear n0_; (try clear hb); (try clear hb2); (try clear hk); (try clear hi)))
    go_ret
    exact ⟨by first | rfl | (simp [errW_none, errW_some] <;> rfl) | (simp [*, errW_none, errW_some] <;> rfl), by repeat (first | (with_reducible first | exact HB.out | apply below_alloc | apply pw_below_drewN | apply below_drew1) | exact HB.out)⟩

/-- THE ONE PURE STATEMENT of miradorlaw03_AdlerSums: yours. -/
def miradorlaw03_AdlerSums.Pure : Prop := ∀ (a0 : Int) (a1 : ByteArray) (a2 : Int) (a3 : Int) (a4 : Int), (Lit.int .i64 a0).wf = true → a1.size ≤ 140737488351232 → (Lit.int .i64 a2).wf = true → (Lit.int .i64 a3).wf = true → (Lit.int .i64 a4).wf = true → ∃ k, miradorlaw03_AdlerSums.f k a0 a1 a2 a3 a4 = some true
theorem miradorlaw03_AdlerSums.walk (P : miradorlaw03_AdlerSums.Pure) (a0 : Int) (a1 : ByteArray) (a2 : Int) (a3 : Int) (a4 : Int) (w : World) (w0 : (Lit.int .i64 a0).wf = true) (w1 : a1.size ≤ 140737488351232) (w2 : (Lit.int .i64 a2).wf = true) (w3 : (Lit.int .i64 a3).wf = true) (w4 : (Lit.int .i64 a4).wf = true) :
    Calls Try.prog 5 #[.int .i64 a0, .string a1, .int .i64 a2, .int .i64 a3, .int .i64 a4] w fun e w' => e = .returned (.bool true) ∧ Below w.heap.size w w' := by
  obtain ⟨k, h⟩ := P a0 a1 a2 a3 a4 w0 w1 w2 w3 w4
  refine (miradorlaw03_AdlerSums.calls k a0 a1 a2 a3 a4 true w h).mono ?_
  rintro e w' ⟨rfl, hd⟩
  exact ⟨rfl, hd⟩

end Go.Proofs.Ytbiamfokicmkpaa.PAdlerSums
