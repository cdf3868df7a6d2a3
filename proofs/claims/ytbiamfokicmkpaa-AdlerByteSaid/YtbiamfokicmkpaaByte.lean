/- AdlerByte holds: a text in which one byte is another one has another Adler-32 sum, and every sum is a number of 32 bits. It is stated for all arguments, without a condition. -/
import Derived.Test.YtbiamfokicmkpaaZeros
import Derived.OpenShut
namespace Go.Proofs.Ytbiamfokicmkpaa.Byte
open Go.RowKit Go.Proofs.Ytbiamfokicmkpaa.PAdlerSums Go.Proofs.YtbiamfokicmkpaaW.PrintWords Go.Proofs.YtbiamfokicmkpaaW.PrintLast Go.Proofs.YtbiamfokicmkpaaW.PrintMore Go.Proofs.Ytbiamfokicmkpaa.AdMath
open Go.Proofs.Ytbiamfokicmkpaa.Zeros (works_calls sum_calls ret_true)
attribute [local go_sem] max2_int min2_int max_two min_two max_three min_three max_four min_four
set_option linter.unusedVariables false
set_option linter.unusedSimpArgs false

def byte7.T : Bool × List (List Nat × List Nat) := (true, [([], []), ([], []), ([0, 1], [0, 1]), ([], []), ([3], [3]), ([4], [4]), ([2, 5], [2, 5]), ([], []), ([], []), ([8], [8]), ([7, 9], [7, 9]), ([6, 10], [6, 10]), ([11, 0, 1, 2, 3, 4, 5, 6, 7, 8, 9, 10, 11], [11])])
def byte7.B : List Nat := [0, 0, 3, 0, 8, 24, 63, 0, 0, 256, 896, 2047, 4095]
theorem byte7.tab : rtab .any (opsOf Try.f3 7) = byte7.T := by kernel_rfl
theorem byte7.bits : waitsOk byte7.T.2 byte7.B = true := by kernel_rfl

/-- What the law says of a place j and the place j1 behind it. -/
def Fine (a0 : ByteArray) (a2 j j1 : Int) : Prop :=
  ((S 1 [a0] == S 1 [a0.extract 0 j.toNat ++ strOfNums [a2] ++ a0.extract j1.toNat a0.size]) == (a0.toList == (a0.extract 0 j.toNat ++ strOfNums [a2] ++ a0.extract j1.toNat a0.size).toList)) = true ∧ decide (0 ≤ S 1 [a0]) = true ∧ decide (S 1 [a0] < 4294967296) = true
set_option maxHeartbeats 8000000 in
set_option maxRecDepth 100000 in
theorem byte_walk (H : ∀ (a0 : ByteArray) (a2 j j1 : Int), 0 ≤ a2 → a2 ≤ 255 → 0 ≤ j → j < a0.size → j1 = j + 1 → Fine a0 a2 j j1)
    (a0 : ByteArray) (a1 a2 : Int) (w : World) (h0 : 0 ≤ a2) (h1 : a2 ≤ 255) :
    Calls Try.prog 3 #[.string a0, .int .i64 a1, .int .u8 a2] w fun e w' => e = .returned (.bool true) ∧ Below w.heap.size w w' := by
  have HB := Aside0.mk (Below.refl w.heap.size w)
  by_cases c1 : (a0.size : Int) < 1
  · have b0 : decide ((a0.size : Int) < 1) = true := decide_eq_true c1
    have b1 : decide (a0.size < 1) = true := decide_eq_true (by omega)
    clear c1 H h0 h1
    go_enter Try.func3, Try.ntmps3
    go_wp2_with (first | ((with_reducible refine gate_callee (f := 7) rfl ?_); refine goesL_ (some 10) rfl rfl Try.func7 (by kernel_rfl) rfl #[] rfl (by (try simp only [List.map_toArray, List.map_cons, List.map_nil]); first | done | rfl) ?_; (with_reducible refine (works_calls _).mono ?_); rintro e w1 ⟨rfl, hb⟩; refine ⟨_, rfl, ?_⟩; have nb_ := Aside0.mk (below_step (by repeat (first | (with_reducible first | exact HB.out | apply below_alloc | apply pw_below_drewN | apply below_drew1) | exact HB.out)) hb); clear HB; have HB := nb_; clear nb_; clear hb))
    go_ret
    exact ⟨rfl, by repeat (first | (with_reducible first | exact HB.out | apply below_alloc | apply pw_below_drewN | apply below_drew1) | exact HB.out)⟩
  · by_cases c2 : (a0.size : Int) > 3000
    · have b0 : decide ((a0.size : Int) < 1) = false := decide_eq_false c1
      have b1 : decide (a0.size < 1) = false := decide_eq_false (by omega)
      have b2 : decide (3000 < (a0.size : Int)) = true := decide_eq_true c2
      have b3 : decide (3000 < a0.size) = true := decide_eq_true (by omega)
      clear c1 c2 H h0 h1
      go_enter Try.func3, Try.ntmps3
      go_wp2_with (first | ((with_reducible refine gate_callee (f := 7) rfl ?_); refine goesL_ (some 10) rfl rfl Try.func7 (by kernel_rfl) rfl #[] rfl (by (try simp only [List.map_toArray, List.map_cons, List.map_nil]); first | done | rfl) ?_; (with_reducible refine (works_calls _).mono ?_); rintro e w1 ⟨rfl, hb⟩; refine ⟨_, rfl, ?_⟩; have nb_ := Aside0.mk (below_step (by repeat (first | (with_reducible first | exact HB.out | apply below_alloc | apply pw_below_drewN | apply below_drew1) | exact HB.out)) hb); clear HB; have HB := nb_; clear nb_; clear hb))
      go_ret
      exact ⟨rfl, by repeat (first | (with_reducible first | exact HB.out | apply below_alloc | apply pw_below_drewN | apply below_drew1) | exact HB.out)⟩
    · have b0 : decide ((a0.size : Int) < 1) = false := decide_eq_false c1
      have b1 : decide (a0.size < 1) = false := decide_eq_false (by omega)
      have b2 : decide (3000 < (a0.size : Int)) = false := decide_eq_false c2
      have b3 : decide (3000 < a0.size) = false := decide_eq_false (by omega)
      obtain ⟨m, hm⟩ : ∃ m : Int, wrap64 ((a0.size : Int) - 1) = m := ⟨_, rfl⟩
      have hm2 : m = (a0.size : Int) - 1 := by rw [← hm]; unfold wrap64; omega
      obtain ⟨i0, hi0⟩ : ∃ i0 : Int, (if a1 < 0 then 0 else a1) = i0 := ⟨_, rfl⟩
      have hi1 : 0 ≤ i0 := by rw [← hi0]; split <;> omega
      obtain ⟨j, hj⟩ : ∃ j : Int, (if m < i0 then m else i0) = j := ⟨_, rfl⟩
      have hj1 : 0 ≤ j ∧ j < a0.size := by rw [← hj]; split <;> omega
      obtain ⟨j1, hj2⟩ : ∃ j1 : Int, wrap64 (j + 1) = j1 := ⟨_, rfl⟩
      have hj3 : j1 = j + 1 := by rw [← hj2]; unfold wrap64; omega
      have hj2w : IntKind.i64.wrap (j + 1) = j1 := (i64_w _).trans hj2
      have HF := Aside0.mk (H a0 a2 j j1 h0 h1 hj1.1 hj1.2 hj3)
      have e0 : (0 ≤ j) = True := eq_true hj1.1
      have e1 : decide (0 ≤ j) = true := decide_eq_true hj1.1
      have e2 : (j ≤ (a0.size : Int)) = True := eq_true (by omega)
      have e3 : decide (j ≤ (a0.size : Int)) = true := decide_eq_true (by omega)
      have e4 : (0 ≤ j1) = True := eq_true (by omega)
      have e5 : decide (0 ≤ j1) = true := decide_eq_true (by omega)
      have e6 : (j1 ≤ (a0.size : Int)) = True := eq_true (by omega)
      have e7 : decide (j1 ≤ (a0.size : Int)) = true := decide_eq_true (by omega)
      have g0 : (a0.extract 0 j.toNat).size ≤ 3000 := by rw [ByteArray.size_extract]; omega
      have g1 : (strOfNums [a2]).size = 1 := rfl
      have g2 : (a0.extract j1.toNat a0.size).size ≤ 3000 := by rw [ByteArray.size_extract]; omega
      have e8 : (9223372036854775807 < (a0.extract 0 j.toNat).size + (strOfNums [a2]).size) = False := eq_false (by omega)
      have e9 : (9223372036854775807 < (a0.extract 0 j.toNat).size + (strOfNums [a2]).size + (a0.extract j1.toNat a0.size).size) = False := eq_false (by omega)
      have e8a : (9223372036854775807 < j.toNat + (strOfNums [a2]).size) = False := eq_false (by omega)
      have e9a : (9223372036854775807 < j.toNat + (strOfNums [a2]).size + (a0.size - j1.toNat)) = False := eq_false (by omega)
      have e10 : (9223372036854775807 < (a0.extract 0 j.toNat ++ strOfNums [a2]).size + (a0.extract j1.toNat a0.size).size) = False := eq_false (by rw [ByteArray.size_append]; omega)
      have f1 : ((S 1 [a0] == S 1 [a0.extract 0 j.toNat ++ strOfNums [a2] ++ a0.extract j1.toNat a0.size]) == (a0.toList == (a0.extract 0 j.toNat ++ strOfNums [a2] ++ a0.extract j1.toNat a0.size).toList)) = true := HF.out.1
      have f2 : decide (0 ≤ S 1 [a0]) = true := HF.out.2.1
      have f3 : decide (S 1 [a0] < 4294967296) = true := HF.out.2.2
      clear c1 c2 H h0 h1 hm2 hi1 hj1 hj3 g0 g1 g2
      go_enter Try.func3, Try.ntmps3
      go_wp2_with (first | ((with_reducible refine gate_callee (f := 7) rfl ?_); refine goesL_ (some 10) rfl rfl Try.func7 (by kernel_rfl) rfl #[] rfl (by (try simp only [List.map_toArray, List.map_cons, List.map_nil]); first | done | rfl) ?_; (with_reducible refine (works_calls _).mono ?_); rintro e w1 ⟨rfl, hb⟩; refine ⟨_, rfl, ?_⟩; have nb_ := Aside0.mk (below_step (by repeat (first | (with_reducible first | exact HB.out | apply below_alloc | apply pw_below_drewN | apply below_drew1) | exact HB.out)) hb); clear HB; have HB := nb_; clear nb_; clear hb))
      have nb_ := Aside0.mk (below_drew1 HB.out)
      clear HB
      have HB := nb_
      clear nb_
      refine start_ (n := 13) (S := fun w' => True) (ds := []) #[false, false, false, false, false, false, false, false, false, false, false, false, false] (by kernel_rfl) rfl rfl trivial (fun hHeld => ?_); refine with_tabW byte7.tab byte7.bits (fun HT_ HW_ => ?_)
      generalize w1.drew = w2 at HB hHeld ⊢
      refine pure_ (i := 0) (N := some 28) (v := ?_) (a' := ?_) #[true, false, false, false, false, false, false, false, false, false, false, false, false] rfl rfl (any_of HT_.out (by kernel_rfl)) (fun _ _ _ h => h) (Or.inl ⟨by rfl, ?_⟩) ?_ ?_
      rotate_left
      · intro w'
        go_simp
        with_reducible rfl
      rotate_left
      · simp only [Act.put, List.setIfInBounds_toArray, List.set_cons_zero, List.set_cons_succ, i64_w, i32_w]
        rfl
      refine pure_ (i := 1) (N := some 29) (v := ?_) (a' := ?_) #[true, true, false, false, false, false, false, false, false, false, false, false, false] rfl rfl (any_of HT_.out (by kernel_rfl)) (fun _ _ _ h => h) (Or.inl ⟨by rfl, ?_⟩) ?_ ?_
      rotate_left
      · intro w'
        go_simp
        with_reducible rfl
      rotate_left
      · simp only [Act.put, List.setIfInBounds_toArray, List.set_cons_zero, List.set_cons_succ, i64_w, i32_w]
        rfl
      refine pure_ (i := 2) (N := some 30) (v := ?_) (a' := ?_) #[true, true, true, false, false, false, false, false, false, false, false, false, false] rfl rfl (any_of HT_.out (by kernel_rfl)) (fun _ _ _ h => h) (Or.inl ⟨by rfl, ?_⟩) ?_ ?_
      rotate_left
      · intro w'
        go_simp
        with_reducible rfl
      rotate_left
      · simp only [Act.put, List.setIfInBounds_toArray, List.set_cons_zero, List.set_cons_succ, i64_w, i32_w]
        rfl
      refine pure_ (i := 3) (N := some 31) (v := ?_) (a' := ?_) #[true, true, true, true, false, false, false, false, false, false, false, false, false] rfl rfl (any_of HT_.out (by kernel_rfl)) (fun _ _ _ h => h) (Or.inl ⟨by rfl, ?_⟩) ?_ ?_
      rotate_left
      · intro w'
        go_simp
        with_reducible rfl
      rotate_left
      · simp only [Act.put, List.setIfInBounds_toArray, List.set_cons_zero, List.set_cons_succ, i64_w, i32_w]
        rfl
      refine pure_ (i := 7) (N := some 35) (v := ?_) (a' := ?_) #[true, true, true, true, false, false, false, true, false, false, false, false, false] rfl rfl (any_of HT_.out (by kernel_rfl)) (fun _ _ _ h => h) (Or.inl ⟨by rfl, ?_⟩) ?_ ?_
      rotate_left
      · intro w'
        go_simp
        with_reducible rfl
      rotate_left
      · simp only [Act.put, List.setIfInBounds_toArray, List.set_cons_zero, List.set_cons_succ, i64_w, i32_w]
        rfl
      refine pure_ (i := 8) (N := some 36) (v := ?_) (a' := ?_) #[true, true, true, true, false, false, false, true, true, false, false, false, false] rfl rfl (any_of HT_.out (by kernel_rfl)) (fun _ _ _ h => h) (Or.inl ⟨by rfl, ?_⟩) ?_ ?_
      rotate_left
      · intro w'
        go_simp
        with_reducible rfl
      rotate_left
      · simp only [Act.put, List.setIfInBounds_toArray, List.set_cons_zero, List.set_cons_succ, i64_w, i32_w]
        rfl
      refine pure_ (i := 9) (N := some 37) (v := ?_) (a' := ?_) #[true, true, true, true, false, false, false, true, true, true, false, false, false] rfl rfl (any_of HT_.out (by kernel_rfl)) (fun _ _ _ h => h) (Or.inl ⟨by rfl, ?_⟩) ?_ ?_
      rotate_left
      · intro w'
        go_simp
        with_reducible rfl
      rotate_left
      · simp only [Act.put, List.setIfInBounds_toArray, List.set_cons_zero, List.set_cons_succ, i64_w, i32_w]
        rfl
      refine pure_ (i := 10) (N := some 38) (v := ?_) (a' := ?_) #[true, true, true, true, false, false, false, true, true, true, true, false, false] rfl rfl (any_of HT_.out (by kernel_rfl)) (fun _ _ _ h => h) (Or.inl ⟨by rfl, ?_⟩) ?_ ?_
      rotate_left
      · intro w'
        go_simp
        with_reducible rfl
      rotate_left
      · simp only [Act.put, List.setIfInBounds_toArray, List.set_cons_zero, List.set_cons_succ, i64_w, i32_w]
        rfl
      refine one_ (i := 4) (N := some 32) #[true, true, true, true, true, false, false, true, true, true, true, false, false] rfl rfl (one_of HT_.out (by kernel_rfl)) (by decide) (fun K hK => ?_)
      refine Kd.R_lit_step (Kd.int .u8) _ 5 ?hg (N := 32) ?hd (xs := ([a2] : List Int)) (inner := [.int .u8 a2]) (ok := fun _ => True) (okp := fun _ => True) ?hr ?hp (fun _ hk => hk) trivial (Below.refl _ _) (Nat.le_refl _) (by simp) ?_; (case hd => rfl); (case hg => rfl); (case hr => first | (go_simp; done) | (go_simp; rfl)); (case hp => exact (Reps.one (show Kd.M (Kd.int .u8) _ _ _ a2 [.int .u8 a2] from rfl) (Reps.none _ _)))
      intro vb w8 ho_ hb hg_ hnew_
      clear hg_ hnew_
      have m_ := Aside0.mk (Kd.R_lower ho_ (below_size (by repeat (first | (with_reducible first | exact HB.out | apply below_alloc | apply pw_below_drewN | apply below_drew1) | exact HB.out))))
      clear ho_
      have nb_ := Aside0.mk (below_step (by repeat (first | (with_reducible first | exact HB.out | apply below_alloc | apply pw_below_drewN | apply below_drew1) | exact HB.out)) hb)
      clear HB
      have HB := nb_
      clear nb_ hb
      have HO := m_
      clear m_
      refine hK.out _ _ trivial (fun hHeld => ?_)
      clear hK K
      refine norm_ (a' := ?_) ?_ ?_
      rotate_left
      · show Act.put _ (some 32) _ = _
        simp only [Act.put, List.setIfInBounds_toArray, List.set_cons_zero, List.set_cons_succ, i64_w, i32_w]
        rfl
      refine one_ (i := 5) (N := some 33) #[true, true, true, true, true, true, false, true, true, true, true, false, false] rfl rfl (one_of HT_.out (by kernel_rfl)) (by decide) (fun K hK => ?_)
      have hcv := own_string (P := Try.prog) Try.underlying23 Try.underlying5 Try.underlying9 (Kd.own_of_R HO.out)
      refine value_ (w1 := ?_) (v := ?_) (by rfl) rfl ?_ ?_
      rotate_left 2
      · go_simp
        constructor
        · rfl
        · rfl
      clear hcv
      refine hK.out _ _ trivial (fun hHeld => ?_)
      clear hK K
      refine norm_ (a' := ?_) ?_ ?_
      rotate_left
      · show Act.put _ (some 33) _ = _
        simp only [Act.put, List.setIfInBounds_toArray, List.set_cons_zero, List.set_cons_succ, i64_w, i32_w]
        rfl
      refine pure_ (i := 6) (N := some 34) (v := ?_) (a' := ?_) #[true, true, true, true, true, true, true, true, true, true, true, false, false] rfl rfl (any_of HT_.out (by kernel_rfl)) (fun _ _ _ h => h) (Or.inl ⟨by rfl, ?_⟩) ?_ ?_
      rotate_left
      · intro w'
        go_simp
        with_reducible rfl
      rotate_left
      · simp only [Act.put, List.setIfInBounds_toArray, List.set_cons_zero, List.set_cons_succ, i64_w, i32_w]
        rfl
      refine pure_ (i := 11) (N := some 39) (v := ?_) (a' := ?_) #[true, true, true, true, true, true, true, true, true, true, true, true, false] rfl rfl (any_of HT_.out (by kernel_rfl)) (fun _ _ _ h => h) (Or.inl ⟨by rfl, ?_⟩) ?_ ?_
      rotate_left
      · intro w'
        go_simp
        with_reducible rfl
      rotate_left
      · simp only [Act.put, List.setIfInBounds_toArray, List.set_cons_zero, List.set_cons_succ, i64_w, i32_w]
        rfl
      refine pure_ (i := 12) (N := some 9) (v := ?_) (a' := ?_) #[true, true, true, true, true, true, true, true, true, true, true, true, true] rfl rfl (any_of HT_.out (by kernel_rfl)) (fun _ _ _ h => h) (Or.inl ⟨by rfl, ?_⟩) ?_ ?_
      rotate_left
      · intro w'
        go_simp
        with_reducible rfl
      rotate_left
      · simp only [Act.put, List.setIfInBounds_toArray, List.set_cons_zero, List.set_cons_succ, i64_w, i32_w]
        rfl
      refine done_ (done_of HT_.out (by kernel_rfl)) ?_
      go_wp2_with (first | ((with_reducible refine gate_dst (N := 43) rfl ?_); (try (refine gate_guard (by rfl) ?_; dsimp only)); refine Kd.R_lit Kd.string _ 9 ?hg (N := 43) ?hd (xs := ([a0] : List ByteArray)) (inner := [.string (a0)]) (ok := fun _ => True) (okp := fun _ => True) ?hr ?hp (fun _ hk => hk) trivial (Below.refl _ _) (Nat.le_refl _) (by simp) ?_; (case hd => rfl); (case hg => rfl); (case hr => first | (go_simp; done) | (go_simp; rfl)); (case hp => exact (Reps.one (show Kd.M Kd.string _ _ _ (a0) [.string (a0)] from rfl) (Reps.none _ _))); intro v_ w21 ho_ hb hg_ hnew_; clear hg_ hnew_; have m_ := Aside0.mk (Kd.R_lower ho_ (below_size (by repeat (first | (with_reducible first | exact HB.out | apply below_alloc | apply pw_below_drewN | apply below_drew1) | exact HB.out)))); clear ho_; have nb_ := Aside0.mk (below_step (by repeat (first | (with_reducible first | exact HB.out | apply below_alloc | apply pw_below_drewN | apply below_drew1) | exact HB.out)) hb); clear HB; have HB := nb_; clear nb_; clear hb; have L1 := m_; clear m_; obtain ⟨AL1, cL1, e_⟩ := Kd.R_slice L1.out; subst e_) | (go_at_call 8; (with_reducible refine (sum_calls _ _ _ [a0] _ ?side3 ?side1 ?side2).mono ?_); (case side1 => repeat (first | exact (Kd.R_reads' L1.out).2.2 | (with_reducible refine Kd.C_alloc ?_ _) | (with_reducible refine Kd.C_drewN ?_ _) | (with_reducible refine Kd.C_drew ?_))); (case side2 => exact (Kd.R_reads' L1.out).2.1); (case side3 => rfl); rintro e w22 ⟨rfl, hb⟩; have n0_ := Aside0.mk (Kd.R_below (by (with_reducible repeat (first | apply Kd.R_alloc | apply Kd.R_drewN | apply Kd.R_drew)); exact L1.out) hb); have nb_ := Aside0.mk (below_step (by repeat (first | (with_reducible first | exact HB.out | apply below_alloc | apply pw_below_drewN | apply below_drew1) | exact HB.out)) hb); clear L1; clear HB; have L1 := n0_; have HB := nb_; clear nb_ n0_; clear hb) | ((with_reducible refine gate_dst (N := 46) rfl ?_); (try (refine gate_guard (by rfl) ?_; dsimp only)); refine Kd.R_lit Kd.string _ 9 ?hg (N := 46) ?hd (xs := ([a0.extract 0 j.toNat ++ strOfNums [a2] ++ a0.extract j1.toNat a0.size] : List ByteArray)) (inner := [.string (a0.extract 0 j.toNat ++ strOfNums [a2] ++ a0.extract j1.toNat a0.size)]) (ok := fun _ => True) (okp := fun _ => True) ?hr ?hp (fun _ hk => hk) trivial (Below.refl _ _) (Nat.le_refl _) (by simp) ?_; (case hd => rfl); (case hg => rfl); (case hr => first | (go_simp; done) | (go_simp; rfl)); (case hp => exact (Reps.one (show Kd.M Kd.string _ _ _ (a0.extract 0 j.toNat ++ strOfNums [a2] ++ a0.extract j1.toNat a0.size) [.string (a0.extract 0 j.toNat ++ strOfNums [a2] ++ a0.extract j1.toNat a0.size)] from rfl) (Reps.none _ _))); intro v_ w23 ho_ hb hg_ hnew_; clear hg_ hnew_; have m_ := Aside0.mk (Kd.R_lower ho_ (below_size (by repeat (first | (with_reducible first | exact HB.out | apply below_alloc | apply pw_below_drewN | apply below_drew1) | exact HB.out)))); clear ho_; have nb_ := Aside0.mk (below_step (by repeat (first | (with_reducible first | exact HB.out | apply below_alloc | apply pw_below_drewN | apply below_drew1) | exact HB.out)) hb); clear HB; have HB := nb_; clear nb_; clear hb; have L2 := m_; clear m_; obtain ⟨AL2, cL2, e_⟩ := Kd.R_slice L2.out; subst e_) | (go_at_call 8; (with_reducible refine (sum_calls _ _ _ [a0.extract 0 j.toNat ++ strOfNums [a2] ++ a0.extract j1.toNat a0.size] _ ?side3 ?side1 ?side2).mono ?_); (case side1 => repeat (first | exact (Kd.R_reads' L2.out).2.2 | (with_reducible refine Kd.C_alloc ?_ _) | (with_reducible refine Kd.C_drewN ?_ _) | (with_reducible refine Kd.C_drew ?_))); (case side2 => exact (Kd.R_reads' L2.out).2.1); (case side3 => rfl); rintro e w24 ⟨rfl, hb⟩; have n0_ := Aside0.mk (Kd.R_below (by (with_reducible repeat (first | apply Kd.R_alloc | apply Kd.R_drewN | apply Kd.R_drew)); exact L2.out) hb); have nb_ := Aside0.mk (below_step (by repeat (first | (with_reducible first | exact HB.out | apply below_alloc | apply pw_below_drewN | apply below_drew1) | exact HB.out)) hb); clear L2; clear HB; have L2 := n0_; have HB := nb_; clear nb_ n0_; clear hb) | ((with_reducible refine gate_dst (N := 56) rfl ?_); (try (refine gate_guard (by rfl) ?_; dsimp only)); refine Kd.R_lit Kd.string _ 9 ?hg (N := 56) ?hd (xs := ([a0] : List ByteArray)) (inner := [.string (a0)]) (ok := fun _ => True) (okp := fun _ => True) ?hr ?hp (fun _ hk => hk) trivial (Below.refl _ _) (Nat.le_refl _) (by simp) ?_; (case hd => rfl); (case hg => rfl); (case hr => first | (go_simp; done) | (go_simp; rfl)); (case hp => exact (Reps.one (show Kd.M Kd.string _ _ _ (a0) [.string (a0)] from rfl) (Reps.none _ _))); intro v_ w25 ho_ hb hg_ hnew_; clear hg_ hnew_; have m_ := Aside0.mk (Kd.R_lower ho_ (below_size (by repeat (first | (with_reducible first | exact HB.out | apply below_alloc | apply pw_below_drewN | apply below_drew1) | exact HB.out)))); clear ho_; have nb_ := Aside0.mk (below_step (by repeat (first | (with_reducible first | exact HB.out | apply below_alloc | apply pw_below_drewN | apply below_drew1) | exact HB.out)) hb); clear HB; have HB := nb_; clear nb_; clear hb; have L3 := m_; clear m_; obtain ⟨AL3, cL3, e_⟩ := Kd.R_slice L3.out; subst e_) | (go_at_call 8; (with_reducible refine (sum_calls _ _ _ [a0] _ ?side3 ?side1 ?side2).mono ?_); (case side1 => repeat (first | exact (Kd.R_reads' L3.out).2.2 | (with_reducible refine Kd.C_alloc ?_ _) | (with_reducible refine Kd.C_drewN ?_ _) | (with_reducible refine Kd.C_drew ?_))); (case side2 => exact (Kd.R_reads' L3.out).2.1); (case side3 => rfl); rintro e w26 ⟨rfl, hb⟩; have n0_ := Aside0.mk (Kd.R_below (by (with_reducible repeat (first | apply Kd.R_alloc | apply Kd.R_drewN | apply Kd.R_drew)); exact L3.out) hb); have nb_ := Aside0.mk (below_step (by repeat (first | (with_reducible first | exact HB.out | apply below_alloc | apply pw_below_drewN | apply below_drew1) | exact HB.out)) hb); clear L3; clear HB; have L3 := n0_; have HB := nb_; clear nb_ n0_; clear hb) | ((with_reducible refine gate_dst (N := 62) rfl ?_); (try (refine gate_guard (by rfl) ?_; dsimp only)); refine Kd.R_lit Kd.string _ 9 ?hg (N := 62) ?hd (xs := ([a0] : List ByteArray)) (inner := [.string (a0)]) (ok := fun _ => True) (okp := fun _ => True) ?hr ?hp (fun _ hk => hk) trivial (Below.refl _ _) (Nat.le_refl _) (by simp) ?_; (case hd => rfl); (case hg => rfl); (case hr => first | (go_simp; done) | (go_simp; rfl)); (case hp => exact (Reps.one (show Kd.M Kd.string _ _ _ (a0) [.string (a0)] from rfl) (Reps.none _ _))); intro v_ w27 ho_ hb hg_ hnew_; clear hg_ hnew_; have m_ := Aside0.mk (Kd.R_lower ho_ (below_size (by repeat (first | (with_reducible first | exact HB.out | apply below_alloc | apply pw_below_drewN | apply below_drew1) | exact HB.out)))); clear ho_; have nb_ := Aside0.mk (below_step (by repeat (first | (with_reducible first | exact HB.out | apply below_alloc | apply pw_below_drewN | apply below_drew1) | exact HB.out)) hb); clear HB; have HB := nb_; clear nb_; clear hb; have L4 := m_; clear m_; obtain ⟨AL4, cL4, e_⟩ := Kd.R_slice L4.out; subst e_) | (go_at_call 8; (with_reducible refine (sum_calls _ _ _ [a0] _ ?side3 ?side1 ?side2).mono ?_); (case side1 => repeat (first | exact (Kd.R_reads' L4.out).2.2 | (with_reducible refine Kd.C_alloc ?_ _) | (with_reducible refine Kd.C_drewN ?_ _) | (with_reducible refine Kd.C_drew ?_))); (case side2 => exact (Kd.R_reads' L4.out).2.1); (case side3 => rfl); rintro e w28 ⟨rfl, hb⟩; have n0_ := Aside0.mk (Kd.R_below (by (with_reducible repeat (first | apply Kd.R_alloc | apply Kd.R_drewN | apply Kd.R_drew)); exact L4.out) hb); have nb_ := Aside0.mk (below_step (by repeat (first | (with_reducible first | exact HB.out | apply below_alloc | apply pw_below_drewN | apply below_drew1) | exact HB.out)) hb); clear L4; clear HB; have L4 := n0_; have HB := nb_; clear nb_ n0_; clear hb))
      go_ret
      exact ⟨rfl, by repeat (first | (with_reducible first | exact HB.out | apply below_alloc | apply pw_below_drewN | apply below_drew1) | exact HB.out)⟩

def total : List UInt8 → Int
  | [] => 0
  | c :: l => (c.toNat : Int) + total l
theorem total_append (l m : List UInt8) : total (l ++ m) = total l + total m := by
  induction l with
  | nil => simp [total]
  | cons c l ih => rw [List.cons_append, total, total, ih]; omega
theorem G_total (l : List UInt8) (a b : Int) : (G l a b).1 = a + total l := by
  induction l generalizing a b with
  | nil => simp [G, total]
  | cons c l ih =>
    show (G l (a + (c.toNat : Int)) (b + (a + (c.toNat : Int)))).1 = _
    rw [ih, total]
    omega
theorem F_total (l : List UInt8) : (F l 1 0).1 = (1 + total l) % 65521 := by
  have e2 : F l 1 0 = ((G l 1 0).1 % 65521, (G l 1 0).2 % 65521) := by
    rw [← F_mod]
    rfl
  rw [e2, G_total]

theorem A_ne (l : List UInt8) (k : Nat) (hk : k < l.length) (c : UInt8) (hc : l[k] ≠ c) : A 1 l ≠ A 1 (l.take k ++ [c] ++ l.drop (k + 1)) := by
  intro h
  have p1 := (A_parts 1 l).1
  have p2 := (A_parts 1 (l.take k ++ [c] ++ l.drop (k + 1))).1
  rw [h, p2] at p1
  have q : (F (l.take k ++ [c] ++ l.drop (k + 1)) 1 0).1 = (F l 1 0).1 := p1
  rw [F_total, F_total, total_append, total_append] at q
  have hl : total l = total (l.take k) + ((l[k].toNat : Int) + total (l.drop (k + 1))) := by
    have e : l = l.take k ++ (l[k] :: l.drop (k + 1)) := by rw [← List.drop_eq_getElem_cons hk, List.take_append_drop]
    have e2 : total l = total (l.take k ++ (l[k] :: l.drop (k + 1))) := by rw [← e]
    rw [e2, total_append, total]
  rw [hl] at q
  have b1 := byte_le l[k]
  have b2 := byte_le c
  have e1 : total [c] = (c.toNat : Int) := by simp [total]
  rw [e1] at q
  have hne : (l[k].toNat : Int) ≠ (c.toNat : Int) := by
    intro hh
    exact hc (UInt8.toNat_inj.mp (by omega))
  generalize total (l.take k) = x at *
  generalize total (l.drop (k + 1)) = y at *
  generalize l[k].toNat = u at *
  generalize c.toNat = v at *
  omega

theorem byte_law (a0 : ByteArray) (a2 j j1 : Int) (h0 : 0 ≤ a2) (h1 : a2 ≤ 255) (hj : 0 ≤ j) (hj2 : j < a0.size) (hj3 : j1 = j + 1) : Fine a0 a2 j j1 := by
  obtain ⟨k, rfl⟩ := Int.eq_ofNat_of_zero_le hj
  subst hj3
  have hA := A_bound 1 a0.data.toList
  refine ⟨?_, decide_eq_true hA.1, decide_eq_true hA.2⟩
  have hk : k < a0.data.toList.length := by rw [size_eq]; omega
  have et : (a0.extract 0 (k : Int).toNat ++ strOfNums [a2] ++ a0.extract ((k : Int) + 1).toNat a0.size).data.toList = a0.data.toList.take k ++ [UInt8.ofNat a2.toNat] ++ a0.data.toList.drop (k + 1) := by
    rw [ByteArray.data_append, ByteArray.data_append, Array.toList_append, Array.toList_append, extract_list, strOfNums_data, ByteArray.data_extract, Array.toList_extract, List.extract_eq_take_drop]
    simp
  have eS : S 1 [a0] = A 1 a0.data.toList := rfl
  have eT : ∀ x : ByteArray, S 1 [x] = A 1 x.data.toList := fun _ => rfl
  rw [eS, eT, Go.ByteArray.toList_eq, Go.ByteArray.toList_eq, et]
  generalize a0.data.toList = l at *
  by_cases hc : l[k] = UInt8.ofNat a2.toNat
  · have e : l.take k ++ [UInt8.ofNat a2.toNat] ++ l.drop (k + 1) = l := by
      rw [← hc, List.append_assoc, List.singleton_append, ← List.drop_eq_getElem_cons hk, List.take_append_drop]
    rw [e]
    simp
  · have n1 := A_ne l k hk _ hc
    have n2 : l ≠ l.take k ++ [UInt8.ofNat a2.toNat] ++ l.drop (k + 1) := by
      intro h
      exact n1 (by rw [← h])
    rw [beq_eq_false_iff_ne.mpr n1, beq_eq_false_iff_ne.mpr n2]
    rfl

theorem walk (a0 : ByteArray) (a1 a2 : Int) (w : World) (w2 : (Lit.int .u8 a2).wf = true) :
    Calls Try.prog 3 #[.string a0, .int .i64 a1, .int .u8 a2] w fun e w' => e = .returned (.bool true) ∧ Below w.heap.size w w' := by
  have hb : 0 ≤ a2 ∧ a2 ≤ 255 := Go.bounds_u8 w2
  exact byte_walk byte_law a0 a1 a2 w hb.1 hb.2

end Go.Proofs.Ytbiamfokicmkpaa.Byte
