/- CrcsHarm holds: a text in which at most four bytes side by side are other ones has another sum. It is stated for all arguments, without a condition. -/
import Derived.Test.YtdphbfohjgmkaaaWorks
namespace Go.Proofs.Ytdphbfohjgmkaaa.CHarm
open Go.RowKit Go.Proofs.Ytdphbfohjgmkaaa.PCrcsSums Go.Proofs.YtdphbfohjgmkaaaW.PrintWords Go.Proofs.YtdphbfohjgmkaaaW.PrintLast Go.Proofs.YtdphbfohjgmkaaaW.PrintMore Go.Proofs.Ytdphbfohjgmkaaa.Math Go.Proofs.Ytdphbfohjgmkaaa.Base Go.Proofs.Ytdphbfohjgmkaaa.Sums
attribute [local go_sem] max2_int min2_int max_two min_two max_three min_three max_four min_four
set_option linter.unusedVariables false
set_option linter.unusedSimpArgs false

def harm7.T : Bool × List (List Nat × List Nat) := (true, [([], []), ([], []), ([0, 1], [0, 1]), ([], []), ([2, 3], [2, 3]), ([], []), ([], []), ([], []), ([7], [7]), ([6, 8], [6, 8]), ([5, 9], [5, 9]), ([4, 10], [4, 10]), ([11, 0, 1, 2, 3, 4, 5, 6, 7, 8, 9, 10, 11], [11])])
def harm7.B : List Nat := [0, 0, 3, 0, 15, 0, 0, 0, 128, 448, 992, 2047, 4095]
theorem harm7.tab : rtab .any (opsOf Try.f6 7) = harm7.T := by kernel_rfl
theorem harm7.bits : waitsOk harm7.T.2 harm7.B = true := by kernel_rfl

open Go.Proofs.Ytdphbfohjgmkaaa.Works (works_calls)
/-- What the law says of a text with other bytes at a place. -/
def Fine (a0 a2 : ByteArray) (k k1 : Int) : Prop :=
  ((((sumN [a0] : Nat) : Int) == ((sumN [a0.extract 0 k.toNat ++ a2 ++ a0.extract k1.toNat a0.size] : Nat) : Int)) == (a0.toList == (a0.extract 0 k.toNat ++ a2 ++ a0.extract k1.toNat a0.size).toList)) = true ∧ ((sumN [a0] == sumN [a0.extract 0 k.toNat ++ a2 ++ a0.extract k1.toNat a0.size]) == (a0.toList == (a0.extract 0 k.toNat ++ a2 ++ a0.extract k1.toNat a0.size).toList)) = true
theorem ext_list (s : ByteArray) (i j : Nat) : (s.extract i j).data.toList = (s.data.toList.take j).drop i := by
  rw [ByteArray.data_extract, Array.toList_extract, List.extract_eq_take_drop, List.drop_take]
theorem harm_law (a0 a2 : ByteArray) (k k1 : Int) (h4 : a2.size ≤ 4) (hs : a2.size ≤ a0.size) (hk : 0 ≤ k) (hk2 : k ≤ (a0.size : Int) - a2.size) (hk3 : k1 = k + a2.size) : Fine a0 a2 k k1 := by
  obtain ⟨n, rfl⟩ := Int.eq_ofNat_of_zero_le hk
  subst hk3
  have e1 : (a0.extract 0 ((n : Int)).toNat ++ a2 ++ a0.extract ((n : Int) + (a2.size : Int)).toNat a0.size).data.toList = a0.data.toList.take n ++ a2.data.toList ++ a0.data.toList.drop (n + a2.size) := by
    rw [ByteArray.data_append, ByteArray.data_append, Array.toList_append, Array.toList_append, ext_list, ext_list]
    rw [show ((n : Int) + (a2.size : Int)).toNat = n + a2.size from by omega, Int.toNat_natCast, List.drop_zero]
    congr 2
    rw [List.take_of_length_le (by simp)]
  have key : sumN [a0] = sumN [a0.extract 0 ((n : Int)).toNat ++ a2 ++ a0.extract ((n : Int) + (a2.size : Int)).toNat a0.size] ↔ a0.toList = (a0.extract 0 ((n : Int)).toNat ++ a2 ++ a0.extract ((n : Int) + (a2.size : Int)).toNat a0.size).toList := by
    rw [Go.ByteArray.toList_eq, Go.ByteArray.toList_eq]
    constructor
    · intro h
      have h2 : run 4294967295 a0.data.toList = run 4294967295 (a0.extract 0 ((n : Int)).toNat ++ a2 ++ a0.extract ((n : Int) + (a2.size : Int)).toNat a0.size).data.toList := xor_cancel _ _ 4294967295 h
      rw [e1] at h2 ⊢
      have e2 : a0.data.toList = a0.data.toList.take n ++ ((a0.data.toList.drop n).take a2.size) ++ a0.data.toList.drop (n + a2.size) := by
        rw [List.append_assoc, ← List.drop_drop, List.take_append_drop, List.take_append_drop]
      have hl : a2.data.toList.length = a2.size := by simp
      have hl0 : a0.data.toList.length = a0.size := by simp
      have hl2 : ((a0.data.toList.drop n).take a2.size).length = a2.data.toList.length := by
        rw [List.length_take, List.length_drop, hl, hl0]
        omega
      rw [e2] at h2
      have h3 := harm 4294967295 (by decide) _ _ _ _ hl2 (by rw [hl2, hl]; exact h4) (by
        rw [← e2]
        rw [← e2] at h2
        exact h2)
      rw [← h3]
      exact e2
    · intro h
      show run 4294967295 a0.data.toList ^^^ _ = run 4294967295 (a0.extract 0 ((n : Int)).toNat ++ a2 ++ a0.extract ((n : Int) + (a2.size : Int)).toNat a0.size).data.toList ^^^ _
      rw [h]
  unfold Fine
  by_cases h : sumN [a0] = sumN [a0.extract 0 ((n : Int)).toNat ++ a2 ++ a0.extract ((n : Int) + (a2.size : Int)).toNat a0.size]
  · have h2 := key.mp h
    rw [← h, ← h2]
    simp
  · have h2 : ¬ a0.toList = (a0.extract 0 ((n : Int)).toNat ++ a2 ++ a0.extract ((n : Int) + (a2.size : Int)).toNat a0.size).toList := fun e => h (key.mpr e)
    have b1 : (sumN [a0] == sumN [a0.extract 0 ((n : Int)).toNat ++ a2 ++ a0.extract ((n : Int) + (a2.size : Int)).toNat a0.size]) = false := beq_eq_false_iff_ne.mpr h
    have b2 : (a0.toList == (a0.extract 0 ((n : Int)).toNat ++ a2 ++ a0.extract ((n : Int) + (a2.size : Int)).toNat a0.size).toList) = false := beq_eq_false_iff_ne.mpr h2
    have b3 : ((((sumN [a0] : Nat) : Int) == ((sumN [a0.extract 0 ((n : Int)).toNat ++ a2 ++ a0.extract ((n : Int) + (a2.size : Int)).toNat a0.size] : Nat) : Int))) = false := beq_eq_false_iff_ne.mpr (fun e => h (by omega))
    rw [b1, b2, b3]
    exact ⟨rfl, rfl⟩

set_option maxHeartbeats 8000000 in
set_option maxRecDepth 100000 in
theorem walk (a0 : ByteArray) (a1 : Int) (a2 : ByteArray) (w : World) :
    Calls Try.prog 6 #[.string a0, .int .i64 a1, .string a2] w fun e w' => e = .returned (.bool true) ∧ Below w.heap.size w w' := by
  have HB := Aside0.mk (Below.refl w.heap.size w)
  by_cases c0 : 2000 < a0.size
  · skip
    have pc0 : decide (2000 < (a0.size : Int)) = true := decide_eq_true (by omega)
    have qc0 : decide (2000 < a0.size) = true := decide_eq_true (by omega)
    clear c0
    go_enter Try.func6, Try.ntmps6
    go_wp2_with (first | (go_at_call 8; (with_reducible refine (works_calls _).mono ?_); rintro e w1 ⟨rfl, hb⟩; have nb_ := Aside0.mk (below_step (by repeat (first | (with_reducible first | exact HB.out | apply below_alloc | apply pw_below_drewN | apply below_drew1) | exact HB.out)) hb); clear HB; have HB := nb_; clear nb_; clear hb))
    go_ret
    exact ⟨rfl, by repeat (first | (with_reducible first | exact HB.out | apply below_alloc | apply pw_below_drewN | apply below_drew1) | exact HB.out)⟩
  · skip
    have pc0 : decide (2000 < (a0.size : Int)) = false := decide_eq_false (by omega)
    have qc0 : decide (2000 < a0.size) = false := decide_eq_false (by omega)
    by_cases c1 : 4 < a2.size
    · skip
      have pc1 : decide (4 < (a2.size : Int)) = true := decide_eq_true (by omega)
      have qc1 : decide (4 < a2.size) = true := decide_eq_true (by omega)
      clear c1
      go_enter Try.func6, Try.ntmps6
      go_wp2_with (first | (go_at_call 8; (with_reducible refine (works_calls _).mono ?_); rintro e w1 ⟨rfl, hb⟩; have nb_ := Aside0.mk (below_step (by repeat (first | (with_reducible first | exact HB.out | apply below_alloc | apply pw_below_drewN | apply below_drew1) | exact HB.out)) hb); clear HB; have HB := nb_; clear nb_; clear hb))
      go_ret
      exact ⟨rfl, by repeat (first | (with_reducible first | exact HB.out | apply below_alloc | apply pw_below_drewN | apply below_drew1) | exact HB.out)⟩
    · skip
      have pc1 : decide (4 < (a2.size : Int)) = false := decide_eq_false (by omega)
      have qc1 : decide (4 < a2.size) = false := decide_eq_false (by omega)
      by_cases c2 : a0.size < a2.size
      · skip
        have pc2 : decide ((a0.size : Int) < (a2.size : Int)) = true := decide_eq_true (by omega)
        have qc2 : decide (a0.size < a2.size) = true := decide_eq_true c2
        clear c2
        go_enter Try.func6, Try.ntmps6
        go_wp2_with (first | (go_at_call 8; (with_reducible refine (works_calls _).mono ?_); rintro e w1 ⟨rfl, hb⟩; have nb_ := Aside0.mk (below_step (by repeat (first | (with_reducible first | exact HB.out | apply below_alloc | apply pw_below_drewN | apply below_drew1) | exact HB.out)) hb); clear HB; have HB := nb_; clear nb_; clear hb))
        go_ret
        exact ⟨rfl, by repeat (first | (with_reducible first | exact HB.out | apply below_alloc | apply pw_below_drewN | apply below_drew1) | exact HB.out)⟩
      · skip
        have pc2 : decide ((a0.size : Int) < (a2.size : Int)) = false := decide_eq_false (by omega)
        have qc2 : decide (a0.size < a2.size) = false := decide_eq_false c2
        obtain ⟨m, hm⟩ : ∃ m : Int, wrap64 ((a0.size : Int) - (a2.size : Int)) = m := ⟨_, rfl⟩
        have hm2 : m = (a0.size : Int) - a2.size := by rw [← hm]; unfold wrap64; omega
        obtain ⟨i0, hi0⟩ : ∃ i0 : Int, (if a1 < 0 then 0 else a1) = i0 := ⟨_, rfl⟩
        have hi1 : 0 ≤ i0 := by rw [← hi0]; split <;> omega
        obtain ⟨k, hk⟩ : ∃ k : Int, (if m < i0 then m else i0) = k := ⟨_, rfl⟩
        have hk1 : 0 ≤ k ∧ k ≤ (a0.size : Int) - a2.size := by rw [← hk]; split <;> omega
        obtain ⟨k1, hk2⟩ : ∃ k1 : Int, wrap64 (k + (a2.size : Int)) = k1 := ⟨_, rfl⟩
        have hk3 : k1 = k + a2.size := by rw [← hk2]; unfold wrap64; omega
        have hk2w : IntKind.i64.wrap (k + (a2.size : Int)) = k1 := (i64_w _).trans hk2
        have HF := Aside0.mk (harm_law a0 a2 k k1 (by omega) (by omega) hk1.1 hk1.2 hk3)
        have e0 : (0 ≤ k) = True := eq_true hk1.1
        have e1 : decide (0 ≤ k) = true := decide_eq_true hk1.1
        have e2 : (k ≤ (a0.size : Int)) = True := eq_true (by omega)
        have e3 : decide (k ≤ (a0.size : Int)) = true := decide_eq_true (by omega)
        have e4 : (0 ≤ k1) = True := eq_true (by omega)
        have e5 : decide (0 ≤ k1) = true := decide_eq_true (by omega)
        have e6 : (k1 ≤ (a0.size : Int)) = True := eq_true (by omega)
        have e7 : decide (k1 ≤ (a0.size : Int)) = true := decide_eq_true (by omega)
        have g0 : (a0.extract 0 k.toNat).size ≤ 2000 := by rw [ByteArray.size_extract]; omega
        have g2 : (a0.extract k1.toNat a0.size).size ≤ 2000 := by rw [ByteArray.size_extract]; omega
        have e8 : (9223372036854775807 < (a0.extract 0 k.toNat).size + a2.size) = False := eq_false (by omega)
        have e9 : (9223372036854775807 < (a0.extract 0 k.toNat).size + a2.size + (a0.extract k1.toNat a0.size).size) = False := eq_false (by omega)
        have e8a : (9223372036854775807 < k.toNat + a2.size) = False := eq_false (by omega)
        have e9a : (9223372036854775807 < k.toNat + a2.size + (a0.size - k1.toNat)) = False := eq_false (by omega)
        have e10 : (9223372036854775807 < (a0.extract 0 k.toNat ++ a2).size + (a0.extract k1.toNat a0.size).size) = False := eq_false (by rw [ByteArray.size_append]; omega)
        have HS0 := Aside0.mk (show a0.size ≤ 140737488355328 by omega)
        have HST := Aside0.mk (show (a0.extract 0 k.toNat ++ a2 ++ a0.extract k1.toNat a0.size).size ≤ 140737488355328 by rw [ByteArray.size_append, ByteArray.size_append]; omega)
        have HZ1 := Aside0.mk (show ∀ s ∈ ([a0] : List ByteArray), s.size ≤ 140737488355328 by
          intro s hs
          rcases List.mem_cons.1 hs with rfl | hs
          · exact HS0.out
          cases hs)
        have HZ2 := Aside0.mk (show ∀ s ∈ ([a0.extract 0 k.toNat ++ a2 ++ a0.extract k1.toNat a0.size] : List ByteArray), s.size ≤ 140737488355328 by
          intro s hs
          rcases List.mem_cons.1 hs with rfl | hs
          · exact HST.out
          cases hs)
        have f1 := HF.out.1
        have f2 := HF.out.2
        clear c0 c1 c2 hm2 hi1 hk1 hk3 g0 g2
        go_enter Try.func6, Try.ntmps6
        go_wp2_with (first | (go_at_call 8; (with_reducible refine (works_calls _).mono ?_); rintro e w1 ⟨rfl, hb⟩; have nb_ := Aside0.mk (below_step (by repeat (first | (with_reducible first | exact HB.out | apply below_alloc | apply pw_below_drewN | apply below_drew1) | exact HB.out)) hb); clear HB; have HB := nb_; clear nb_; clear hb))
        have nb_ := Aside0.mk (below_drew1 HB.out)
        clear HB
        have HB := nb_
        clear nb_
        refine start_ (n := 13) (S := fun w' => True) (ds := []) #[false, false, false, false, false, false, false, false, false, false, false, false, false] (by kernel_rfl) rfl rfl trivial (fun hHeld => ?_); refine with_tabW harm7.tab harm7.bits (fun HT_ HW_ => ?_)
        generalize w1.drew = w2 at HB hHeld ⊢
        refine pure_ (i := 0) (N := some 38) (v := ?_) (a' := ?_) #[true, false, false, false, false, false, false, false, false, false, false, false, false] rfl rfl (any_of HT_.out (by kernel_rfl)) (fun _ _ _ h => h) (Or.inl ⟨by rfl, ?_⟩) ?_ ?_
        rotate_left
        · intro w'
          go_simp
          with_reducible rfl
        rotate_left
        · simp only [Act.put, List.setIfInBounds_toArray, List.set_cons_zero, List.set_cons_succ, i64_w, i32_w]
          rfl
        refine pure_ (i := 1) (N := some 39) (v := ?_) (a' := ?_) #[true, true, false, false, false, false, false, false, false, false, false, false, false] rfl rfl (any_of HT_.out (by kernel_rfl)) (fun _ _ _ h => h) (Or.inl ⟨by rfl, ?_⟩) ?_ ?_
        rotate_left
        · intro w'
          go_simp
          with_reducible rfl
        rotate_left
        · simp only [Act.put, List.setIfInBounds_toArray, List.set_cons_zero, List.set_cons_succ, i64_w, i32_w]
          rfl
        refine pure_ (i := 2) (N := some 40) (v := ?_) (a' := ?_) #[true, true, true, false, false, false, false, false, false, false, false, false, false] rfl rfl (any_of HT_.out (by kernel_rfl)) (fun _ _ _ h => h) (Or.inl ⟨by rfl, ?_⟩) ?_ ?_
        rotate_left
        · intro w'
          go_simp
          with_reducible rfl
        rotate_left
        · simp only [Act.put, List.setIfInBounds_toArray, List.set_cons_zero, List.set_cons_succ, i64_w, i32_w]
          rfl
        refine pure_ (i := 3) (N := some 41) (v := ?_) (a' := ?_) #[true, true, true, true, false, false, false, false, false, false, false, false, false] rfl rfl (any_of HT_.out (by kernel_rfl)) (fun _ _ _ h => h) (Or.inl ⟨by rfl, ?_⟩) ?_ ?_
        rotate_left
        · intro w'
          go_simp
          with_reducible rfl
        rotate_left
        · simp only [Act.put, List.setIfInBounds_toArray, List.set_cons_zero, List.set_cons_succ, i64_w, i32_w]
          rfl
        refine pure_ (i := 4) (N := some 42) (v := ?_) (a' := ?_) #[true, true, true, true, true, false, false, false, false, false, false, false, false] rfl rfl (any_of HT_.out (by kernel_rfl)) (fun _ _ _ h => h) (Or.inl ⟨by rfl, ?_⟩) ?_ ?_
        rotate_left
        · intro w'
          go_simp
          with_reducible rfl
        rotate_left
        · simp only [Act.put, List.setIfInBounds_toArray, List.set_cons_zero, List.set_cons_succ, i64_w, i32_w]
          rfl
        refine pure_ (i := 5) (N := some 43) (v := ?_) (a' := ?_) #[true, true, true, true, true, true, false, false, false, false, false, false, false] rfl rfl (any_of HT_.out (by kernel_rfl)) (fun _ _ _ h => h) (Or.inl ⟨by rfl, ?_⟩) ?_ ?_
        rotate_left
        · intro w'
          go_simp
          with_reducible rfl
        rotate_left
        · simp only [Act.put, List.setIfInBounds_toArray, List.set_cons_zero, List.set_cons_succ, i64_w, i32_w]
          rfl
        refine pure_ (i := 6) (N := some 44) (v := ?_) (a' := ?_) #[true, true, true, true, true, true, true, false, false, false, false, false, false] rfl rfl (any_of HT_.out (by kernel_rfl)) (fun _ _ _ h => h) (Or.inl ⟨by rfl, ?_⟩) ?_ ?_
        rotate_left
        · intro w'
          go_simp
          with_reducible rfl
        rotate_left
        · simp only [Act.put, List.setIfInBounds_toArray, List.set_cons_zero, List.set_cons_succ, i64_w, i32_w]
          rfl
        refine pure_ (i := 7) (N := some 45) (v := ?_) (a' := ?_) #[true, true, true, true, true, true, true, true, false, false, false, false, false] rfl rfl (any_of HT_.out (by kernel_rfl)) (fun _ _ _ h => h) (Or.inl ⟨by rfl, ?_⟩) ?_ ?_
        rotate_left
        · intro w'
          go_simp
          with_reducible rfl
        rotate_left
        · simp only [Act.put, List.setIfInBounds_toArray, List.set_cons_zero, List.set_cons_succ, i64_w, i32_w]
          rfl
        refine pure_ (i := 8) (N := some 46) (v := ?_) (a' := ?_) #[true, true, true, true, true, true, true, true, true, false, false, false, false] rfl rfl (any_of HT_.out (by kernel_rfl)) (fun _ _ _ h => h) (Or.inl ⟨by rfl, ?_⟩) ?_ ?_
        rotate_left
        · intro w'
          go_simp
          with_reducible rfl
        rotate_left
        · simp only [Act.put, List.setIfInBounds_toArray, List.set_cons_zero, List.set_cons_succ, i64_w, i32_w]
          rfl
        refine pure_ (i := 9) (N := some 47) (v := ?_) (a' := ?_) #[true, true, true, true, true, true, true, true, true, true, false, false, false] rfl rfl (any_of HT_.out (by kernel_rfl)) (fun _ _ _ h => h) (Or.inl ⟨by rfl, ?_⟩) ?_ ?_
        rotate_left
        · intro w'
          go_simp
          with_reducible rfl
        rotate_left
        · simp only [Act.put, List.setIfInBounds_toArray, List.set_cons_zero, List.set_cons_succ, i64_w, i32_w]
          rfl
        refine pure_ (i := 10) (N := some 48) (v := ?_) (a' := ?_) #[true, true, true, true, true, true, true, true, true, true, true, false, false] rfl rfl (any_of HT_.out (by kernel_rfl)) (fun _ _ _ h => h) (Or.inl ⟨by rfl, ?_⟩) ?_ ?_
        rotate_left
        · intro w'
          go_simp
          with_reducible rfl
        rotate_left
        · simp only [Act.put, List.setIfInBounds_toArray, List.set_cons_zero, List.set_cons_succ, i64_w, i32_w]
          rfl
        refine pure_ (i := 11) (N := some 49) (v := ?_) (a' := ?_) #[true, true, true, true, true, true, true, true, true, true, true, true, false] rfl rfl (any_of HT_.out (by kernel_rfl)) (fun _ _ _ h => h) (Or.inl ⟨by rfl, ?_⟩) ?_ ?_
        rotate_left
        · intro w'
          go_simp
          with_reducible rfl
        rotate_left
        · simp only [Act.put, List.setIfInBounds_toArray, List.set_cons_zero, List.set_cons_succ, i64_w, i32_w]
          rfl
        refine pure_ (i := 12) (N := some 9) (v := ?_) (a' := ?_) #[true, true, true, true, true, true, true, true, true, true, true, true, true] rfl rfl (any_of HT_.out (by kernel_rfl)) (fun _ _ _ h => h) (Or.inl ⟨by rfl, ?_⟩) ?_ ?_
        rotate_left
        · intro w'
          go_simp
          with_reducible rfl
        rotate_left
        · simp only [Act.put, List.setIfInBounds_toArray, List.set_cons_zero, List.set_cons_succ, i64_w, i32_w]
          rfl
        refine done_ (done_of HT_.out (by kernel_rfl)) ?_
        go_wp2_with (first | (go_at_call 9; (with_reducible refine (make_calls _).mono ?_); rintro e w21 ⟨gLT, cLT, rfl, ho_, hb⟩; have m_ := Aside0.mk (Kd.R_lower ho_ (below_size (by repeat (first | (with_reducible first | exact HB.out | apply below_alloc | apply pw_below_drewN | apply below_drew1) | exact HB.out)))); clear ho_; have nb_ := Aside0.mk (below_step (by repeat (first | (with_reducible first | exact HB.out | apply below_alloc | apply pw_below_drewN | apply below_drew1) | exact HB.out)) hb); clear HB; have HB := nb_; clear nb_; clear hb; have LT := m_; clear m_) | ((with_reducible refine gate_dst (N := 55) rfl ?_); (try (refine gate_guard (by rfl) ?_; dsimp only)); refine Kd.R_lit Kd.string _ 9 ?hg (N := 55) ?hd (xs := ([a0] : List ByteArray)) (inner := [.string (a0)]) (ok := fun _ => True) (okp := fun _ => True) ?hr ?hp (fun _ hk => hk) trivial (Below.refl _ _) (Nat.le_refl _) (by simp) ?_; (case hd => rfl); (case hg => rfl); (case hr => first | (go_simp; done) | (go_simp; rfl)); (case hp => exact (Reps.one (show Kd.M Kd.string _ _ _ (a0) [.string (a0)] from rfl) (Reps.none _ _))); intro v_ w22 ho_ hb hg_ hnew_; clear hg_ hnew_; have m_ := Aside0.mk (Kd.R_lower ho_ (below_size (by repeat (first | (with_reducible first | exact HB.out | apply below_alloc | apply pw_below_drewN | apply below_drew1) | exact HB.out)))); clear ho_; have n0_ := Aside0.mk (Kd.R_below (by (with_reducible repeat (first | apply Kd.R_alloc | apply Kd.R_drewN | apply Kd.R_drew)); exact LT.out) hb); have nb_ := Aside0.mk (below_step (by repeat (first | (with_reducible first | exact HB.out | apply below_alloc | apply pw_below_drewN | apply below_drew1) | exact HB.out)) hb); clear LT; clear HB; have LT := n0_; have HB := nb_; clear nb_ n0_; clear hb; have L1 := m_; clear m_; obtain ⟨AL1, cL1, e_⟩ := Kd.R_slice L1.out; subst e_) | (go_at_call 13; (with_reducible refine (sum_calls _ _ _ 256 _ _ [a0] _ ?side3 ?side4 HZ1.out (Or.inl rfl) ?side1 ?side2).mono ?_); (case side1 => exact (fun _ => C256 (Kd.R_reads' LT.out).2.2)); (case side2 => exact (Kd.R_reads' L1.out).2.2); (case side3 => rfl); (case side4 => simp); rintro e w23 ⟨rfl, hb⟩; have n0_ := Aside0.mk (Kd.R_below (by (with_reducible repeat (first | apply Kd.R_alloc | apply Kd.R_drewN | apply Kd.R_drew)); exact LT.out) hb); have n1_ := Aside0.mk (Kd.R_below (by (with_reducible repeat (first | apply Kd.R_alloc | apply Kd.R_drewN | apply Kd.R_drew)); exact L1.out) hb); have nb_ := Aside0.mk (below_step (by repeat (first | (with_reducible first | exact HB.out | apply below_alloc | apply pw_below_drewN | apply below_drew1) | exact HB.out)) hb); clear LT; clear L1; clear HB; have LT := n0_; have L1 := n1_; have HB := nb_; clear nb_ n0_ n1_; clear hb) | ((with_reducible refine gate_dst (N := 59) rfl ?_); (try (refine gate_guard (by rfl) ?_; dsimp only)); refine Kd.R_lit Kd.string _ 9 ?hg (N := 59) ?hd (xs := ([a0.extract 0 k.toNat ++ a2 ++ a0.extract k1.toNat a0.size] : List ByteArray)) (inner := [.string (a0.extract 0 k.toNat ++ a2 ++ a0.extract k1.toNat a0.size)]) (ok := fun _ => True) (okp := fun _ => True) ?hr ?hp (fun _ hk => hk) trivial (Below.refl _ _) (Nat.le_refl _) (by simp) ?_; (case hd => rfl); (case hg => rfl); (case hr => first | (go_simp; done) | (go_simp; rfl)); (case hp => exact (Reps.one (show Kd.M Kd.string _ _ _ (a0.extract 0 k.toNat ++ a2 ++ a0.extract k1.toNat a0.size) [.string (a0.extract 0 k.toNat ++ a2 ++ a0.extract k1.toNat a0.size)] from rfl) (Reps.none _ _))); intro v_ w24 ho_ hb hg_ hnew_; clear hg_ hnew_; have m_ := Aside0.mk (Kd.R_lower ho_ (below_size (by repeat (first | (with_reducible first | exact HB.out | apply below_alloc | apply pw_below_drewN | apply below_drew1) | exact HB.out)))); clear ho_; have n0_ := Aside0.mk (Kd.R_below (by (with_reducible repeat (first | apply Kd.R_alloc | apply Kd.R_drewN | apply Kd.R_drew)); exact LT.out) hb); have nb_ := Aside0.mk (below_step (by repeat (first | (with_reducible first | exact HB.out | apply below_alloc | apply pw_below_drewN | apply below_drew1) | exact HB.out)) hb); clear LT; clear HB; have LT := n0_; have HB := nb_; clear nb_ n0_; clear hb; have L2 := m_; clear m_; obtain ⟨AL2, cL2, e_⟩ := Kd.R_slice L2.out; subst e_) | (go_at_call 13; (with_reducible refine (sum_calls _ _ _ 256 _ _ [a0.extract 0 k.toNat ++ a2 ++ a0.extract k1.toNat a0.size] _ ?side3 ?side4 HZ2.out (Or.inl rfl) ?side1 ?side2).mono ?_); (case side1 => exact (fun _ => C256 (Kd.R_reads' LT.out).2.2)); (case side2 => exact (Kd.R_reads' L2.out).2.2); (case side3 => rfl); (case side4 => simp); rintro e w25 ⟨rfl, hb⟩; have n0_ := Aside0.mk (Kd.R_below (by (with_reducible repeat (first | apply Kd.R_alloc | apply Kd.R_drewN | apply Kd.R_drew)); exact LT.out) hb); have n1_ := Aside0.mk (Kd.R_below (by (with_reducible repeat (first | apply Kd.R_alloc | apply Kd.R_drewN | apply Kd.R_drew)); exact L2.out) hb); have nb_ := Aside0.mk (below_step (by repeat (first | (with_reducible first | exact HB.out | apply below_alloc | apply pw_below_drewN | apply below_drew1) | exact HB.out)) hb); clear LT; clear L2; clear HB; have LT := n0_; have L2 := n1_; have HB := nb_; clear nb_ n0_ n1_; clear hb))
        go_ret
        exact ⟨rfl, by repeat (first | (with_reducible first | exact HB.out | apply below_alloc | apply pw_below_drewN | apply below_drew1) | exact HB.out)⟩

end Go.Proofs.Ytdphbfohjgmkaaa.CHarm
