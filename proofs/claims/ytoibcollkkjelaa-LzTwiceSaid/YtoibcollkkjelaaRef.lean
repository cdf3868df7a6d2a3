/- The document's Valid and Tail of layer 6 answer what the plain functions validB and tail say. -/
import Derived.Test.YtoibcollkkjelaaOuts
import Derived.Test.YtoibcollkkjelaaSpec
namespace Go.Proofs.Ytoibcollkkjelaa.Ref
open Go.RowKit Go.Proofs.Ytoibcollkkjelaa.PLzGlue Go.Proofs.YtoibcollkkjelaaW.PrintWords Go.Proofs.YtoibcollkkjelaaW.PrintLast Go.Proofs.YtoibcollkkjelaaW.PrintMore Go.Proofs.Ytoibcollkkjelaa.Outs Go.Proofs.Ytoibcollkkjelaa.Spec
set_option linter.unusedVariables false
set_option linter.unusedSimpArgs false

theorem ret_bool {a b : Bool} (h : a = b) : Ending.returned (.bool a) = .returned (.bool b) := by rw [h]

set_option maxHeartbeats 8000000 in
theorem valid_calls (t : S30) (w : World) : Calls Try.prog 15 #[.agg #[.int .i64 t.f0, .int .i64 t.f1, .int .i64 t.f2]] w fun e w' => e = .returned (.bool (validB t)) ∧ Below w.heap.size w w' := by
  obtain ⟨a, b, c⟩ := t
  have hu30 := Try.underlying30
  obtain ⟨v, hv⟩ : ∃ v, validB ⟨a, b, c⟩ = v := ⟨_, rfl⟩
  rw [hv]
  unfold validB at hv
  simp only at hv
  by_cases h1 : b = 0
  · rw [if_pos h1] at hv
    have d1 : (b == 0) = true := beq_iff_eq.mpr h1
    by_cases h2 : c = 0
    · have d2 : (c == 0) = true := beq_iff_eq.mpr h2
      by_cases h3 : 0 ≤ a
      · have d3 : decide (0 ≤ a) = true := decide_eq_true h3
        have HV := Aside0.mk (show decide (a ≤ 255) = v by simpa [h2, h3] using hv)
        clear h1 h2 h3 hv
        go_enter Try.func15, Try.ntmps15
        go_wp2
        go_ret
        exact ⟨ret_bool HV.out, (Below.refl _ _).alloc (Nat.le_refl _) _⟩
      · have d3 : decide (0 ≤ a) = false := decide_eq_false h3
        have HV := Aside0.mk (show false = v by simpa [h2, h3] using hv)
        clear h1 h2 h3 hv
        go_enter Try.func15, Try.ntmps15
        go_wp2
        go_ret
        exact ⟨ret_bool HV.out, (Below.refl _ _).alloc (Nat.le_refl _) _⟩
    · have d2 : (c == 0) = false := beq_eq_false_iff_ne.mpr h2
      have HV := Aside0.mk (show false = v by simpa [h2] using hv)
      clear h1 h2 hv
      go_enter Try.func15, Try.ntmps15
      go_wp2
      go_ret
      exact ⟨ret_bool HV.out, (Below.refl _ _).alloc (Nat.le_refl _) _⟩
  · rw [if_neg h1] at hv
    have d1 : (b == 0) = false := beq_eq_false_iff_ne.mpr h1
    by_cases h2 : a = 0
    · have d2 : (a == 0) = true := beq_iff_eq.mpr h2
      by_cases h3 : 3 ≤ b
      · have d3 : decide (3 ≤ b) = true := decide_eq_true h3
        by_cases h4 : b ≤ 258
        · have d4 : decide (b ≤ 258) = true := decide_eq_true h4
          by_cases h5 : 1 ≤ c
          · have d5 : decide (1 ≤ c) = true := decide_eq_true h5
            have HV := Aside0.mk (show decide (c ≤ 32768) = v by simpa [h2, h3, h4, h5] using hv)
            clear h1 h2 h3 h4 h5 hv
            go_enter Try.func15, Try.ntmps15
            go_wp2
            go_ret
            exact ⟨ret_bool HV.out, (Below.refl _ _).alloc (Nat.le_refl _) _⟩
          · have d5 : decide (1 ≤ c) = false := decide_eq_false h5
            have HV := Aside0.mk (show false = v by simpa [h2, h3, h4, h5] using hv)
            clear h1 h2 h3 h4 h5 hv
            go_enter Try.func15, Try.ntmps15
            go_wp2
            go_ret
            exact ⟨ret_bool HV.out, (Below.refl _ _).alloc (Nat.le_refl _) _⟩
        · have d4 : decide (b ≤ 258) = false := decide_eq_false h4
          have HV := Aside0.mk (show false = v by simpa [h2, h3, h4] using hv)
          clear h1 h2 h3 h4 hv
          go_enter Try.func15, Try.ntmps15
          go_wp2
          go_ret
          exact ⟨ret_bool HV.out, (Below.refl _ _).alloc (Nat.le_refl _) _⟩
      · have d3 : decide (3 ≤ b) = false := decide_eq_false h3
        have HV := Aside0.mk (show false = v by simpa [h2, h3] using hv)
        clear h1 h2 h3 hv
        go_enter Try.func15, Try.ntmps15
        go_wp2
        go_ret
        exact ⟨ret_bool HV.out, (Below.refl _ _).alloc (Nat.le_refl _) _⟩
    · have d2 : (a == 0) = false := beq_eq_false_iff_ne.mpr h2
      have HV := Aside0.mk (show false = v by simpa [h2] using hv)
      clear h1 h2 hv
      go_enter Try.func15, Try.ntmps15
      go_wp2
      go_ret
      exact ⟨ret_bool HV.out, (Below.refl _ _).alloc (Nat.le_refl _) _⟩

theorem ret_string {a b : ByteArray} (h : a = b) : Ending.returned (.string a) = .returned (.string b) := by rw [h]
theorem tail_calls (s : ByteArray) (w : World) (hs : s.size ≤ 140737488355328) : Calls Try.prog 17 #[.string s] w fun e w' => e = .returned (.string (tail s)) ∧ w = w' := by
  by_cases h : 32768 < s.size
  · have d0 : decide (32768 < (s.size : Int)) = true := decide_eq_true (by omega)
    have d1 : decide (32768 < s.size) = true := decide_eq_true h
    obtain ⟨q, hq⟩ : ∃ q : Int, IntKind.i64.wrap ((s.size : Int) - 32768) = q := ⟨_, rfl⟩
    have hq2 : q = (s.size : Int) - 32768 := by rw [← hq, IntKind.wrap_i64]; omega
    have hqw : wrap64 ((s.size : Int) - 32768) = q := (i64_w _).symm.trans hq
    have q2 : (0 ≤ q) = True := eq_true (by omega)
    have q3 : (q ≤ (s.size : Int)) = True := eq_true (by omega)
    have e : q.toNat = s.size - 32768 := by omega
    have HE := Aside0.mk (show s.extract q.toNat s.size = tail s by unfold tail; rw [e])
    clear e
    clear hq2 h hs
    go_enter Try.func17, Try.ntmps17
    go_wp2
    go_ret
    exact ⟨ret_string HE.out, rfl⟩
  · have d0 : decide (32768 < (s.size : Int)) = false := decide_eq_false (by omega)
    have d1 : decide (32768 < s.size) = false := decide_eq_false h
    have HE := Aside0.mk (tail_short s (by omega)).symm
    clear h hs
    go_enter Try.func17, Try.ntmps17
    go_wp2
    go_ret
    exact ⟨ret_string HE.out, rfl⟩

end Go.Proofs.Ytoibcollkkjelaa.Ref
