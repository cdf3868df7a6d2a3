/- AdlerParts holds: the Adler-32 sum of three parts is that of the whole, by Sum over the parts, by More and by Join. It is stated for all arguments, without a condition. -/
import Derived.Test.YtbiamfokicmkpaaMath
namespace Go.Proofs.Ytbiamfokicmkpaa.Parts
open Go.RowKit Go.Proofs.Ytbiamfokicmkpaa.PAdlerSums Go.Proofs.YtbiamfokicmkpaaW.PrintWords Go.Proofs.YtbiamfokicmkpaaW.PrintLast Go.Proofs.YtbiamfokicmkpaaW.PrintMore Go.Proofs.Ytbiamfokicmkpaa.AdMath
set_option linter.unusedVariables false
set_option linter.unusedSimpArgs false

theorem works_calls (w : World) : Calls Try.prog 7 #[] w fun e w' => e = .returned (.bool true) ∧ Below w.heap.size w w' := by
  obtain ⟨k, hk⟩ := works_run
  exact miradorlaw03_works.calls k true w hk
theorem sum_calls (A0 : Option Addr) (c0 n : Nat) (l : List ByteArray) (w : World) (hn : n = l.length) (hr : Kd.C Kd.string w A0 l.length l) (hc : n ≤ c0) (hl : l.length < 9223372036854775807 := by simp) :
    Calls Try.prog 8 #[.slice A0 n c0] w fun e w' => e = .returned (.int .i64 (S 1 l)) ∧ Below w.heap.size w w' := by
  subst hn
  obtain ⟨k, hk⟩ := Sum_run l hl
  exact adler_Sum.calls k A0 c0 l _ w hr hc hk
theorem more_calls (s : Int) (x : ByteArray) (w : World) : Calls Try.prog 9 #[.int .i64 s, .string x] w fun e w' => e = .returned (.int .i64 (A s x.data.toList)) ∧ Below w.heap.size w w' := by
  obtain ⟨k, hk⟩ := more_run s x
  exact adler_More.calls k s x _ w hk
/-- What Join comes to. -/
def J (a b n : Int) : Int := (adler_Join.f a b n).getD 0
theorem J_eq (a b n : Int) : adler_Join.f a b n = some (J a b n) := by
  unfold J adler_Join.f adler_parts.f
  rfl
theorem join_calls (a b n : Int) (w : World) : Calls Try.prog 11 #[.int .i64 a, .int .i64 b, .int .i64 n] w fun e w' => e = .returned (.int .i64 (J a b n)) ∧ Below w.heap.size w w' :=
  adler_Join.calls a b n _ w (J_eq a b n)
theorem ret_true {b : Bool} (h : b = true) : Ending.returned (.bool b) = .returned (.bool true) := by rw [h]

set_option maxHeartbeats 8000000 in
set_option maxRecDepth 100000 in
theorem parts_walk (H : ∀ (a b c : ByteArray), a.size ≤ 3000 → b.size ≤ 3000 → c.size ≤ 3000 → S 1 [a, b, c] = S 1 [a ++ b ++ c] ∧ A (A (S 1 [a]) b.data.toList) c.data.toList = S 1 [a ++ b ++ c] ∧ J (J (S 1 [a]) (S 1 [b]) b.size) (S 1 [c]) c.size = S 1 [a ++ b ++ c])
    (a0 a1 a2 : ByteArray) (w : World) :
    Calls Try.prog 6 #[.string a0, .string a1, .string a2] w fun e w' => e = .returned (.bool true) ∧ Below w.heap.size w w' := by
  have HB := Aside0.mk (Below.refl w.heap.size w)
  by_cases c0 : (a0.size : Int) > 3000
  · have pc0 : decide (3000 < (a0.size : Int)) = true := decide_eq_true c0
    have qc0 : decide (3000 < a0.size) = true := decide_eq_true (by omega)
    clear c0 H
    go_enter Try.func6, Try.ntmps6
    go_wp2_with (first | ((with_reducible refine gate_callee (f := 7) rfl ?_); refine goesL_ (some 11) rfl rfl Try.func7 (by kernel_rfl) rfl #[] rfl (by (try simp only [List.map_toArray, List.map_cons, List.map_nil]); first | done | rfl) ?_; (with_reducible refine (works_calls _).mono ?_); rintro e w1 ⟨rfl, hb⟩; refine ⟨_, rfl, ?_⟩; have nb_ := Aside0.mk (below_step (by repeat (first | (with_reducible first | exact HB.out | apply below_alloc | apply pw_below_drewN | apply below_drew1) | exact HB.out)) hb); clear HB; have HB := nb_; clear nb_; clear hb))
    go_ret
    exact ⟨rfl, by repeat (first | (with_reducible first | exact HB.out | apply below_alloc | apply pw_below_drewN | apply below_drew1) | exact HB.out)⟩
  · have pc0 : decide (3000 < (a0.size : Int)) = false := decide_eq_false c0
    have qc0 : decide (3000 < a0.size) = false := decide_eq_false (by omega)
    by_cases c1 : (a1.size : Int) > 3000
    · have pc1 : decide (3000 < (a1.size : Int)) = true := decide_eq_true c1
      have qc1 : decide (3000 < a1.size) = true := decide_eq_true (by omega)
      clear c1 c0 H
      go_enter Try.func6, Try.ntmps6
      go_wp2_with (first | ((with_reducible refine gate_callee (f := 7) rfl ?_); refine goesL_ (some 11) rfl rfl Try.func7 (by kernel_rfl) rfl #[] rfl (by (try simp only [List.map_toArray, List.map_cons, List.map_nil]); first | done | rfl) ?_; (with_reducible refine (works_calls _).mono ?_); rintro e w1 ⟨rfl, hb⟩; refine ⟨_, rfl, ?_⟩; have nb_ := Aside0.mk (below_step (by repeat (first | (with_reducible first | exact HB.out | apply below_alloc | apply pw_below_drewN | apply below_drew1) | exact HB.out)) hb); clear HB; have HB := nb_; clear nb_; clear hb))
      go_ret
      exact ⟨rfl, by repeat (first | (with_reducible first | exact HB.out | apply below_alloc | apply pw_below_drewN | apply below_drew1) | exact HB.out)⟩
    · have pc1 : decide (3000 < (a1.size : Int)) = false := decide_eq_false c1
      have qc1 : decide (3000 < a1.size) = false := decide_eq_false (by omega)
      by_cases c2 : (a2.size : Int) > 3000
      · have pc2 : decide (3000 < (a2.size : Int)) = true := decide_eq_true c2
        have qc2 : decide (3000 < a2.size) = true := decide_eq_true (by omega)
        clear c2 c0 c1 H
        go_enter Try.func6, Try.ntmps6
        go_wp2_with (first | ((with_reducible refine gate_callee (f := 7) rfl ?_); refine goesL_ (some 11) rfl rfl Try.func7 (by kernel_rfl) rfl #[] rfl (by (try simp only [List.map_toArray, List.map_cons, List.map_nil]); first | done | rfl) ?_; (with_reducible refine (works_calls _).mono ?_); rintro e w1 ⟨rfl, hb⟩; refine ⟨_, rfl, ?_⟩; have nb_ := Aside0.mk (below_step (by repeat (first | (with_reducible first | exact HB.out | apply below_alloc | apply pw_below_drewN | apply below_drew1) | exact HB.out)) hb); clear HB; have HB := nb_; clear nb_; clear hb))
        go_ret
        exact ⟨rfl, by repeat (first | (with_reducible first | exact HB.out | apply below_alloc | apply pw_below_drewN | apply below_drew1) | exact HB.out)⟩
      · have pc2 : decide (3000 < (a2.size : Int)) = false := decide_eq_false c2
        have qc2 : decide (3000 < a2.size) = false := decide_eq_false (by omega)
        have HF := Aside0.mk (H a0 a1 a2 (by omega) (by omega) (by omega))
        have he1 : (S 1 [a0, a1, a2] == S 1 [a0 ++ a1 ++ a2]) = true := beq_iff_eq.mpr HF.out.1
        have he2 : (A (A (S 1 [a0]) a1.data.toList) a2.data.toList == S 1 [a0 ++ a1 ++ a2]) = true := beq_iff_eq.mpr HF.out.2.1
        have hs1 : (9223372036854775807 < a0.size + a1.size) = False := eq_false (by omega)
        have hs2 : (9223372036854775807 < a0.size + a1.size + a2.size) = False := eq_false (by omega)
        clear c0 c1 c2 H
        go_enter Try.func6, Try.ntmps6
        go_wp2_with (first | ((with_reducible refine gate_callee (f := 7) rfl ?_); refine goesL_ (some 11) rfl rfl Try.func7 (by kernel_rfl) rfl #[] rfl (by (try simp only [List.map_toArray, List.map_cons, List.map_nil]); first | done | rfl) ?_; (with_reducible refine (works_calls _).mono ?_); rintro e w1 ⟨rfl, hb⟩; refine ⟨_, rfl, ?_⟩; have nb_ := Aside0.mk (below_step (by repeat (first | (with_reducible first | exact HB.out | apply below_alloc | apply pw_below_drewN | apply below_drew1) | exact HB.out)) hb); clear HB; have HB := nb_; clear nb_; clear hb) | ((with_reducible refine gate_dst (N := 33) rfl ?_); (try (refine gate_guard (by rfl) ?_; dsimp only)); refine Kd.R_lit Kd.string _ 9 ?hg (N := 33) ?hd (xs := ([a0 ++ a1 ++ a2] : List ByteArray)) (inner := [.string (a0 ++ a1 ++ a2)]) (ok := fun _ => True) (okp := fun _ => True) ?hr ?hp (fun _ hk => hk) trivial (Below.refl _ _) (Nat.le_refl _) (by simp) ?_; (case hd => rfl); (case hg => rfl); (case hr => first | (go_simp; done) | (go_simp; rfl)); (case hp => exact (Reps.one (show Kd.M Kd.string _ _ _ (a0 ++ a1 ++ a2) [.string (a0 ++ a1 ++ a2)] from rfl) (Reps.none _ _))); intro v_ w2 ho_ hb hg_ hnew_; clear hg_ hnew_; have m_ := Aside0.mk (Kd.R_lower ho_ (below_size (by repeat (first | (with_reducible first | exact HB.out | apply below_alloc | apply pw_below_drewN | apply below_drew1) | exact HB.out)))); clear ho_; have nb_ := Aside0.mk (below_step (by repeat (first | (with_reducible first | exact HB.out | apply below_alloc | apply pw_below_drewN | apply below_drew1) | exact HB.out)) hb); clear HB; have HB := nb_; clear nb_; clear hb; have L1 := m_; clear m_; obtain ⟨AL1, cL1, e_⟩ := Kd.R_slice L1.out; subst e_) | ((with_reducible refine gate_callee (f := 8) rfl ?_); refine goesL_ (some 34) rfl rfl Try.func8 (by kernel_rfl) rfl #[.slice AL1 1 cL1] rfl (by (try simp only [List.map_toArray, List.map_cons, List.map_nil]); first | done | rfl) ?_; (with_reducible refine (sum_calls _ _ _ [a0 ++ a1 ++ a2] _ ?side3 ?side1 ?side2).mono ?_); (case side1 => repeat (first | exact (Kd.R_reads' L1.out).2.2 | (with_reducible refine Kd.C_alloc ?_ _) | (with_reducible refine Kd.C_drewN ?_ _) | (with_reducible refine Kd.C_drew ?_))); (case side2 => exact (Kd.R_reads' L1.out).2.1); (case side3 => rfl); rintro e w3 ⟨rfl, hb⟩; refine ⟨_, rfl, ?_⟩; have n0_ := Aside0.mk (Kd.R_below (by (with_reducible repeat (first | apply Kd.R_alloc | apply Kd.R_drewN | apply Kd.R_drew)); exact L1.out) hb); have nb_ := Aside0.mk (below_step (by repeat (first | (with_reducible first | exact HB.out | apply below_alloc | apply pw_below_drewN | apply below_drew1) | exact HB.out)) hb); clear L1; clear HB; have L1 := n0_; have HB := nb_; clear nb_ n0_; clear hb) | ((with_reducible refine gate_dst (N := 36) rfl ?_); (try (refine gate_guard (by rfl) ?_; dsimp only)); refine Kd.R_lit Kd.string _ 9 ?hg (N := 36) ?hd (xs := ([a0] : List ByteArray)) (inner := [.string (a0)]) (ok := fun _ => True) (okp := fun _ => True) ?hr ?hp (fun _ hk => hk) trivial (Below.refl _ _) (Nat.le_refl _) (by simp) ?_; (case hd => rfl); (case hg => rfl); (case hr => first | (go_simp; done) | (go_simp; rfl)); (case hp => exact (Reps.one (show Kd.M Kd.string _ _ _ (a0) [.string (a0)] from rfl) (Reps.none _ _))); intro v_ w4 ho_ hb hg_ hnew_; clear hg_ hnew_; have m_ := Aside0.mk (Kd.R_lower ho_ (below_size (by repeat (first | (with_reducible first | exact HB.out | apply below_alloc | apply pw_below_drewN | apply below_drew1) | exact HB.out)))); clear ho_; have nb_ := Aside0.mk (below_step (by repeat (first | (with_reducible first | exact HB.out | apply below_alloc | apply pw_below_drewN | apply below_drew1) | exact HB.out)) hb); clear HB; have HB := nb_; clear nb_; clear hb; have L2 := m_; clear m_; obtain ⟨AL2, cL2, e_⟩ := Kd.R_slice L2.out; subst e_) | ((with_reducible refine gate_callee (f := 8) rfl ?_); refine goesL_ (some 37) rfl rfl Try.func8 (by kernel_rfl) rfl #[.slice AL2 1 cL2] rfl (by (try simp only [List.map_toArray, List.map_cons, List.map_nil]); first | done | rfl) ?_; (with_reducible refine (sum_calls _ _ _ [a0] _ ?side3 ?side1 ?side2).mono ?_); (case side1 => repeat (first | exact (Kd.R_reads' L2.out).2.2 | (with_reducible refine Kd.C_alloc ?_ _) | (with_reducible refine Kd.C_drewN ?_ _) | (with_reducible refine Kd.C_drew ?_))); (case side2 => exact (Kd.R_reads' L2.out).2.1); (case side3 => rfl); rintro e w5 ⟨rfl, hb⟩; refine ⟨_, rfl, ?_⟩; have n0_ := Aside0.mk (Kd.R_below (by (with_reducible repeat (first | apply Kd.R_alloc | apply Kd.R_drewN | apply Kd.R_drew)); exact L2.out) hb); have nb_ := Aside0.mk (below_step (by repeat (first | (with_reducible first | exact HB.out | apply below_alloc | apply pw_below_drewN | apply below_drew1) | exact HB.out)) hb); clear L2; clear HB; have L2 := n0_; have HB := nb_; clear nb_ n0_; clear hb) | ((with_reducible refine gate_dst (N := 39) rfl ?_); (try (refine gate_guard (by rfl) ?_; dsimp only)); refine Kd.R_lit Kd.string _ 9 ?hg (N := 39) ?hd (xs := ([a1] : List ByteArray)) (inner := [.string (a1)]) (ok := fun _ => True) (okp := fun _ => True) ?hr ?hp (fun _ hk => hk) trivial (Below.refl _ _) (Nat.le_refl _) (by simp) ?_; (case hd => rfl); (case hg => rfl); (case hr => first | (go_simp; done) | (go_simp; rfl)); (case hp => exact (Reps.one (show Kd.M Kd.string _ _ _ (a1) [.string (a1)] from rfl) (Reps.none _ _))); intro v_ w6 ho_ hb hg_ hnew_; clear hg_ hnew_; have m_ := Aside0.mk (Kd.R_lower ho_ (below_size (by repeat (first | (with_reducible first | exact HB.out | apply below_alloc | apply pw_below_drewN | apply below_drew1) | exact HB.out)))); clear ho_; have nb_ := Aside0.mk (below_step (by repeat (first | (with_reducible first | exact HB.out | apply below_alloc | apply pw_below_drewN | apply below_drew1) | exact HB.out)) hb); clear HB; have HB := nb_; clear nb_; clear hb; have L3 := m_; clear m_; obtain ⟨AL3, cL3, e_⟩ := Kd.R_slice L3.out; subst e_) | ((with_reducible refine gate_callee (f := 8) rfl ?_); refine goesL_ (some 40) rfl rfl Try.func8 (by kernel_rfl) rfl #[.slice AL3 1 cL3] rfl (by (try simp only [List.map_toArray, List.map_cons, List.map_nil]); first | done | rfl) ?_; (with_reducible refine (sum_calls _ _ _ [a1] _ ?side3 ?side1 ?side2).mono ?_); (case side1 => repeat (first | exact (Kd.R_reads' L3.out).2.2 | (with_reducible refine Kd.C_alloc ?_ _) | (with_reducible refine Kd.C_drewN ?_ _) | (with_reducible refine Kd.C_drew ?_))); (case side2 => exact (Kd.R_reads' L3.out).2.1); (case side3 => rfl); rintro e w7 ⟨rfl, hb⟩; refine ⟨_, rfl, ?_⟩; have n0_ := Aside0.mk (Kd.R_below (by (with_reducible repeat (first | apply Kd.R_alloc | apply Kd.R_drewN | apply Kd.R_drew)); exact L3.out) hb); have nb_ := Aside0.mk (below_step (by repeat (first | (with_reducible first | exact HB.out | apply below_alloc | apply pw_below_drewN | apply below_drew1) | exact HB.out)) hb); clear L3; clear HB; have L3 := n0_; have HB := nb_; clear nb_ n0_; clear hb) | ((with_reducible refine gate_dst (N := 46) rfl ?_); (try (refine gate_guard (by rfl) ?_; dsimp only)); refine Kd.R_lit Kd.string _ 9 ?hg (N := 46) ?hd (xs := ([a0, a1, a2] : List ByteArray)) (inner := [.string (a0), .string (a1), .string (a2)]) (ok := fun _ => True) (okp := fun _ => True) ?hr ?hp (fun _ hk => hk) trivial (Below.refl _ _) (Nat.le_refl _) (by simp) ?_; (case hd => rfl); (case hg => rfl); (case hr => first | (go_simp; done) | (go_simp; rfl)); (case hp => exact (Reps.one (show Kd.M Kd.string _ _ _ (a0) [.string (a0)] from rfl) (Reps.one (show Kd.M Kd.string _ _ _ (a1) [.string (a1)] from rfl) (Reps.one (show Kd.M Kd.string _ _ _ (a2) [.string (a2)] from rfl) (Reps.none _ _))))); intro v_ w8 ho_ hb hg_ hnew_; clear hg_ hnew_; have m_ := Aside0.mk (Kd.R_lower ho_ (below_size (by repeat (first | (with_reducible first | exact HB.out | apply below_alloc | apply pw_below_drewN | apply below_drew1) | exact HB.out)))); clear ho_; have nb_ := Aside0.mk (below_step (by repeat (first | (with_reducible first | exact HB.out | apply below_alloc | apply pw_below_drewN | apply below_drew1) | exact HB.out)) hb); clear HB; have HB := nb_; clear nb_; clear hb; have L4 := m_; clear m_; obtain ⟨AL4, cL4, e_⟩ := Kd.R_slice L4.out; subst e_) | (go_at_call 8; (with_reducible refine (sum_calls _ _ _ [a0, a1, a2] _ ?side3 ?side1 ?side2).mono ?_); (case side1 => repeat (first | exact (Kd.R_reads' L4.out).2.2 | (with_reducible refine Kd.C_alloc ?_ _) | (with_reducible refine Kd.C_drewN ?_ _) | (with_reducible refine Kd.C_drew ?_))); (case side2 => exact (Kd.R_reads' L4.out).2.1); (case side3 => rfl); rintro e w9 ⟨rfl, hb⟩; have n0_ := Aside0.mk (Kd.R_below (by (with_reducible repeat (first | apply Kd.R_alloc | apply Kd.R_drewN | apply Kd.R_drew)); exact L4.out) hb); have nb_ := Aside0.mk (below_step (by repeat (first | (with_reducible first | exact HB.out | apply below_alloc | apply pw_below_drewN | apply below_drew1) | exact HB.out)) hb); clear L4; clear HB; have L4 := n0_; have HB := nb_; clear nb_ n0_; clear hb) | (go_at_call 9; (with_reducible refine (more_calls _ a1 _).mono ?_); rintro e w10 ⟨rfl, hb⟩; have nb_ := Aside0.mk (below_step (by repeat (first | (with_reducible first | exact HB.out | apply below_alloc | apply pw_below_drewN | apply below_drew1) | exact HB.out)) hb); clear HB; have HB := nb_; clear nb_; clear hb) | (go_at_call 9; (with_reducible refine (more_calls _ a2 _).mono ?_); rintro e w11 ⟨rfl, hb⟩; have nb_ := Aside0.mk (below_step (by repeat (first | (with_reducible first | exact HB.out | apply below_alloc | apply pw_below_drewN | apply below_drew1) | exact HB.out)) hb); clear HB; have HB := nb_; clear nb_; clear hb) | (go_at_call 11; (with_reducible refine (join_calls _ _ _ _).mono ?_); rintro e w12 ⟨rfl, hb⟩; have nb_ := Aside0.mk (below_step (by repeat (first | (with_reducible first | exact HB.out | apply below_alloc | apply pw_below_drewN | apply below_drew1) | exact HB.out)) hb); clear HB; have HB := nb_; clear nb_; clear hb) | ((with_reducible refine gate_dst (N := 67) rfl ?_); (try (refine gate_guard (by rfl) ?_; dsimp only)); refine Kd.R_lit Kd.string _ 9 ?hg (N := 67) ?hd (xs := ([a2] : List ByteArray)) (inner := [.string (a2)]) (ok := fun _ => True) (okp := fun _ => True) ?hr ?hp (fun _ hk => hk) trivial (Below.refl _ _) (Nat.le_refl _) (by simp) ?_; (case hd => rfl); (case hg => rfl); (case hr => first | (go_simp; done) | (go_simp; rfl)); (case hp => exact (Reps.one (show Kd.M Kd.string _ _ _ (a2) [.string (a2)] from rfl) (Reps.none _ _))); intro v_ w13 ho_ hb hg_ hnew_; clear hg_ hnew_; have m_ := Aside0.mk (Kd.R_lower ho_ (below_size (by repeat (first | (with_reducible first | exact HB.out | apply below_alloc | apply pw_below_drewN | apply below_drew1) | exact HB.out)))); clear ho_; have nb_ := Aside0.mk (below_step (by repeat (first | (with_reducible first | exact HB.out | apply below_alloc | apply pw_below_drewN | apply below_drew1) | exact HB.out)) hb); clear HB; have HB := nb_; clear nb_; clear hb; have L5 := m_; clear m_; obtain ⟨AL5, cL5, e_⟩ := Kd.R_slice L5.out; subst e_) | (go_at_call 8; (with_reducible refine (sum_calls _ _ _ [a2] _ ?side3 ?side1 ?side2).mono ?_); (case side1 => repeat (first | exact (Kd.R_reads' L5.out).2.2 | (with_reducible refine Kd.C_alloc ?_ _) | (with_reducible refine Kd.C_drewN ?_ _) | (with_reducible refine Kd.C_drew ?_))); (case side2 => exact (Kd.R_reads' L5.out).2.1); (case side3 => rfl); rintro e w14 ⟨rfl, hb⟩; have n0_ := Aside0.mk (Kd.R_below (by (with_reducible repeat (first | apply Kd.R_alloc | apply Kd.R_drewN | apply Kd.R_drew)); exact L5.out) hb); have nb_ := Aside0.mk (below_step (by repeat (first | (with_reducible first | exact HB.out | apply below_alloc | apply pw_below_drewN | apply below_drew1) | exact HB.out)) hb); clear L5; clear HB; have L5 := n0_; have HB := nb_; clear nb_ n0_; clear hb))
        go_ret
        exact ⟨ret_true (beq_iff_eq.mpr HF.out.2.2), by repeat (first | (with_reducible first | exact HB.out | apply below_alloc | apply pw_below_drewN | apply below_drew1) | exact HB.out)⟩

theorem mx_size (n : Nat) : mx (n : Int) 0 = (n : Int) := by
  unfold mx
  rw [if_neg (by omega)]

theorem A_one (l : List UInt8) : A 1 l = (F l 1 0).2 * 65536 + (F l 1 0).1 := rfl

/-- From two sums on: the first grows by what the bytes' own first sum is less one; the second by their own second sum and so often by the first less one. -/
theorem F_shift (l : List UInt8) (a b : Int) (h0 : 0 ≤ a) (h1 : a < 65521) (h2 : 0 ≤ b) (h3 : b < 65521) :
    F l a b = (((F l 1 0).1 + a - 1) % 65521, ((F l 1 0).2 + b + (l.length : Int) * (a - 1)) % 65521) := by
  have key : ∀ (l : List UInt8) (c d a b : Int), (∀ x y : Int, (x = c - a) → (y = d - b) → (G l c d).1 = (G l a b).1 + x ∧ (G l c d).2 = (G l a b).2 + y + (l.length : Int) * x) := by
    intro l
    induction l with
    | nil =>
      intro c d a b x y hx hy
      simp only [G, List.length_nil]
      omega
    | cons u l ih =>
      intro c d a b x y hx hy
      have h := ih (c + (u.toNat : Int)) (d + (c + (u.toNat : Int))) (a + (u.toNat : Int)) (b + (a + (u.toNat : Int))) x (y + x) (by omega) (by omega)
      refine ⟨h.1, ?_⟩
      have e : (((u :: l).length : Nat) : Int) * x = (l.length : Int) * x + x := by
        rw [List.length_cons, Int.natCast_succ, Int.add_mul, Int.one_mul]
      have h2 : (G (u :: l) c d).2 = (G l (c + (u.toNat : Int)) (d + (c + (u.toNat : Int)))).2 := rfl
      have h3 : (G (u :: l) a b).2 = (G l (a + (u.toNat : Int)) (b + (a + (u.toNat : Int)))).2 := rfl
      rw [h2, h3, h.2, e]
      omega
  have e1 : F l a b = ((G l a b).1 % 65521, (G l a b).2 % 65521) := by
    rw [← F_mod, Int.emod_eq_of_lt h0 h1, Int.emod_eq_of_lt h2 h3]
  have e2 : F l 1 0 = ((G l 1 0).1 % 65521, (G l 1 0).2 % 65521) := by
    rw [← F_mod]
    rfl
  have k := key l a b 1 0 (a - 1) b rfl (by omega)
  rw [e1, e2, k.1, k.2]
  generalize (l.length : Int) * (a - 1) = p
  simp only [Prod.mk.injEq]
  omega

theorem J_spec (l m : List UInt8) (hm : m.length ≤ 6000) : J (A 1 l) (A 1 m) (m.length : Int) = A 1 (l ++ m) := by
  have hl := A_parts 1 l
  have hm2 := A_parts 1 m
  have e0 : (1 : Int) % 65536 = 1 := rfl
  have e1 : (1 : Int) / 65536 % 65536 = 0 := rfl
  rw [e0, e1] at hl hm2
  have bl := F_low l 1 0 (by omega) (by omega) (by omega) (by omega)
  have bm := F_low m 1 0 (by omega) (by omega) (by omega) (by omega)
  have hs := F_shift m (F l 1 0).1 (F l 1 0).2 bl.1 bl.2.1 bl.2.2.1 bl.2.2.2
  rw [A_one (l ++ m), F_append, hs]
  unfold J adler_Join.f adler_parts.f
  simp only [Option.bind_some, Option.getD_some, and16, hl.1, hl.2, hm2.1, hm2.2, mx_size]
  generalize F l 1 0 = p at *
  generalize F m 1 0 = q at *
  obtain ⟨la, ha⟩ := p
  obtain ⟨lb, hb⟩ := q
  simp only at *
  clear hs hl hm2 e0 e1
  have hk : (m.length : Int) % 65521 = m.length := by omega
  rw [hk]
  have w1 : wrap64 (wrap64 (la + 65521) - 1) = la + 65520 := by unfold wrap64; omega
  rw [w1]
  clear w1 hk
  have hp : 0 ≤ (m.length : Int) * (la + 65520) ∧ (m.length : Int) * (la + 65520) ≤ 6000 * 131041 := ⟨Int.mul_nonneg (by omega) (by omega), Int.mul_le_mul (by omega) (by omega) (by omega) (by omega)⟩
  have hd : (m.length : Int) * (la + 65520) = (m.length : Int) * (la - 1) + (m.length : Int) * 65521 := by rw [← Int.mul_add]; congr 1; omega
  generalize (m.length : Int) * (la + 65520) = x at *
  generalize (m.length : Int) * (la - 1) = y at *
  have w2 : wrap64 (wrap64 (ha + hb) + wrap64 x) = ha + hb + x := by unfold wrap64; omega
  have w3 : wrap64 ((la + 65520) + lb) = la + 65520 + lb := by clear w2; unfold wrap64; omega
  rw [w2, w3, Int.tmod_eq_emod_of_nonneg (by omega), Int.tmod_eq_emod_of_nonneg (by omega)]
  clear w2 w3
  rw [or16 _ _ (by omega) (by omega) (by omega) (by omega)]
  omega

theorem append_list (a b : ByteArray) : (a ++ b).data.toList = a.data.toList ++ b.data.toList := by
  rw [ByteArray.data_append, Array.toList_append]

theorem parts_law (a b c : ByteArray) (_h1 : a.size ≤ 3000) (h2 : b.size ≤ 3000) (h3 : c.size ≤ 3000) : S 1 [a, b, c] = S 1 [a ++ b ++ c] ∧ A (A (S 1 [a]) b.data.toList) c.data.toList = S 1 [a ++ b ++ c] ∧ J (J (S 1 [a]) (S 1 [b]) b.size) (S 1 [c]) c.size = S 1 [a ++ b ++ c] := by
  have e : S 1 [a ++ b ++ c] = A 1 (a.data.toList ++ b.data.toList ++ c.data.toList) := by
    show A 1 (a ++ b ++ c).data.toList = _
    rw [append_list, append_list]
  refine ⟨?_, ?_, ?_⟩
  · show A (A (A 1 a.data.toList) b.data.toList) c.data.toList = _
    rw [A_append, A_append, e, List.append_assoc]
  · show A (A (A 1 a.data.toList) b.data.toList) c.data.toList = _
    rw [A_append, A_append, e, List.append_assoc]
  · show J (J (A 1 a.data.toList) (A 1 b.data.toList) b.size) (A 1 c.data.toList) c.size = _
    rw [← size_eq b, ← size_eq c, J_spec _ _ (by rw [size_eq]; omega), J_spec _ _ (by rw [size_eq]; omega), e]

theorem walk (a0 a1 a2 : ByteArray) (w : World) :
    Calls Try.prog 6 #[.string a0, .string a1, .string a2] w fun e w' => e = .returned (.bool true) ∧ Below w.heap.size w w' := parts_walk parts_law a0 a1 a2 w

end Go.Proofs.Ytbiamfokicmkpaa.Parts
