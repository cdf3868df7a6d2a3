/- AdlerZeros holds: bytes of nought leave the first sum of Adler-32, and each adds it to the second one. It is stated for all arguments, without a condition. -/
import Derived.Test.YtbiamfokicmkpaaMath
namespace Go.Proofs.Ytbiamfokicmkpaa.Zeros
open Go.RowKit Go.Proofs.Ytbiamfokicmkpaa.PAdlerSums Go.Proofs.YtbiamfokicmkpaaW.PrintWords Go.Proofs.YtbiamfokicmkpaaW.PrintLast Go.Proofs.YtbiamfokicmkpaaW.PrintMore Go.Proofs.Ytbiamfokicmkpaa.AdMath
set_option linter.unusedVariables false
set_option linter.unusedSimpArgs false

theorem info5 : (Try.prog.info? 5).map (fun i => (i.zero, i.size, i.bytes)) = some (some (.int .u8 0), 1, 1) := by kernel_rfl
theorem works_calls (w : World) : Calls Try.prog 7 #[] w fun e w' => e = .returned (.bool true) ∧ Below w.heap.size w w' := by
  obtain ⟨k, hk⟩ := works_run
  exact miradorlaw03_works.calls k true w hk
theorem sum_calls (A0 : Option Addr) (c0 n : Nat) (l : List ByteArray) (w : World) (hn : n = l.length) (hr : Kd.C Kd.string w A0 l.length l) (hc : n ≤ c0) (hl : l.length < 9223372036854775807 := by simp) :
    Calls Try.prog 8 #[.slice A0 n c0] w fun e w' => e = .returned (.int .i64 (S 1 l)) ∧ Below w.heap.size w w' := by
  subst hn
  obtain ⟨k, hk⟩ := Sum_run l hl
  exact adler_Sum.calls k A0 c0 l _ w hr hc hk
theorem ret_true {b : Bool} (h : b = true) : Ending.returned (.bool b) = .returned (.bool true) := by rw [h]

set_option maxHeartbeats 8000000 in
set_option maxRecDepth 100000 in
theorem zeros_walk (H : ∀ (s : ByteArray) (n : Int), 0 ≤ n → n ≤ 1000 → S 1 [s, strOfNums (List.replicate n.toNat 0)] = Go.bits .or .i64 (wrap64 ((Int.tmod (wrap64 ((S 1 [s] / 65536) + (wrap64 (n * (Go.bits .and .i64 (S 1 [s]) 65535))))) 65521) * 65536)) (Go.bits .and .i64 (S 1 [s]) 65535))
    (a0 : ByteArray) (a1 : Int) (w : World) (w0 : a0.size ≤ 140737488351232) :
    Calls Try.prog 4 #[.string a0, .int .i64 a1] w fun e w' => e = .returned (.bool true) ∧ Below w.heap.size w w' := by
  have HB := Aside0.mk (Below.refl w.heap.size w)
  by_cases c1 : (a0.size : Int) > 3000
  · have b0 : decide (3000 < (a0.size : Int)) = true := decide_eq_true c1
    have b1 : decide (3000 < a0.size) = true := decide_eq_true (by omega)
    clear c1 H
    go_enter Try.func4, Try.ntmps4
    go_wp2_with (first | ((with_reducible refine gate_callee (f := 7) rfl ?_); refine goesL_ (some 10) rfl rfl Try.func7 (by kernel_rfl) rfl #[] rfl (by (try simp only [List.map_toArray, List.map_cons, List.map_nil]); first | done | rfl) ?_; (with_reducible refine (works_calls _).mono ?_); rintro e w1 ⟨rfl, hb⟩; refine ⟨_, rfl, ?_⟩; have nb_ := Aside0.mk (below_step (by repeat (first | (with_reducible first | exact HB.out | apply below_alloc | apply pw_below_drewN | apply below_drew1) | exact HB.out)) hb); clear HB; have HB := nb_; clear nb_; clear hb))
    go_ret
    exact ⟨rfl, by repeat (first | (with_reducible first | exact HB.out | apply below_alloc | apply pw_below_drewN | apply below_drew1) | exact HB.out)⟩
  · have b0 : decide (3000 < (a0.size : Int)) = false := decide_eq_false c1
    have b1 : decide (3000 < a0.size) = false := decide_eq_false (by omega)
    clear c1
    by_cases c2 : a1 < 0
    · have b2 : decide (a1 < 0) = true := decide_eq_true c2
      clear c2 H
      go_enter Try.func4, Try.ntmps4
      go_wp2_with (first | ((with_reducible refine gate_callee (f := 7) rfl ?_); refine goesL_ (some 10) rfl rfl Try.func7 (by kernel_rfl) rfl #[] rfl (by (try simp only [List.map_toArray, List.map_cons, List.map_nil]); first | done | rfl) ?_; (with_reducible refine (works_calls _).mono ?_); rintro e w1 ⟨rfl, hb⟩; refine ⟨_, rfl, ?_⟩; have nb_ := Aside0.mk (below_step (by repeat (first | (with_reducible first | exact HB.out | apply below_alloc | apply pw_below_drewN | apply below_drew1) | exact HB.out)) hb); clear HB; have HB := nb_; clear nb_; clear hb))
      go_ret
      exact ⟨rfl, by repeat (first | (with_reducible first | exact HB.out | apply below_alloc | apply pw_below_drewN | apply below_drew1) | exact HB.out)⟩
    · have b2 : decide (a1 < 0) = false := decide_eq_false c2
      by_cases c3 : 1000 < a1
      · have b3 : decide (1000 < a1) = true := decide_eq_true c3
        clear c3 c2 H
        go_enter Try.func4, Try.ntmps4
        go_wp2_with (first | ((with_reducible refine gate_callee (f := 7) rfl ?_); refine goesL_ (some 10) rfl rfl Try.func7 (by kernel_rfl) rfl #[] rfl (by (try simp only [List.map_toArray, List.map_cons, List.map_nil]); first | done | rfl) ?_; (with_reducible refine (works_calls _).mono ?_); rintro e w1 ⟨rfl, hb⟩; refine ⟨_, rfl, ?_⟩; have nb_ := Aside0.mk (below_step (by repeat (first | (with_reducible first | exact HB.out | apply below_alloc | apply pw_below_drewN | apply below_drew1) | exact HB.out)) hb); clear HB; have HB := nb_; clear nb_; clear hb))
        go_ret
        exact ⟨rfl, by repeat (first | (with_reducible first | exact HB.out | apply below_alloc | apply pw_below_drewN | apply below_drew1) | exact HB.out)⟩
      · have b3 : decide (1000 < a1) = false := decide_eq_false c3
        have HF := Aside0.mk (H a0 a1 (by omega) (by omega))
        have h0 : 0 ≤ a1 := by omega
        have HM := Aside0.mk (show a1.toNat * 1 ≤ 281474976710656 by omega)
        clear c2 c3 H
        go_enter Try.func4, Try.ntmps4
        go_wp2_with (first | ((with_reducible refine gate_callee (f := 7) rfl ?_); refine goesL_ (some 10) rfl rfl Try.func7 (by kernel_rfl) rfl #[] rfl (by (try simp only [List.map_toArray, List.map_cons, List.map_nil]); first | done | rfl) ?_; (with_reducible refine (works_calls _).mono ?_); rintro e w1 ⟨rfl, hb⟩; refine ⟨_, rfl, ?_⟩; have nb_ := Aside0.mk (below_step (by repeat (first | (with_reducible first | exact HB.out | apply below_alloc | apply pw_below_drewN | apply below_drew1) | exact HB.out)) hb); clear HB; have HB := nb_; clear nb_; clear hb) | ((with_reducible refine gate_dst (N := 26) rfl ?_); refine Kd.R_make (Kd.int .u8) _ 5 rfl (N := 26) rfl 23 _ _ rfl a1 rfl rfl Try.underlying23 (.int .u8 0) 1 info5 rfl (by decide) (by omega) 0 (ok := fun _ => True) (okp := fun _ => True) rfl (fun _ hk => hk) trivial h0 HM.out (Below.refl _ _) (Nat.le_refl _) ?_; intro vz w_ ho_ hb hg_ hnew_; clear hg_ hnew_; have m_ := Aside0.mk (Kd.R_lower ho_ (below_size (by repeat (first | (with_reducible first | exact HB.out | apply below_alloc | apply pw_below_drewN | apply below_drew1) | exact HB.out)))); clear ho_; have nb_ := Aside0.mk (below_step (by repeat (first | (with_reducible first | exact HB.out | apply below_alloc | apply pw_below_drewN | apply below_drew1) | exact HB.out)) hb); clear HB; have HB := nb_; clear nb_; clear hb; have HZ := m_; clear m_) | ((with_reducible refine gate_dst (N := 28) rfl ?_); (try (refine gate_guard (by rfl) ?_; dsimp only)); refine Kd.R_lit Kd.string _ 9 ?hg (N := 28) ?hd (xs := ([a0] : List ByteArray)) (inner := [.string (a0)]) (ok := fun _ => True) (okp := fun _ => True) ?hr ?hp (fun _ hk => hk) trivial (Below.refl _ _) (Nat.le_refl _) (by simp) ?_; (case hd => rfl); (case hg => rfl); (case hr => first | (go_simp; done) | (go_simp; rfl)); (case hp => exact (Reps.one (show Kd.M Kd.string _ _ _ (a0) [.string (a0)] from rfl) (Reps.none _ _))); intro v_ w2 ho_ hb hg_ hnew_; clear hg_ hnew_; have m_ := Aside0.mk (Kd.R_lower ho_ (below_size (by repeat (first | (with_reducible first | exact HB.out | apply below_alloc | apply pw_below_drewN | apply below_drew1) | exact HB.out)))); clear ho_; have n0_ := Aside0.mk (Kd.R_below (by (with_reducible repeat (first | apply Kd.R_alloc | apply Kd.R_drewN | apply Kd.R_drew)); exact HZ.out) hb); have nb_ := Aside0.mk (below_step (by repeat (first | (with_reducible first | exact HB.out | apply below_alloc | apply pw_below_drewN | apply below_drew1) | exact HB.out)) hb); clear HZ; clear HB; have HZ := n0_; have HB := nb_; clear nb_ n0_; clear hb; have L1 := m_; clear m_; obtain ⟨AL1, cL1, e_⟩ := Kd.R_slice L1.out; subst e_) | (go_at_call 8; (with_reducible refine (sum_calls _ _ _ [a0] _ ?side3 ?side1 ?side2).mono ?_); (case side1 => repeat (first | exact (Kd.R_reads' L1.out).2.2 | (with_reducible refine Kd.C_alloc ?_ _) | (with_reducible refine Kd.C_drewN ?_ _) | (with_reducible refine Kd.C_drew ?_))); (case side2 => exact (Kd.R_reads' L1.out).2.1); (case side3 => rfl); rintro e w3 ⟨rfl, hb⟩; have n0_ := Aside0.mk (Kd.R_below (by (with_reducible repeat (first | apply Kd.R_alloc | apply Kd.R_drewN | apply Kd.R_drew)); exact HZ.out) hb); have n1_ := Aside0.mk (Kd.R_below (by (with_reducible repeat (first | apply Kd.R_alloc | apply Kd.R_drewN | apply Kd.R_drew)); exact L1.out) hb); have nb_ := Aside0.mk (below_step (by repeat (first | (with_reducible first | exact HB.out | apply below_alloc | apply pw_below_drewN | apply below_drew1) | exact HB.out)) hb); clear HZ; clear L1; clear HB; have HZ := n0_; have L1 := n1_; have HB := nb_; clear nb_ n0_ n1_; clear hb; have hcv := own_string (P := Try.prog) Try.underlying23 Try.underlying5 Try.underlying9 (Kd.own_of_R HZ.out)) | ((with_reducible refine gate_dst (N := 44) rfl ?_); (try (refine gate_guard (by rfl) ?_; dsimp only)); refine Kd.R_lit Kd.string _ 9 ?hg (N := 44) ?hd (xs := ([a0, strOfNums (List.replicate (a1 : Int).toNat 0)] : List ByteArray)) (inner := [.string (a0), .string (strOfNums (List.replicate (a1 : Int).toNat 0))]) (ok := fun _ => True) (okp := fun _ => True) ?hr ?hp (fun _ hk => hk) trivial (Below.refl _ _) (Nat.le_refl _) (by simp) ?_; (case hd => rfl); (case hg => rfl); (case hr => first | (go_simp; done) | (go_simp; rfl)); (case hp => exact (Reps.one (show Kd.M Kd.string _ _ _ (a0) [.string (a0)] from rfl) (Reps.one (show Kd.M Kd.string _ _ _ (strOfNums (List.replicate (a1 : Int).toNat 0)) [.string (strOfNums (List.replicate (a1 : Int).toNat 0))] from rfl) (Reps.none _ _)))); intro v_ w4 ho_ hb hg_ hnew_; clear hg_ hnew_; have m_ := Aside0.mk (Kd.R_lower ho_ (below_size (by repeat (first | (with_reducible first | exact HB.out | apply below_alloc | apply pw_below_drewN | apply below_drew1) | exact HB.out)))); clear ho_; have n0_ := Aside0.mk (Kd.R_below (by (with_reducible repeat (first | apply Kd.R_alloc | apply Kd.R_drewN | apply Kd.R_drew)); exact HZ.out) hb); have nb_ := Aside0.mk (below_step (by repeat (first | (with_reducible first | exact HB.out | apply below_alloc | apply pw_below_drewN | apply below_drew1) | exact HB.out)) hb); clear HZ; clear HB; have HZ := n0_; have HB := nb_; clear nb_ n0_; clear hb; have L2 := m_; clear m_; obtain ⟨AL2, cL2, e_⟩ := Kd.R_slice L2.out; subst e_) | (go_at_call 8; (with_reducible refine (sum_calls _ _ _ [a0, strOfNums (List.replicate (a1 : Int).toNat 0)] _ ?side3 ?side1 ?side2).mono ?_); (case side1 => repeat (first | exact (Kd.R_reads' L2.out).2.2 | (with_reducible refine Kd.C_alloc ?_ _) | (with_reducible refine Kd.C_drewN ?_ _) | (with_reducible refine Kd.C_drew ?_))); (case side2 => exact (Kd.R_reads' L2.out).2.1); (case side3 => rfl); rintro e w5 ⟨rfl, hb⟩; have n0_ := Aside0.mk (Kd.R_below (by (with_reducible repeat (first | apply Kd.R_alloc | apply Kd.R_drewN | apply Kd.R_drew)); exact HZ.out) hb); have n1_ := Aside0.mk (Kd.R_below (by (with_reducible repeat (first | apply Kd.R_alloc | apply Kd.R_drewN | apply Kd.R_drew)); exact L2.out) hb); have nb_ := Aside0.mk (below_step (by repeat (first | (with_reducible first | exact HB.out | apply below_alloc | apply pw_below_drewN | apply below_drew1) | exact HB.out)) hb); clear HZ; clear L2; clear HB; have HZ := n0_; have L2 := n1_; have HB := nb_; clear nb_ n0_ n1_; clear hb))
        go_ret
        exact ⟨ret_true (by rw [HF.out]; simp), by repeat (first | (with_reducible first | exact HB.out | apply below_alloc | apply pw_below_drewN | apply below_drew1) | exact HB.out)⟩


theorem F_zeros (n : Nat) (a b : Int) (h0 : 0 ≤ a) (h1 : a < 65521) (h2 : 0 ≤ b) (h3 : b < 65521) : F (List.replicate n 0) a b = (a, (b + n * a) % 65521) := by
  induction n generalizing b with
  | zero =>
    rw [List.replicate_zero, F_nil, Int.natCast_zero, Int.zero_mul, Int.add_zero, Int.emod_eq_of_lt h2 h3]
  | succ n ih =>
    rw [List.replicate_succ, F_cons, show (((0 : UInt8).toNat : Nat) : Int) = 0 from rfl, Int.add_zero, Int.emod_eq_of_lt h0 h1, ih _ (by omega) (by omega)]
    have e : ((n + 1 : Nat) : Int) * a = n * a + a := by rw [Int.natCast_succ, Int.add_mul, Int.one_mul]
    rw [e]
    generalize (n : Int) * a = p
    congr 1
    omega

theorem zeros_law (s : ByteArray) (n : Int) (h0 : 0 ≤ n) (h1 : n ≤ 1000) : S 1 [s, strOfNums (List.replicate n.toNat 0)] = Go.bits .or .i64 (wrap64 ((Int.tmod (wrap64 ((S 1 [s] / 65536) + (wrap64 (n * (Go.bits .and .i64 (S 1 [s]) 65535))))) 65521) * 65536)) (Go.bits .and .i64 (S 1 [s]) 65535) := by
  obtain ⟨m, rfl⟩ := Int.eq_ofNat_of_zero_le h0
  have e1 : S 1 [s] = A 1 s.data.toList := rfl
  have e2 : S 1 [s, strOfNums (List.replicate (m : Int).toNat 0)] = A (A 1 s.data.toList) (strOfNums (List.replicate (m : Int).toNat 0)).data.toList := rfl
  have e3 : (strOfNums (List.replicate (m : Int).toNat 0)).data.toList = List.replicate m 0 := by
    unfold strOfNums
    simp
  have hp := A_parts 1 s.data.toList
  have hl := F_low s.data.toList (1 % 65536) (1 / 65536 % 65536) (by omega) (by omega) (by omega) (by omega)
  have hv : A 1 s.data.toList = (F s.data.toList (1 % 65536) (1 / 65536 % 65536)).2 * 65536 + (F s.data.toList (1 % 65536) (1 / 65536 % 65536)).1 := rfl
  rw [e2, e3, A_append, e1, and16, hp.1]
  show (F (s.data.toList ++ List.replicate m 0) (1 % 65536) (1 / 65536 % 65536)).2 * 65536 + (F (s.data.toList ++ List.replicate m 0) (1 % 65536) (1 / 65536 % 65536)).1 = _
  rw [F_append, F_zeros m _ _ hl.1 hl.2.1 hl.2.2.1 hl.2.2.2]
  generalize F s.data.toList (1 % 65536) (1 / 65536 % 65536) = q at *
  obtain ⟨lo, hi⟩ := q
  simp only at *
  have e4 : A 1 s.data.toList / 65536 = hi := by omega
  rw [e4]
  have hb : 0 ≤ (m : Int) * lo ∧ (m : Int) * lo ≤ 1000 * 65521 := ⟨Int.mul_nonneg (by omega) hl.1, Int.mul_le_mul h1 (by omega) hl.1 (by omega)⟩
  generalize (m : Int) * lo = p at *
  clear e4 hv hp e1 e2 e3
  have w1 : wrap64 (hi + wrap64 p) = hi + p := by unfold wrap64; omega
  rw [w1, Int.tmod_eq_emod_of_nonneg (by omega), or16 _ _ (by omega) (by omega) (by omega) (by omega)]

theorem walk (a0 : ByteArray) (a1 : Int) (w : World) (w0 : a0.size ≤ 140737488351232) :
    Calls Try.prog 4 #[.string a0, .int .i64 a1] w fun e w' => e = .returned (.bool true) ∧ Below w.heap.size w w' := zeros_walk zeros_law a0 a1 w w0

end Go.Proofs.Ytbiamfokicmkpaa.Zeros
