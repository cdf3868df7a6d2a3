/- CrcsParts holds: the sum of three parts, by Sum and by More, is the sum of the whole, and a number of 32 bits. It is stated for all arguments, without a condition. -/
import Derived.Test.YtdphbfohjgmkaaaWorks
namespace Go.Proofs.Ytdphbfohjgmkaaa.CParts
open Go.RowKit Go.Proofs.Ytdphbfohjgmkaaa.PCrcsSums Go.Proofs.YtdphbfohjgmkaaaW.PrintWords Go.Proofs.YtdphbfohjgmkaaaW.PrintLast Go.Proofs.YtdphbfohjgmkaaaW.PrintMore Go.Proofs.Ytdphbfohjgmkaaa.Math Go.Proofs.Ytdphbfohjgmkaaa.Base Go.Proofs.Ytdphbfohjgmkaaa.Sums
attribute [local go_sem] max2_int min2_int max_two min_two max_three min_three max_four min_four
set_option linter.unusedVariables false
set_option linter.unusedSimpArgs false

open Go.Proofs.Ytdphbfohjgmkaaa.Works (works_calls)
theorem sumN_xor (ls : List ByteArray) : sumN ls ^^^ 4294967295 = sumS 4294967295 ls := by
  unfold sumN
  rw [Nat.xor_assoc, Nat.xor_self, Nat.xor_zero]
theorem sumN_lt (ls : List ByteArray) : sumN ls < 4294967296 := by
  have h := sumS_lt ls 4294967295 (by decide)
  exact Nat.xor_lt_two_pow (n := 32) h (by decide)
theorem low_cast2 (d : Nat) (h : d < 4294967296) : low (d : Int) = d := low_of d h
/-- What the law says of three texts. -/
theorem parts_law (a0 a1 a2 : ByteArray) : sumN [a0, a1, a2] = sumN [a0 ++ a1 ++ a2] ∧
    run (low (run (low (sumS 4294967295 [a0] : Int)) a1.data.toList : Int)) a2.data.toList ^^^ 4294967295 = sumN [a0 ++ a1 ++ a2] := by
  have e : sumS 4294967295 [a0 ++ a1 ++ a2] = run (run (run 4294967295 a0.data.toList) a1.data.toList) a2.data.toList := by
    show run 4294967295 (a0 ++ a1 ++ a2).data.toList = _
    rw [ByteArray.data_append, ByteArray.data_append, Array.toList_append, Array.toList_append, run_append, run_append]
  refine ⟨by unfold sumN; rw [e]; rfl, ?_⟩
  have h0 : run 4294967295 a0.data.toList < 4294967296 := run_lt _ _ (by decide)
  have h1 := run_lt _ a1.data.toList h0
  show run (low ((run (low ((run 4294967295 a0.data.toList : Nat) : Int)) a1.data.toList : Nat) : Int)) a2.data.toList ^^^ 4294967295 = sumN [a0 ++ a1 ++ a2]
  rw [low_of _ h0, low_of _ h1]
  unfold sumN
  rw [e]

set_option maxHeartbeats 8000000 in
set_option maxRecDepth 100000 in
theorem walk (a0 a1 a2 : ByteArray) (w : World) :
    Calls Try.prog 5 #[.string a0, .string a1, .string a2] w fun e w' => e = .returned (.bool true) ∧ Below w.heap.size w w' := by
  have HB := Aside0.mk (Below.refl w.heap.size w)
  by_cases c0 : 2000 < a0.size
  · skip
    have pc0 : decide (2000 < (a0.size : Int)) = true := decide_eq_true (by omega)
    have qc0 : decide (2000 < a0.size) = true := decide_eq_true (by omega)
    clear c0
    go_enter Try.func5, Try.ntmps5
    go_wp2_with (first | (go_at_call 8; (with_reducible refine (works_calls _).mono ?_); rintro e w1 ⟨rfl, hb⟩; have nb_ := Aside0.mk (below_step (by repeat (first | (with_reducible first | exact HB.out | apply below_alloc | apply pw_below_drewN | apply below_drew1) | exact HB.out)) hb); clear HB; have HB := nb_; clear nb_; clear hb))
    go_ret
    exact ⟨rfl, by repeat (first | (with_reducible first | exact HB.out | apply below_alloc | apply pw_below_drewN | apply below_drew1) | exact HB.out)⟩
  · skip
    have pc0 : decide (2000 < (a0.size : Int)) = false := decide_eq_false (by omega)
    have qc0 : decide (2000 < a0.size) = false := decide_eq_false (by omega)
    by_cases c1 : 2000 < a1.size
    · skip
      have pc1 : decide (2000 < (a1.size : Int)) = true := decide_eq_true (by omega)
      have qc1 : decide (2000 < a1.size) = true := decide_eq_true (by omega)
      clear c1
      go_enter Try.func5, Try.ntmps5
      go_wp2_with (first | (go_at_call 8; (with_reducible refine (works_calls _).mono ?_); rintro e w1 ⟨rfl, hb⟩; have nb_ := Aside0.mk (below_step (by repeat (first | (with_reducible first | exact HB.out | apply below_alloc | apply pw_below_drewN | apply below_drew1) | exact HB.out)) hb); clear HB; have HB := nb_; clear nb_; clear hb))
      go_ret
      exact ⟨rfl, by repeat (first | (with_reducible first | exact HB.out | apply below_alloc | apply pw_below_drewN | apply below_drew1) | exact HB.out)⟩
    · skip
      have pc1 : decide (2000 < (a1.size : Int)) = false := decide_eq_false (by omega)
      have qc1 : decide (2000 < a1.size) = false := decide_eq_false (by omega)
      by_cases c2 : 2000 < a2.size
      · skip
        have pc2 : decide (2000 < (a2.size : Int)) = true := decide_eq_true (by omega)
        have qc2 : decide (2000 < a2.size) = true := decide_eq_true (by omega)
        clear c2
        go_enter Try.func5, Try.ntmps5
        go_wp2_with (first | (go_at_call 8; (with_reducible refine (works_calls _).mono ?_); rintro e w1 ⟨rfl, hb⟩; have nb_ := Aside0.mk (below_step (by repeat (first | (with_reducible first | exact HB.out | apply below_alloc | apply pw_below_drewN | apply below_drew1) | exact HB.out)) hb); clear HB; have HB := nb_; clear nb_; clear hb))
        go_ret
        exact ⟨rfl, by repeat (first | (with_reducible first | exact HB.out | apply below_alloc | apply pw_below_drewN | apply below_drew1) | exact HB.out)⟩
      · skip
        have pc2 : decide (2000 < (a2.size : Int)) = false := decide_eq_false (by omega)
        have qc2 : decide (2000 < a2.size) = false := decide_eq_false (by omega)
        have HS0 := Aside0.mk (show a0.size ≤ 140737488355328 by omega)
        have HS1 := Aside0.mk (show a1.size ≤ 140737488355328 by omega)
        have HS2 := Aside0.mk (show a2.size ≤ 140737488355328 by omega)
        have HZ1 := Aside0.mk (show ∀ s ∈ ([a0 ++ a1 ++ a2] : List ByteArray), s.size ≤ 140737488355328 by
          intro s hs
          rcases List.mem_cons.1 hs with rfl | hs
          · exact (by rw [ByteArray.size_append, ByteArray.size_append]; omega)
          cases hs)
        have HZ2 := Aside0.mk (show ∀ s ∈ ([a0, a1, a2] : List ByteArray), s.size ≤ 140737488355328 by
          intro s hs
          rcases List.mem_cons.1 hs with rfl | hs
          · exact HS0.out
          rcases List.mem_cons.1 hs with rfl | hs
          · exact HS1.out
          rcases List.mem_cons.1 hs with rfl | hs
          · exact HS2.out
          cases hs)
        have HZ3 := Aside0.mk (show ∀ s ∈ ([a0] : List ByteArray), s.size ≤ 140737488355328 by
          intro s hs
          rcases List.mem_cons.1 hs with rfl | hs
          · exact HS0.out
          cases hs)
        have hs1 : (9223372036854775807 < a0.size + a1.size) = False := eq_false (by omega)
        have hs2 : (9223372036854775807 < a0.size + a1.size + a2.size) = False := eq_false (by omega)
        have hl := parts_law a0 a1 a2
        have hv := sumN_lt [a0 ++ a1 ++ a2]
        have hlt0 := sumN_lt [a0]
        have hc0 := sumN_xor [a0]
        have h1lt : sumS 4294967295 [a0] < 4294967296 := sumS_lt _ _ (by decide)
        obtain ⟨V, hV⟩ : ∃ V, sumN [a0 ++ a1 ++ a2] = V := ⟨_, rfl⟩
        obtain ⟨V0, hV0⟩ : ∃ V0, sumN [a0] = V0 := ⟨_, rfl⟩
        obtain ⟨V1, hV1⟩ : ∃ V1, sumS 4294967295 [a0] = V1 := ⟨_, rfl⟩
        rw [hV, hV1] at hl
        rw [hV] at hv
        rw [hV0] at hlt0 hc0
        rw [hV1] at hc0 h1lt
        have h2lt : run (low (V1 : Int)) a1.data.toList < 4294967296 := run_lt _ _ (low_lt _)
        obtain ⟨V2, hV2⟩ : ∃ V2, run (low (V1 : Int)) a1.data.toList = V2 := ⟨_, rfl⟩
        rw [hV2] at hl h2lt
        have h3lt : run (low (V2 : Int)) a2.data.toList < 4294967296 := run_lt _ _ (low_lt _)
        obtain ⟨V3, hV3⟩ : ∃ V3, run (low (V2 : Int)) a2.data.toList = V3 := ⟨_, rfl⟩
        rw [hV3] at hl h3lt
        have hx0 : Go.bits .xor .i64 (V0 : Int) 4294967295 = (V1 : Int) := by rw [← hc0]; exact xor_cast V0 4294967295 (by omega) (by decide)
        have hx3 : Go.bits .xor .i64 (V3 : Int) 4294967295 = (V : Int) := by rw [← hl.2]; exact xor_cast V3 4294967295 (by omega) (by decide)
        have b0 : decide (0 ≤ (V : Int)) = true := decide_eq_true (by omega)
        have b1 : decide ((V : Int) < 4294967296) = true := decide_eq_true (by omega)
        have b2 : decide (V < 4294967296) = true := decide_eq_true hv
        have kA := Aside0.mk hV
        have kB := Aside0.mk hl.1
        have kC := Aside0.mk hV0
        have kD := Aside0.mk hV2
        have kE := Aside0.mk hV3
        clear c0 c1 c2 hl hV hV0 hV1 hV2 hV3 hc0 h1lt h2lt h3lt hv hlt0
        go_enter Try.func5, Try.ntmps5
        go_wp2_with (first | (go_at_call 8; (with_reducible refine (works_calls _).mono ?_); rintro e w1 ⟨rfl, hb⟩; have nb_ := Aside0.mk (below_step (by repeat (first | (with_reducible first | exact HB.out | apply below_alloc | apply pw_below_drewN | apply below_drew1) | exact HB.out)) hb); clear HB; have HB := nb_; clear nb_; clear hb) | (go_at_call 9; (with_reducible refine (make_calls _).mono ?_); rintro e w2 ⟨gLT, cLT, rfl, ho_, hb⟩; have m_ := Aside0.mk (Kd.R_lower ho_ (below_size (by repeat (first | (with_reducible first | exact HB.out | apply below_alloc | apply pw_below_drewN | apply below_drew1) | exact HB.out)))); clear ho_; have nb_ := Aside0.mk (below_step (by repeat (first | (with_reducible first | exact HB.out | apply below_alloc | apply pw_below_drewN | apply below_drew1) | exact HB.out)) hb); clear HB; have HB := nb_; clear nb_; clear hb; have LT := m_; clear m_) | ((with_reducible refine gate_dst (N := 34) rfl ?_); (try (refine gate_guard (by rfl) ?_; dsimp only)); refine Kd.R_lit Kd.string _ 9 ?hg (N := 34) ?hd (xs := ([a0 ++ a1 ++ a2] : List ByteArray)) (inner := [.string (a0 ++ a1 ++ a2)]) (ok := fun _ => True) (okp := fun _ => True) ?hr ?hp (fun _ hk => hk) trivial (Below.refl _ _) (Nat.le_refl _) (by simp) ?_; (case hd => rfl); (case hg => rfl); (case hr => first | (go_simp; done) | (go_simp; rfl)); (case hp => exact (Reps.one (show Kd.M Kd.string _ _ _ (a0 ++ a1 ++ a2) [.string (a0 ++ a1 ++ a2)] from rfl) (Reps.none _ _))); intro v_ w3 ho_ hb hg_ hnew_; clear hg_ hnew_; have m_ := Aside0.mk (Kd.R_lower ho_ (below_size (by repeat (first | (with_reducible first | exact HB.out | apply below_alloc | apply pw_below_drewN | apply below_drew1) | exact HB.out)))); clear ho_; have n0_ := Aside0.mk (Kd.R_below (by (with_reducible repeat (first | apply Kd.R_alloc | apply Kd.R_drewN | apply Kd.R_drew)); exact LT.out) hb); have nb_ := Aside0.mk (below_step (by repeat (first | (with_reducible first | exact HB.out | apply below_alloc | apply pw_below_drewN | apply below_drew1) | exact HB.out)) hb); clear LT; clear HB; have LT := n0_; have HB := nb_; clear nb_ n0_; clear hb; have L1 := m_; clear m_; obtain ⟨AL1, cL1, e_⟩ := Kd.R_slice L1.out; subst e_) | (go_at_call 13; (with_reducible refine (sum_calls _ _ _ 256 _ _ [a0 ++ a1 ++ a2] _ ?side3 ?side4 HZ1.out (Or.inl rfl) ?side1 ?side2).mono ?_); (case side1 => exact (fun _ => C256 (Kd.R_reads' LT.out).2.2)); (case side2 => exact (Kd.R_reads' L1.out).2.2); (case side3 => rfl); (case side4 => simp); rw [kA.out]; rintro e w4 ⟨rfl, hb⟩; have n0_ := Aside0.mk (Kd.R_below (by (with_reducible repeat (first | apply Kd.R_alloc | apply Kd.R_drewN | apply Kd.R_drew)); exact LT.out) hb); have n1_ := Aside0.mk (Kd.R_below (by (with_reducible repeat (first | apply Kd.R_alloc | apply Kd.R_drewN | apply Kd.R_drew)); exact L1.out) hb); have nb_ := Aside0.mk (below_step (by repeat (first | (with_reducible first | exact HB.out | apply below_alloc | apply pw_below_drewN | apply below_drew1) | exact HB.out)) hb); clear LT; clear L1; clear HB; have LT := n0_; have L1 := n1_; have HB := nb_; clear nb_ n0_ n1_; clear hb) | ((with_reducible refine gate_dst (N := 42) rfl ?_); (try (refine gate_guard (by rfl) ?_; dsimp only)); refine Kd.R_lit Kd.string _ 9 ?hg (N := 42) ?hd (xs := ([a0, a1, a2] : List ByteArray)) (inner := [.string (a0), .string (a1), .string (a2)]) (ok := fun _ => True) (okp := fun _ => True) ?hr ?hp (fun _ hk => hk) trivial (Below.refl _ _) (Nat.le_refl _) (by simp) ?_; (case hd => rfl); (case hg => rfl); (case hr => first | (go_simp; done) | (go_simp; rfl)); (case hp => exact (Reps.one (show Kd.M Kd.string _ _ _ (a0) [.string (a0)] from rfl) (Reps.one (show Kd.M Kd.string _ _ _ (a1) [.string (a1)] from rfl) (Reps.one (show Kd.M Kd.string _ _ _ (a2) [.string (a2)] from rfl) (Reps.none _ _))))); intro v_ w5 ho_ hb hg_ hnew_; clear hg_ hnew_; have m_ := Aside0.mk (Kd.R_lower ho_ (below_size (by repeat (first | (with_reducible first | exact HB.out | apply below_alloc | apply pw_below_drewN | apply below_drew1) | exact HB.out)))); clear ho_; have n0_ := Aside0.mk (Kd.R_below (by (with_reducible repeat (first | apply Kd.R_alloc | apply Kd.R_drewN | apply Kd.R_drew)); exact LT.out) hb); have nb_ := Aside0.mk (below_step (by repeat (first | (with_reducible first | exact HB.out | apply below_alloc | apply pw_below_drewN | apply below_drew1) | exact HB.out)) hb); clear LT; clear HB; have LT := n0_; have HB := nb_; clear nb_ n0_; clear hb; have L2 := m_; clear m_; obtain ⟨AL2, cL2, e_⟩ := Kd.R_slice L2.out; subst e_) | (go_at_call 13; (with_reducible refine (sum_calls _ _ _ 256 _ _ [a0, a1, a2] _ ?side3 ?side4 HZ2.out (Or.inl rfl) ?side1 ?side2).mono ?_); (case side1 => exact (fun _ => C256 (Kd.R_reads' LT.out).2.2)); (case side2 => exact (Kd.R_reads' L2.out).2.2); (case side3 => rfl); (case side4 => simp); rw [kB.out]; rintro e w6 ⟨rfl, hb⟩; have n0_ := Aside0.mk (Kd.R_below (by (with_reducible repeat (first | apply Kd.R_alloc | apply Kd.R_drewN | apply Kd.R_drew)); exact LT.out) hb); have n1_ := Aside0.mk (Kd.R_below (by (with_reducible repeat (first | apply Kd.R_alloc | apply Kd.R_drewN | apply Kd.R_drew)); exact L2.out) hb); have nb_ := Aside0.mk (below_step (by repeat (first | (with_reducible first | exact HB.out | apply below_alloc | apply pw_below_drewN | apply below_drew1) | exact HB.out)) hb); clear LT; clear L2; clear HB; have LT := n0_; have L2 := n1_; have HB := nb_; clear nb_ n0_ n1_; clear hb) | ((with_reducible refine gate_dst (N := 52) rfl ?_); (try (refine gate_guard (by rfl) ?_; dsimp only)); refine Kd.R_lit Kd.string _ 9 ?hg (N := 52) ?hd (xs := ([a0] : List ByteArray)) (inner := [.string (a0)]) (ok := fun _ => True) (okp := fun _ => True) ?hr ?hp (fun _ hk => hk) trivial (Below.refl _ _) (Nat.le_refl _) (by simp) ?_; (case hd => rfl); (case hg => rfl); (case hr => first | (go_simp; done) | (go_simp; rfl)); (case hp => exact (Reps.one (show Kd.M Kd.string _ _ _ (a0) [.string (a0)] from rfl) (Reps.none _ _))); intro v_ w7 ho_ hb hg_ hnew_; clear hg_ hnew_; have m_ := Aside0.mk (Kd.R_lower ho_ (below_size (by repeat (first | (with_reducible first | exact HB.out | apply below_alloc | apply pw_below_drewN | apply below_drew1) | exact HB.out)))); clear ho_; have n0_ := Aside0.mk (Kd.R_below (by (with_reducible repeat (first | apply Kd.R_alloc | apply Kd.R_drewN | apply Kd.R_drew)); exact LT.out) hb); have nb_ := Aside0.mk (below_step (by repeat (first | (with_reducible first | exact HB.out | apply below_alloc | apply pw_below_drewN | apply below_drew1) | exact HB.out)) hb); clear LT; clear HB; have LT := n0_; have HB := nb_; clear nb_ n0_; clear hb; have L3 := m_; clear m_; obtain ⟨AL3, cL3, e_⟩ := Kd.R_slice L3.out; subst e_) | (go_at_call 13; (with_reducible refine (sum_calls _ _ _ 256 _ _ [a0] _ ?side3 ?side4 HZ3.out (Or.inl rfl) ?side1 ?side2).mono ?_); (case side1 => exact (fun _ => C256 (Kd.R_reads' LT.out).2.2)); (case side2 => exact (Kd.R_reads' L3.out).2.2); (case side3 => rfl); (case side4 => simp); rw [kC.out]; rintro e w8 ⟨rfl, hb⟩; have n0_ := Aside0.mk (Kd.R_below (by (with_reducible repeat (first | apply Kd.R_alloc | apply Kd.R_drewN | apply Kd.R_drew)); exact LT.out) hb); have n1_ := Aside0.mk (Kd.R_below (by (with_reducible repeat (first | apply Kd.R_alloc | apply Kd.R_drewN | apply Kd.R_drew)); exact L3.out) hb); have nb_ := Aside0.mk (below_step (by repeat (first | (with_reducible first | exact HB.out | apply below_alloc | apply pw_below_drewN | apply below_drew1) | exact HB.out)) hb); clear LT; clear L3; clear HB; have LT := n0_; have L3 := n1_; have HB := nb_; clear nb_ n0_ n1_; clear hb) | (go_at_call 12; (with_reducible refine (more_any _ _ 256 (V1 : Int) a1 _ HS1.out (Or.inl rfl) ?side1).mono ?_); (case side1 => exact (fun _ => C256 (Kd.R_reads' LT.out).2.2)); rw [kD.out]; rintro e w9 ⟨rfl, hb⟩; have n0_ := Aside0.mk (Kd.R_below (by (with_reducible repeat (first | apply Kd.R_alloc | apply Kd.R_drewN | apply Kd.R_drew)); exact LT.out) hb); have nb_ := Aside0.mk (below_step (by repeat (first | (with_reducible first | exact HB.out | apply below_alloc | apply pw_below_drewN | apply below_drew1) | exact HB.out)) hb); clear LT; clear HB; have LT := n0_; have HB := nb_; clear nb_ n0_; clear hb) | (go_at_call 12; (with_reducible refine (more_any _ _ 256 (V2 : Int) a2 _ HS2.out (Or.inl rfl) ?side1).mono ?_); (case side1 => exact (fun _ => C256 (Kd.R_reads' LT.out).2.2)); rw [kE.out]; rintro e w10 ⟨rfl, hb⟩; have n0_ := Aside0.mk (Kd.R_below (by (with_reducible repeat (first | apply Kd.R_alloc | apply Kd.R_drewN | apply Kd.R_drew)); exact LT.out) hb); have nb_ := Aside0.mk (below_step (by repeat (first | (with_reducible first | exact HB.out | apply below_alloc | apply pw_below_drewN | apply below_drew1) | exact HB.out)) hb); clear LT; clear HB; have LT := n0_; have HB := nb_; clear nb_ n0_; clear hb))
        go_ret
        exact ⟨rfl, by repeat (first | (with_reducible first | exact HB.out | apply below_alloc | apply pw_below_drewN | apply below_drew1) | exact HB.out)⟩

end Go.Proofs.Ytdphbfohjgmkaaa.CParts
