/- crcs' examples of the document hold: works answers true. -/
import Derived.Test.YtdphbfohjgmkaaaSums
namespace Go.Proofs.Ytdphbfohjgmkaaa.Works
open Go.RowKit Go.Proofs.Ytdphbfohjgmkaaa.PCrcsSums Go.Proofs.YtdphbfohjgmkaaaW.PrintWords Go.Proofs.YtdphbfohjgmkaaaW.PrintLast Go.Proofs.YtdphbfohjgmkaaaW.PrintMore Go.Proofs.Ytdphbfohjgmkaaa.Math Go.Proofs.Ytdphbfohjgmkaaa.Base Go.Proofs.Ytdphbfohjgmkaaa.Sums
attribute [local go_sem] max2_int min2_int max_two min_two max_three min_three max_four min_four
set_option linter.unusedVariables false
set_option linter.unusedSimpArgs false

theorem known1 : sumN [⟨#[49, 50, 51, 52]⟩, ⟨#[53, 54, 55, 56, 57]⟩] = 3421780262 := by decide +kernel
theorem known0 : sumN [] = 0 := by decide

set_option maxHeartbeats 8000000 in
set_option maxRecDepth 100000 in
theorem works_calls (w : World) : Calls Try.prog 8 #[] w fun e w' => e = .returned (.bool true) ∧ Below w.heap.size w w' := by
  have HB := Aside0.mk (Below.refl w.heap.size w)
  have HZ1 := Aside0.mk (show ∀ s ∈ ([⟨#[49, 50, 51, 52]⟩, ⟨#[53, 54, 55, 56, 57]⟩] : List ByteArray), s.size ≤ 140737488355328 by
    intro s hs
    rcases List.mem_cons.1 hs with rfl | hs
    · exact show 4 ≤ 140737488355328 by decide
    · rcases List.mem_cons.1 hs with rfl | hs
      · exact show 5 ≤ 140737488355328 by decide
      · cases hs)
  have HZ0 := Aside0.mk (show ∀ s ∈ ([] : List ByteArray), s.size ≤ 140737488355328 from fun s hs => by cases hs)
  go_enter Try.func8, Try.ntmps8
  go_wp2_with (first | (go_at_call 9; (with_reducible refine (make_calls _).mono ?_); rintro e w1 ⟨gLT, cLT, rfl, ho_, hb⟩; have m_ := Aside0.mk (Kd.R_lower ho_ (below_size (by repeat (first | (with_reducible first | exact HB.out | apply below_alloc | apply pw_below_drewN | apply below_drew1) | exact HB.out)))); clear ho_; have nb_ := Aside0.mk (below_step (by repeat (first | (with_reducible first | exact HB.out | apply below_alloc | apply pw_below_drewN | apply below_drew1) | exact HB.out)) hb); clear HB; have HB := nb_; clear nb_; clear hb; have LT := m_; clear m_) | ((with_reducible refine gate_dst (N := 8) rfl ?_); (try (refine gate_guard (by rfl) ?_; dsimp only)); refine Kd.R_lit Kd.string _ 9 ?hg (N := 8) ?hd (xs := ([⟨#[49, 50, 51, 52]⟩, ⟨#[53, 54, 55, 56, 57]⟩] : List ByteArray)) (inner := [.string (⟨#[49, 50, 51, 52]⟩), .string (⟨#[53, 54, 55, 56, 57]⟩)]) (ok := fun _ => True) (okp := fun _ => True) ?hr ?hp (fun _ hk => hk) trivial (Below.refl _ _) (Nat.le_refl _) (by simp) ?_; (case hd => rfl); (case hg => rfl); (case hr => first | (go_simp; done) | (go_simp; rfl)); (case hp => exact (Reps.one (show Kd.M Kd.string _ _ _ (⟨#[49, 50, 51, 52]⟩) [.string (⟨#[49, 50, 51, 52]⟩)] from rfl) (Reps.one (show Kd.M Kd.string _ _ _ (⟨#[53, 54, 55, 56, 57]⟩) [.string (⟨#[53, 54, 55, 56, 57]⟩)] from rfl) (Reps.none _ _)))); intro v_ w2 ho_ hb hg_ hnew_; clear hg_ hnew_; have m_ := Aside0.mk (Kd.R_lower ho_ (below_size (by repeat (first | (with_reducible first | exact HB.out | apply below_alloc | apply pw_below_drewN | apply below_drew1) | exact HB.out)))); clear ho_; have n0_ := Aside0.mk (Kd.R_below (by (with_reducible repeat (first | apply Kd.R_alloc | apply Kd.R_drewN | apply Kd.R_drew)); exact LT.out) hb); have nb_ := Aside0.mk (below_step (by repeat (first | (with_reducible first | exact HB.out | apply below_alloc | apply pw_below_drewN | apply below_drew1) | exact HB.out)) hb); clear LT; clear HB; have LT := n0_; have HB := nb_; clear nb_ n0_; clear hb; have L1 := m_; clear m_; obtain ⟨AL1, cL1, e_⟩ := Kd.R_slice L1.out; subst e_) | (go_at_call 13; (with_reducible refine (sum_calls _ _ _ 256 _ _ [⟨#[49, 50, 51, 52]⟩, ⟨#[53, 54, 55, 56, 57]⟩] _ ?side3 ?side4 HZ1.out (Or.inl rfl) ?side1 ?side2).mono ?_); (case side1 => exact (fun _ => C256 (Kd.R_reads' LT.out).2.2)); (case side2 => exact (Kd.R_reads' L1.out).2.2); (case side3 => rfl); (case side4 => exact (by decide)); rw [known1]; rintro e w3 ⟨rfl, hb⟩; have n0_ := Aside0.mk (Kd.R_below (by (with_reducible repeat (first | apply Kd.R_alloc | apply Kd.R_drewN | apply Kd.R_drew)); exact LT.out) hb); have n1_ := Aside0.mk (Kd.R_below (by (with_reducible repeat (first | apply Kd.R_alloc | apply Kd.R_drewN | apply Kd.R_drew)); exact L1.out) hb); have nb_ := Aside0.mk (below_step (by repeat (first | (with_reducible first | exact HB.out | apply below_alloc | apply pw_below_drewN | apply below_drew1) | exact HB.out)) hb); clear LT; clear L1; clear HB; have LT := n0_; have L1 := n1_; have HB := nb_; clear nb_ n0_ n1_; clear hb) | (go_at_call 13; (with_reducible refine (sum_calls _ _ _ 256 _ _ [] _ ?side3 ?side4 HZ0.out (Or.inl rfl) ?side1 ?side2).mono ?_); (case side1 => exact (fun _ => C256 (Kd.R_reads' LT.out).2.2)); (case side2 => exact (Kd.C_nil _ _)); (case side3 => rfl); (case side4 => exact (by decide)); rw [known0]; rintro e w4 ⟨rfl, hb⟩; have n0_ := Aside0.mk (Kd.R_below (by (with_reducible repeat (first | apply Kd.R_alloc | apply Kd.R_drewN | apply Kd.R_drew)); exact LT.out) hb); have nb_ := Aside0.mk (below_step (by repeat (first | (with_reducible first | exact HB.out | apply below_alloc | apply pw_below_drewN | apply below_drew1) | exact HB.out)) hb); clear LT; clear HB; have LT := n0_; have HB := nb_; clear nb_ n0_; clear hb))
  go_ret
  exact ⟨rfl, by repeat (first | (with_reducible first | exact HB.out | apply below_alloc | apply pw_below_drewN | apply below_drew1) | exact HB.out)⟩

end Go.Proofs.Ytdphbfohjgmkaaa.Works
