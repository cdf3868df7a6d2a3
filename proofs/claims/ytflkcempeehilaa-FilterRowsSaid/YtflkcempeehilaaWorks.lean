/- filter's examples of the document hold: works answers true. -/
import Derived.Test.YtflkcempeehilaaLaw
namespace Go.Proofs.Ytflkcempeehilaa.Works
open Go.RowKit Go.Proofs.Ytflkcempeehilaa.PFilterRows Go.Proofs.YtflkcempeehilaaW.PrintWords Go.Proofs.YtflkcempeehilaaW.PrintLast Go.Proofs.YtflkcempeehilaaW.PrintMore Go.Proofs.Ytflkcempeehilaa.Gs Go.Proofs.Ytflkcempeehilaa.Each Go.Proofs.Ytflkcempeehilaa.Flt Go.Proofs.Ytflkcempeehilaa.Refs Go.Proofs.Ytflkcempeehilaa.Cho Go.Proofs.Ytflkcempeehilaa.Law
set_option linter.unusedVariables false
set_option linter.unusedSimpArgs false

theorem right_none (k st : Int) (row : ByteArray) (h0 : 0 ≤ k) (h4 : k ≤ 4) (h1 : 1 ≤ st) : rightB k st ⟨#[]⟩ row = true := by
  have e : (⟨#[]⟩ : ByteArray).toList = [] := by rw [Go.ByteArray.toList_eq]
  unfold rightB
  simp [h0, h4, h1, e]
theorem flt_ex : flt 1 1 ⟨#[]⟩ ⟨#[1, 3, 6]⟩ = (⟨#[1, 2, 3]⟩, 0) := by
  rw [flt_right (right_none 1 1 _ (by decide) (by decide) (by decide)), show strOfNums (fL 1 1 ⟨#[]⟩ ⟨#[1, 3, 6]⟩ (⟨#[1, 3, 6]⟩ : ByteArray).size) = ⟨#[1, 2, 3]⟩ from by decide +kernel]
theorem unf_ex : unf 1 1 ⟨#[]⟩ ⟨#[1, 2, 3]⟩ = (⟨#[1, 3, 6]⟩, 0) := by
  rw [unf_right (right_none 1 1 _ (by decide) (by decide) (by decide)), show strOfNums (uL 1 1 ⟨#[]⟩ ⟨#[1, 2, 3]⟩ (⟨#[1, 2, 3]⟩ : ByteArray).size) = ⟨#[1, 3, 6]⟩ from by decide +kernel]
theorem gs_ex : gs 4 10 20 12 = 20 := by decide
theorem ch_ex : (ch 1 ⟨#[]⟩ ⟨#[5, 5, 5]⟩ 5).1 = 1 := by
  have e : ∀ k : Int, 0 ≤ k → k ≤ 4 → flt k 1 ⟨#[]⟩ ⟨#[5, 5, 5]⟩ = (strOfNums (fL k 1 ⟨#[]⟩ ⟨#[5, 5, 5]⟩ 3), 0) := fun k h0 h4 => flt_right (right_none k 1 _ h0 h4 (by decide))
  simp only [ch]
  rw [e _ (by decide) (by decide), e _ (by decide) (by decide), e _ (by decide) (by decide), e _ (by decide) (by decide), e _ (by decide) (by decide)]
  decide +kernel

set_option maxHeartbeats 8000000 in
set_option maxRecDepth 100000 in
theorem works_calls (w : World) : Calls Try.prog 8 #[] w fun e w' => e = .returned (.bool true) ∧ Below w.heap.size w w' := by
  have HB := Aside0.mk (Below.refl w.heap.size w)
  have K1 := Aside0.mk (fun W => filter_calls 1 1 ⟨#[]⟩ ⟨#[1, 3, 6]⟩ W (by decide) (by decide))
  have K2 := Aside0.mk (fun W => unfilter_calls 1 1 ⟨#[]⟩ ⟨#[1, 2, 3]⟩ W (by decide) (by decide))
  have K3 := Aside0.mk (fun W => guess_calls 4 10 20 12 W (by decide) (by decide) (by decide))
  have K4 := Aside0.mk (fun W => choose_calls 1 ⟨#[]⟩ ⟨#[5, 5, 5]⟩ W (by decide) (by decide))
  simp only [flt_ex, unf_ex, gs_ex, ch_ex] at K1 K2 K3 K4
  go_enter Try.func8, Try.ntmps8
  go_wp2_with (first | (go_at_call 12; (with_reducible refine (K1.out _).mono ?_); rintro e w1 ⟨rfl, hb⟩; have nb_ := Aside0.mk (below_step (by repeat (first | (with_reducible first | exact HB.out | apply below_alloc | apply pw_below_drewN | apply below_drew1) | exact HB.out)) hb); clear HB; have HB := nb_; clear nb_; clear hb) | (go_at_call 14; (with_reducible refine (K2.out _).mono ?_); rintro e w2 ⟨rfl, hb⟩; have nb_ := Aside0.mk (below_step (by repeat (first | (with_reducible first | exact HB.out | apply below_alloc | apply pw_below_drewN | apply below_drew1) | exact HB.out)) hb); clear HB; have HB := nb_; clear nb_; clear hb) | (go_at_call 9; (with_reducible refine (K3.out _).mono ?_); rintro e w3 ⟨rfl, hb⟩; have nb_ := Aside0.mk (below_step (by repeat (first | (with_reducible first | exact HB.out | apply below_alloc | apply pw_below_drewN | apply below_drew1) | exact HB.out)) hb); clear HB; have HB := nb_; clear nb_; clear hb) | (go_at_call 16; (with_reducible refine (K4.out _).mono ?_); rintro e w4 ⟨rfl, hb⟩; have nb_ := Aside0.mk (below_step (by repeat (first | (with_reducible first | exact HB.out | apply below_alloc | apply pw_below_drewN | apply below_drew1) | exact HB.out)) hb); clear HB; have HB := nb_; clear nb_; clear hb))
  go_ret
  exact ⟨rfl, by repeat (first | (with_reducible first | exact HB.out | apply below_alloc | apply pw_below_drewN | apply below_drew1) | exact HB.out)⟩
end Go.Proofs.Ytflkcempeehilaa.Works
