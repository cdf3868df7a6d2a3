/- FilterGuesses holds: what a byte is guessed to be is just what the document says, for any kind and any bytes. It is stated for all arguments, without a condition. -/
import Derived.Test.YtflkcempeehilaaWorks
namespace Go.Proofs.Ytflkcempeehilaa.FGuesses
open Go.RowKit Go.Proofs.Ytflkcempeehilaa.PFilterRows Go.Proofs.YtflkcempeehilaaW.PrintWords Go.Proofs.YtflkcempeehilaaW.PrintLast Go.Proofs.YtflkcempeehilaaW.PrintMore Go.Proofs.Ytflkcempeehilaa.Gs Go.Proofs.Ytflkcempeehilaa.Each Go.Proofs.Ytflkcempeehilaa.Flt Go.Proofs.Ytflkcempeehilaa.Refs Go.Proofs.Ytflkcempeehilaa.Cho Go.Proofs.Ytflkcempeehilaa.Law Go.Proofs.Ytflkcempeehilaa.Works
attribute [local go_sem] max2_int min2_int max_two min_two max_three min_three max_four min_four
set_option linter.unusedVariables false
set_option linter.unusedSimpArgs false
theorem over_true (a b : ByteArray) (h : 400 < a.size ∨ 400 < b.size) : miradorlaw11_over.f a b = some true := by
  unfold miradorlaw11_over.f
  by_cases h1 : (a.size : Int) > 400
  · rw [if_pos h1]
  · rw [if_neg h1, decide_eq_true (by omega)]
theorem over_false (a b : ByteArray) (h : ¬ (400 < a.size ∨ 400 < b.size)) : miradorlaw11_over.f a b = some false := by
  unfold miradorlaw11_over.f
  rw [if_neg (by omega), decide_eq_false (by omega)]
theorem right_self (k st : Int) (row : ByteArray) (h0 : 0 ≤ k) (h4 : k ≤ 4) (h1 : 1 ≤ st) : rightB k st row row = true := by
  unfold rightB
  simp [h0, h4, h1]
set_option maxHeartbeats 8000000 in
set_option maxRecDepth 100000 in
theorem walk (a0 a1 a2 a3 : Int) (w : World) (h1 : 0 ≤ a1 ∧ a1 ≤ 255) (h2 : 0 ≤ a2 ∧ a2 ≤ 255) (h3 : 0 ≤ a3 ∧ a3 ≤ 255) :
    Calls Try.prog 3 #[.int .i64 a0, .int .u8 a1, .int .u8 a2, .int .u8 a3] w fun e w' => e = .returned (.bool true) ∧ Below w.heap.size w w' := by
  have HB := Aside0.mk (Below.refl w.heap.size w)
  have KW := Aside0.mk (fun W : World => works_calls W)
  have K1 := Aside0.mk (fun W : World => guess_calls a0 (wrap64 a1) (wrap64 a2) (wrap64 a3) W (by unfold wrap64; omega) (by unfold wrap64; omega) (by unfold wrap64; omega))
  have K2 := Aside0.mk (fun W : World => refguess_calls a0 (wrap64 a1) (wrap64 a2) (wrap64 a3) W (by unfold wrap64; omega) (by unfold wrap64; omega) (by unfold wrap64; omega))
  clear h1 h2 h3
  go_enter Try.func3, Try.ntmps3
  go_wp2_with (first | (go_at_call 8; (with_reducible refine (KW.out _).mono ?_); rintro e w1 ⟨rfl, hb⟩; have nb_ := Aside0.mk (below_step (by repeat (first | (with_reducible first | exact HB.out | apply below_alloc | apply pw_below_drewN | apply below_drew1) | exact HB.out)) hb); clear HB; have HB := nb_; clear nb_; clear hb) | (go_at_call 9; (with_reducible refine (K1.out _).mono ?_); rintro e w2 ⟨rfl, hb⟩; have nb_ := Aside0.mk (below_step (by repeat (first | (with_reducible first | exact HB.out | apply below_alloc | apply pw_below_drewN | apply below_drew1) | exact HB.out)) hb); clear HB; have HB := nb_; clear nb_; clear hb) | (go_at_call 10; (with_reducible refine (K2.out _).mono ?_); rintro e w3 ⟨rfl, hb⟩; have nb_ := Aside0.mk (below_step (by repeat (first | (with_reducible first | exact HB.out | apply below_alloc | apply pw_below_drewN | apply below_drew1) | exact HB.out)) hb); clear HB; have HB := nb_; clear nb_; clear hb))
  go_ret
  exact ⟨rfl, by repeat (first | (with_reducible first | exact HB.out | apply below_alloc | apply pw_below_drewN | apply below_drew1) | exact HB.out)⟩

end Go.Proofs.Ytflkcempeehilaa.FGuesses
