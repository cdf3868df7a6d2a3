/- FilterBack holds: what is filtered is unfiltered again, and what is unfiltered is filtered again. It is stated for all arguments, without a condition. -/
import Derived.Test.YtflkcempeehilaaWorks
namespace Go.Proofs.Ytflkcempeehilaa.FBack
open Go.RowKit Go.Proofs.Ytflkcempeehilaa.PFilterRows Go.Proofs.YtflkcempeehilaaW.PrintWords Go.Proofs.YtflkcempeehilaaW.PrintLast Go.Proofs.YtflkcempeehilaaW.PrintMore Go.Proofs.Ytflkcempeehilaa.Gs Go.Proofs.Ytflkcempeehilaa.Each Go.Proofs.Ytflkcempeehilaa.Flt Go.Proofs.Ytflkcempeehilaa.Refs Go.Proofs.Ytflkcempeehilaa.Cho Go.Proofs.Ytflkcempeehilaa.Law Go.Proofs.Ytflkcempeehilaa.Works
attribute [local go_sem] max2_int min2_int max_two min_two max_three min_three max_four min_four
set_option linter.unusedVariables false
set_option linter.unusedSimpArgs false
theorem over_true (a b : ByteArray) (h : 400 < a.size ∨ 400 < b.size) : miradorlaw11_over.f a b = some true := by
  unfold miradorlaw11_over.f
  by_cases h1 : (a.size : Int) > 400
  · rw [if_pos h1]
  · rw [if_neg h1, decide_eq_true (by omega)]
theorem over_false (a b : ByteArray) (h : ¬ (400 < a.size ∨ 400 < b.size)) : miradorlaw11_over.f a b = some false := by
  unfold miradorlaw11_over.f
  rw [if_neg (by omega), decide_eq_false (by omega)]
theorem right_self (k st : Int) (row : ByteArray) (h0 : 0 ≤ k) (h4 : k ≤ 4) (h1 : 1 ≤ st) : rightB k st row row = true := by
  unfold rightB
  simp [h0, h4, h1]
set_option maxHeartbeats 8000000 in
set_option maxRecDepth 100000 in
theorem walk (a0 a1 : Int) (a2 a3 : ByteArray) (w : World) (hst : a1 ≤ 9223372036854775807) :
    Calls Try.prog 5 #[.int .i64 a0, .int .i64 a1, .string a2, .string a3] w fun e w' => e = .returned (.bool true) ∧ Below w.heap.size w w' := by
  have HB := Aside0.mk (Below.refl w.heap.size w)
  by_cases c0 : 400 < a2.size ∨ 400 < a3.size
  · skip
    have KW := Aside0.mk (fun W : World => works_calls W)
    have KO := Aside0.mk (fun W : World => miradorlaw11_over.calls a2 a3 true W (over_true a2 a3 c0))
    clear c0 hst
    go_enter Try.func5, Try.ntmps5
    go_wp2_with (first | (go_at_call 8; (with_reducible refine (KW.out _).mono ?_); rintro e w1 ⟨rfl, hb⟩; have nb_ := Aside0.mk (below_step (by repeat (first | (with_reducible first | exact HB.out | apply below_alloc | apply pw_below_drewN | apply below_drew1) | exact HB.out)) hb); clear HB; have HB := nb_; clear nb_; clear hb) | (go_at_call 11; (with_reducible refine (KO.out _).mono ?_); rintro e w' ⟨rfl, ⟨nd, rfl⟩⟩))
    go_ret
    exact ⟨rfl, by repeat (first | (with_reducible first | exact HB.out | apply below_alloc | apply pw_below_drewN | apply below_drew1) | exact HB.out)⟩
  · skip
    have KW := Aside0.mk (fun W : World => works_calls W)
    have KO := Aside0.mk (fun W : World => miradorlaw11_over.calls a2 a3 false W (over_false a2 a3 c0))
    have hrow : a3.size ≤ 1000000 := by omega
    by_cases hr : rightB a0 a1 a2 a3 = true
    · skip
      have hb := back a0 a1 a2 a3 hr
      have hf := forth a0 a1 a2 a3 hr
      have e1 := flt_right hr
      have e2 := unf_right hr
      obtain ⟨A, hA⟩ : ∃ A, strOfNums (fL a0 a1 a2 a3 a3.size) = A := ⟨_, rfl⟩
      obtain ⟨C, hC⟩ : ∃ A, strOfNums (uL a0 a1 a2 a3 a3.size) = A := ⟨_, rfl⟩
      have hs1 : A.size = a3.size := by rw [← hA, str_size, fL_len]
      have hs2 : C.size = a3.size := by rw [← hC, str_size, uL_len]
      rw [hA] at hb e1
      rw [hC] at hf e2
      have K1 := Aside0.mk (fun W : World => filter_calls a0 a1 a2 a3 W hst hrow)
      simp only [e1] at K1
      have K2 := Aside0.mk (fun W : World => unfilter_calls a0 a1 a2 A W hst (by omega))
      simp only [hb] at K2
      have K3 := Aside0.mk (fun W : World => unfilter_calls a0 a1 a2 a3 W hst hrow)
      simp only [e2] at K3
      have K4 := Aside0.mk (fun W : World => filter_calls a0 a1 a2 C W hst (by omega))
      simp only [hf] at K4
      have l1 : ((A.size : Int) == (a3.size : Int)) = true := beq_iff_eq.mpr (by omega)
      have l2 : (A.size == a3.size) = true := beq_iff_eq.mpr hs1
      clear hb hf e1 e2 hA hC hs2 hr hst hrow c0
      go_enter Try.func5, Try.ntmps5
      go_wp2_with (first | (go_at_call 8; (with_reducible refine (KW.out _).mono ?_); rintro e w1 ⟨rfl, hb⟩; have nb_ := Aside0.mk (below_step (by repeat (first | (with_reducible first | exact HB.out | apply below_alloc | apply pw_below_drewN | apply below_drew1) | exact HB.out)) hb); clear HB; have HB := nb_; clear nb_; clear hb) | (go_at_call 11; (with_reducible refine (KO.out _).mono ?_); rintro e w' ⟨rfl, ⟨nd, rfl⟩⟩) | (go_at_call 12; (with_reducible refine (K1.out _).mono ?_); rintro e w2 ⟨rfl, hb⟩; have nb_ := Aside0.mk (below_step (by repeat (first | (with_reducible first | exact HB.out | apply below_alloc | apply pw_below_drewN | apply below_drew1) | exact HB.out)) hb); clear HB; have HB := nb_; clear nb_; clear hb) | (go_at_call 14; (with_reducible refine (K2.out _).mono ?_); rintro e w3 ⟨rfl, hb⟩; have nb_ := Aside0.mk (below_step (by repeat (first | (with_reducible first | exact HB.out | apply below_alloc | apply pw_below_drewN | apply below_drew1) | exact HB.out)) hb); clear HB; have HB := nb_; clear nb_; clear hb) | (go_at_call 14; (with_reducible refine (K3.out _).mono ?_); rintro e w4 ⟨rfl, hb⟩; have nb_ := Aside0.mk (below_step (by repeat (first | (with_reducible first | exact HB.out | apply below_alloc | apply pw_below_drewN | apply below_drew1) | exact HB.out)) hb); clear HB; have HB := nb_; clear nb_; clear hb) | (go_at_call 12; (with_reducible refine (K4.out _).mono ?_); rintro e w5 ⟨rfl, hb⟩; have nb_ := Aside0.mk (below_step (by repeat (first | (with_reducible first | exact HB.out | apply below_alloc | apply pw_below_drewN | apply below_drew1) | exact HB.out)) hb); clear HB; have HB := nb_; clear nb_; clear hb))
      go_ret
      exact ⟨rfl, by repeat (first | (with_reducible first | exact HB.out | apply below_alloc | apply pw_below_drewN | apply below_drew1) | exact HB.out)⟩
    · skip
      have e1 := flt_wrong hr
      have K1 := Aside0.mk (fun W : World => filter_calls a0 a1 a2 a3 W hst hrow)
      simp only [e1] at K1
      clear e1 hr hst hrow c0
      go_enter Try.func5, Try.ntmps5
      go_wp2_with (first | (go_at_call 8; (with_reducible refine (KW.out _).mono ?_); rintro e w1 ⟨rfl, hb⟩; have nb_ := Aside0.mk (below_step (by repeat (first | (with_reducible first | exact HB.out | apply below_alloc | apply pw_below_drewN | apply below_drew1) | exact HB.out)) hb); clear HB; have HB := nb_; clear nb_; clear hb) | (go_at_call 11; (with_reducible refine (KO.out _).mono ?_); rintro e w' ⟨rfl, ⟨nd, rfl⟩⟩) | (go_at_call 12; (with_reducible refine (K1.out _).mono ?_); rintro e w2 ⟨rfl, hb⟩; have nb_ := Aside0.mk (below_step (by repeat (first | (with_reducible first | exact HB.out | apply below_alloc | apply pw_below_drewN | apply below_drew1) | exact HB.out)) hb); clear HB; have HB := nb_; clear nb_; clear hb))
      go_ret
      exact ⟨rfl, by repeat (first | (with_reducible first | exact HB.out | apply below_alloc | apply pw_below_drewN | apply below_drew1) | exact HB.out)⟩

end Go.Proofs.Ytflkcempeehilaa.FBack
