/- FilterRows holds: any row filtered, and unfiltered, by any kind, or that it can't be, and the chosen kind, are just what the document says. It is stated for all arguments, without a condition. -/
import Derived.Test.YtflkcempeehilaaWorks
namespace Go.Proofs.Ytflkcempeehilaa.FRows
open Go.RowKit Go.Proofs.Ytflkcempeehilaa.PFilterRows Go.Proofs.YtflkcempeehilaaW.PrintWords Go.Proofs.YtflkcempeehilaaW.PrintLast Go.Proofs.YtflkcempeehilaaW.PrintMore Go.Proofs.Ytflkcempeehilaa.Gs Go.Proofs.Ytflkcempeehilaa.Each Go.Proofs.Ytflkcempeehilaa.Flt Go.Proofs.Ytflkcempeehilaa.Refs Go.Proofs.Ytflkcempeehilaa.Cho Go.Proofs.Ytflkcempeehilaa.Law Go.Proofs.Ytflkcempeehilaa.Works
attribute [local go_sem] max2_int min2_int max_two min_two max_three min_three max_four min_four
set_option linter.unusedVariables false
set_option linter.unusedSimpArgs false
theorem over_true (a b : ByteArray) (h : 400 < a.size ∨ 400 < b.size) : miradorlaw11_over.f a b = some true := by
  unfold miradorlaw11_over.f
  by_cases h1 : (a.size : Int) > 400
  · rw [if_pos h1]
  · rw [if_neg h1, decide_eq_true (by omega)]
theorem over_false (a b : ByteArray) (h : ¬ (400 < a.size ∨ 400 < b.size)) : miradorlaw11_over.f a b = some false := by
  unfold miradorlaw11_over.f
  rw [if_neg (by omega), decide_eq_false (by omega)]
theorem right_self (k st : Int) (row : ByteArray) (h0 : 0 ≤ k) (h4 : k ≤ 4) (h1 : 1 ≤ st) : rightB k st row row = true := by
  unfold rightB
  simp [h0, h4, h1]
set_option maxHeartbeats 8000000 in
set_option maxRecDepth 100000 in
theorem walk (a0 a1 : Int) (a2 a3 : ByteArray) (w : World) (hst : a1 ≤ 9223372036854775807) :
    Calls Try.prog 4 #[.int .i64 a0, .int .i64 a1, .string a2, .string a3] w fun e w' => e = .returned (.bool true) ∧ Below w.heap.size w w' := by
  have HB := Aside0.mk (Below.refl w.heap.size w)
  by_cases c0 : 400 < a2.size ∨ 400 < a3.size
  · skip
    have KW := Aside0.mk (fun W : World => works_calls W)
    have KO := Aside0.mk (fun W : World => miradorlaw11_over.calls a2 a3 true W (over_true a2 a3 c0))
    clear c0 hst
    go_enter Try.func4, Try.ntmps4
    go_wp2_with (first | (go_at_call 8; (with_reducible refine (KW.out _).mono ?_); rintro e w1 ⟨rfl, hb⟩; have nb_ := Aside0.mk (below_step (by repeat (first | (with_reducible first | exact HB.out | apply below_alloc | apply pw_below_drewN | apply below_drew1) | exact HB.out)) hb); clear HB; have HB := nb_; clear nb_; clear hb) | (go_at_call 11; (with_reducible refine (KO.out _).mono ?_); rintro e w' ⟨rfl, ⟨nd, rfl⟩⟩))
    go_ret
    exact ⟨rfl, by repeat (first | (with_reducible first | exact HB.out | apply below_alloc | apply pw_below_drewN | apply below_drew1) | exact HB.out)⟩
  · skip
    have KW := Aside0.mk (fun W : World => works_calls W)
    have KO := Aside0.mk (fun W : World => miradorlaw11_over.calls a2 a3 false W (over_false a2 a3 c0))
    have hrow : a3.size ≤ 1000000 := by omega
    obtain ⟨S1, h1⟩ : ∃ S, (flt a0 a1 a2 a3).1 = S := ⟨_, rfl⟩
    obtain ⟨E1, h2⟩ : ∃ S, (flt a0 a1 a2 a3).2 = S := ⟨_, rfl⟩
    obtain ⟨S2, h3⟩ : ∃ S, (unf a0 a1 a2 a3).1 = S := ⟨_, rfl⟩
    obtain ⟨E2, h4⟩ : ∃ S, (unf a0 a1 a2 a3).2 = S := ⟨_, rfl⟩
    obtain ⟨C, h5⟩ : ∃ S, (ch a1 a2 a3 5).1 = S := ⟨_, rfl⟩
    have K1 := Aside0.mk (fun W : World => filter_calls a0 a1 a2 a3 W hst hrow)
    have K2 := Aside0.mk (fun W : World => reffilter_calls a0 a1 a2 a3 W hst hrow)
    have K3 := Aside0.mk (fun W : World => unfilter_calls a0 a1 a2 a3 W hst hrow)
    have K4 := Aside0.mk (fun W : World => refunfilter_calls a0 a1 a2 a3 W hst hrow)
    have K5 := Aside0.mk (fun W : World => choose_calls a1 a2 a3 W hst hrow)
    have K6 := Aside0.mk (fun W : World => refchoose_calls a1 a2 a3 W hst hrow)
    simp only [h1, h2] at K1 K2
    simp only [h3, h4] at K3 K4
    simp only [h5] at K5 K6
    clear h1 h2 h3 h4 h5 hst hrow c0
    go_enter Try.func4, Try.ntmps4
    go_wp2_with (first | (go_at_call 8; (with_reducible refine (KW.out _).mono ?_); rintro e w1 ⟨rfl, hb⟩; have nb_ := Aside0.mk (below_step (by repeat (first | (with_reducible first | exact HB.out | apply below_alloc | apply pw_below_drewN | apply below_drew1) | exact HB.out)) hb); clear HB; have HB := nb_; clear nb_; clear hb) | (go_at_call 11; (with_reducible refine (KO.out _).mono ?_); rintro e w' ⟨rfl, ⟨nd, rfl⟩⟩) | (go_at_call 12; (with_reducible refine (K1.out _).mono ?_); rintro e w2 ⟨rfl, hb⟩; have nb_ := Aside0.mk (below_step (by repeat (first | (with_reducible first | exact HB.out | apply below_alloc | apply pw_below_drewN | apply below_drew1) | exact HB.out)) hb); clear HB; have HB := nb_; clear nb_; clear hb) | (go_at_call 13; (with_reducible refine (K2.out _).mono ?_); rintro e w3 ⟨rfl, hb⟩; have nb_ := Aside0.mk (below_step (by repeat (first | (with_reducible first | exact HB.out | apply below_alloc | apply pw_below_drewN | apply below_drew1) | exact HB.out)) hb); clear HB; have HB := nb_; clear nb_; clear hb) | (go_at_call 14; (with_reducible refine (K3.out _).mono ?_); rintro e w4 ⟨rfl, hb⟩; have nb_ := Aside0.mk (below_step (by repeat (first | (with_reducible first | exact HB.out | apply below_alloc | apply pw_below_drewN | apply below_drew1) | exact HB.out)) hb); clear HB; have HB := nb_; clear nb_; clear hb) | (go_at_call 15; (with_reducible refine (K4.out _).mono ?_); rintro e w5 ⟨rfl, hb⟩; have nb_ := Aside0.mk (below_step (by repeat (first | (with_reducible first | exact HB.out | apply below_alloc | apply pw_below_drewN | apply below_drew1) | exact HB.out)) hb); clear HB; have HB := nb_; clear nb_; clear hb) | (go_at_call 16; (with_reducible refine (K5.out _).mono ?_); rintro e w6 ⟨rfl, hb⟩; have nb_ := Aside0.mk (below_step (by repeat (first | (with_reducible first | exact HB.out | apply below_alloc | apply pw_below_drewN | apply below_drew1) | exact HB.out)) hb); clear HB; have HB := nb_; clear nb_; clear hb) | (go_at_call 17; (with_reducible refine (K6.out _).mono ?_); rintro e w7 ⟨rfl, hb⟩; have nb_ := Aside0.mk (below_step (by repeat (first | (with_reducible first | exact HB.out | apply below_alloc | apply pw_below_drewN | apply below_drew1) | exact HB.out)) hb); clear HB; have HB := nb_; clear nb_; clear hb))
    go_ret
    exact ⟨rfl, by repeat (first | (with_reducible first | exact HB.out | apply below_alloc | apply pw_below_drewN | apply below_drew1) | exact HB.out)⟩

end Go.Proofs.Ytflkcempeehilaa.FRows
