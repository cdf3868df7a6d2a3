/- FilterBest holds: no kind has a lesser sum than the one that is chosen. It is stated for all arguments, without a condition. -/
import Derived.Test.YtflkcempeehilaaWorks
namespace Go.Proofs.Ytflkcempeehilaa.FBest
open Go.RowKit Go.Proofs.Ytflkcempeehilaa.PFilterRows Go.Proofs.YtflkcempeehilaaW.PrintWords Go.Proofs.YtflkcempeehilaaW.PrintLast Go.Proofs.YtflkcempeehilaaW.PrintMore Go.Proofs.Ytflkcempeehilaa.Gs Go.Proofs.Ytflkcempeehilaa.Each Go.Proofs.Ytflkcempeehilaa.Flt Go.Proofs.Ytflkcempeehilaa.Refs Go.Proofs.Ytflkcempeehilaa.Cho Go.Proofs.Ytflkcempeehilaa.Law Go.Proofs.Ytflkcempeehilaa.Works
attribute [local go_sem] max2_int min2_int max_two min_two max_three min_three max_four min_four
set_option linter.unusedVariables false
set_option linter.unusedSimpArgs false
theorem over_true (a b : ByteArray) (h : 400 < a.size ∨ 400 < b.size) : miradorlaw11_over.f a b = some true := by
  unfold miradorlaw11_over.f
  by_cases h1 : (a.size : Int) > 400
  · rw [if_pos h1]
  · rw [if_neg h1, decide_eq_true (by omega)]
theorem over_false (a b : ByteArray) (h : ¬ (400 < a.size ∨ 400 < b.size)) : miradorlaw11_over.f a b = some false := by
  unfold miradorlaw11_over.f
  rw [if_neg (by omega), decide_eq_false (by omega)]
theorem right_self (k st : Int) (row : ByteArray) (h0 : 0 ≤ k) (h4 : k ≤ 4) (h1 : 1 ≤ st) : rightB k st row row = true := by
  unfold rightB
  simp [h0, h4, h1]
set_option maxHeartbeats 8000000 in
set_option maxRecDepth 100000 in
theorem walk (a0 : Int) (a1 a2 : ByteArray) (a3 : Int) (w : World) (hst : a0 ≤ 9223372036854775807) :
    Calls Try.prog 6 #[.int .i64 a0, .string a1, .string a2, .int .i64 a3] w fun e w' => e = .returned (.bool true) ∧ Below w.heap.size w w' := by
  have HB := Aside0.mk (Below.refl w.heap.size w)
  by_cases c0 : 400 < a1.size ∨ 400 < a2.size
  · skip
    have KW := Aside0.mk (fun W : World => works_calls W)
    have KO := Aside0.mk (fun W : World => miradorlaw11_over.calls a1 a2 true W (over_true a1 a2 c0))
    clear c0 hst
    go_enter Try.func6, Try.ntmps6
    go_wp2_with (first | (go_at_call 8; (with_reducible refine (KW.out _).mono ?_); rintro e w1 ⟨rfl, hb⟩; have nb_ := Aside0.mk (below_step (by repeat (first | (with_reducible first | exact HB.out | apply below_alloc | apply pw_below_drewN | apply below_drew1) | exact HB.out)) hb); clear HB; have HB := nb_; clear nb_; clear hb) | (go_at_call 11; (with_reducible refine (KO.out _).mono ?_); rintro e w' ⟨rfl, ⟨nd, rfl⟩⟩))
    go_ret
    exact ⟨rfl, by repeat (first | (with_reducible first | exact HB.out | apply below_alloc | apply pw_below_drewN | apply below_drew1) | exact HB.out)⟩
  · skip
    have KW := Aside0.mk (fun W : World => works_calls W)
    have KO := Aside0.mk (fun W : World => miradorlaw11_over.calls a1 a2 false W (over_false a1 a2 c0))
    have hrow : a2.size ≤ 1000000 := by omega
    by_cases c1 : a0 < 1
    · have dc1 : decide (a0 < 1) = true := decide_eq_true c1
      clear c0 hst hrow c1
      go_enter Try.func6, Try.ntmps6
      go_wp2_with (first | (go_at_call 8; (with_reducible refine (KW.out _).mono ?_); rintro e w1 ⟨rfl, hb⟩; have nb_ := Aside0.mk (below_step (by repeat (first | (with_reducible first | exact HB.out | apply below_alloc | apply pw_below_drewN | apply below_drew1) | exact HB.out)) hb); clear HB; have HB := nb_; clear nb_; clear hb) | (go_at_call 11; (with_reducible refine (KO.out _).mono ?_); rintro e w' ⟨rfl, ⟨nd, rfl⟩⟩))
      go_ret
      exact ⟨rfl, by repeat (first | (with_reducible first | exact HB.out | apply below_alloc | apply pw_below_drewN | apply below_drew1) | exact HB.out)⟩
    · have dc1 : decide (a0 < 1) = false := decide_eq_false c1
      by_cases c2 : a3 < 0
      · have dc2 : decide (a3 < 0) = true := decide_eq_true c2
        clear c0 hst hrow c1 c2
        go_enter Try.func6, Try.ntmps6
        go_wp2_with (first | (go_at_call 8; (with_reducible refine (KW.out _).mono ?_); rintro e w1 ⟨rfl, hb⟩; have nb_ := Aside0.mk (below_step (by repeat (first | (with_reducible first | exact HB.out | apply below_alloc | apply pw_below_drewN | apply below_drew1) | exact HB.out)) hb); clear HB; have HB := nb_; clear nb_; clear hb) | (go_at_call 11; (with_reducible refine (KO.out _).mono ?_); rintro e w' ⟨rfl, ⟨nd, rfl⟩⟩))
        go_ret
        exact ⟨rfl, by repeat (first | (with_reducible first | exact HB.out | apply below_alloc | apply pw_below_drewN | apply below_drew1) | exact HB.out)⟩
      · have dc2 : decide (a3 < 0) = false := decide_eq_false c2
        by_cases c3 : 4 < a3
        · have dc3 : decide (4 < a3) = true := decide_eq_true c3
          clear c0 hst hrow c1 c2 c3
          go_enter Try.func6, Try.ntmps6
          go_wp2_with (first | (go_at_call 8; (with_reducible refine (KW.out _).mono ?_); rintro e w1 ⟨rfl, hb⟩; have nb_ := Aside0.mk (below_step (by repeat (first | (with_reducible first | exact HB.out | apply below_alloc | apply pw_below_drewN | apply below_drew1) | exact HB.out)) hb); clear HB; have HB := nb_; clear nb_; clear hb) | (go_at_call 11; (with_reducible refine (KO.out _).mono ?_); rintro e w' ⟨rfl, ⟨nd, rfl⟩⟩))
          go_ret
          exact ⟨rfl, by repeat (first | (with_reducible first | exact HB.out | apply below_alloc | apply pw_below_drewN | apply below_drew1) | exact HB.out)⟩
        · have dc3 : decide (4 < a3) = false := decide_eq_false c3
          by_cases hr : rightB 0 a0 a1 a2 = true
          · skip
            obtain ⟨b, hb, hb4, hj⟩ := ch_right a0 a1 a2 hr 4 (by omega)
            obtain ⟨j, rfl⟩ := Int.eq_ofNat_of_zero_le (show 0 ≤ a3 by omega)
            have hjj := hj j (by omega)
            have e1 := flt_right (right_kind hr (b : Int) (by omega) (by omega))
            have e2 := flt_right (right_kind hr (j : Int) (by omega) (by omega))
            have e3 := flt_upself a0 a2 (right_self 2 a0 a2 (by decide) (by decide) (by omega))
            rw [e1, e2] at hjj
            simp only at hjj
            have hb' : (ch a0 a1 a2 5).1 = (b : Int) := by rw [hb]
            obtain ⟨S1, h1⟩ : ∃ S, strOfNums (fL (b : Int) a0 a1 a2 a2.size) = S := ⟨_, rfl⟩
            obtain ⟨S2, h2⟩ : ∃ S, strOfNums (fL (j : Int) a0 a1 a2 a2.size) = S := ⟨_, rfl⟩
            have z1 : S1.size ≤ 1000000 := by rw [← h1, str_size, fL_len]; omega
            have z2 : S2.size ≤ 1000000 := by rw [← h2, str_size, fL_len]; omega
            rw [h1] at e1 hjj
            rw [h2] at e2 hjj
            obtain ⟨W1, g1⟩ : ∃ S, wgt S1 = S := ⟨_, rfl⟩
            obtain ⟨W2, g2⟩ : ∃ S, wgt S2 = S := ⟨_, rfl⟩
            rw [g1, g2] at hjj
            have g3 := wgt_zeros a2.size
            have z3 : (zeros a2.size).size ≤ 1000000 := by rw [zeros_size]; exact hrow
            generalize zeros a2.size = Z at e3 g3 z3
            have K1 := Aside0.mk (fun W : World => choose_calls a0 a1 a2 W hst hrow)
            simp only [hb'] at K1
            have K2 := Aside0.mk (fun W : World => filter_calls (b : Int) a0 a1 a2 W hst hrow)
            simp only [e1] at K2
            have K3 := Aside0.mk (fun W : World => filter_calls (j : Int) a0 a1 a2 W hst hrow)
            simp only [e2] at K3
            have K4 := Aside0.mk (fun W : World => filter_calls 2 a0 a2 a2 W hst hrow)
            simp only [e3] at K4
            have K5 := Aside0.mk (fun W : World => refweight_calls S1 W z1)
            simp only [g1] at K5
            have K6 := Aside0.mk (fun W : World => refweight_calls S2 W z2)
            simp only [g2] at K6
            have K7 := Aside0.mk (fun W : World => refweight_calls Z W z3)
            simp only [g3] at K7
            have n1 : decide (W1 ≤ W2) = true := decide_eq_true hjj.1
            by_cases hbj : b ≤ j
            · skip
              have n2 : decide ((b : Int) ≤ (j : Int)) = true := decide_eq_true (by omega)
              have n3 : decide (b ≤ j) = true := decide_eq_true hbj
              clear e1 e2 e3 h1 h2 g1 g2 g3 z1 z2 z3 hb hb' hb4 hj hjj hr hst hrow c0 c1 c2 c3 hbj
              go_enter Try.func6, Try.ntmps6
              go_wp2_with (first | (go_at_call 8; (with_reducible refine (KW.out _).mono ?_); rintro e w1 ⟨rfl, hb⟩; have nb_ := Aside0.mk (below_step (by repeat (first | (with_reducible first | exact HB.out | apply below_alloc | apply pw_below_drewN | apply below_drew1) | exact HB.out)) hb); clear HB; have HB := nb_; clear nb_; clear hb) | (go_at_call 11; (with_reducible refine (KO.out _).mono ?_); rintro e w' ⟨rfl, ⟨nd, rfl⟩⟩) | (go_at_call 16; (with_reducible refine (K1.out _).mono ?_); rintro e w2 ⟨rfl, hb⟩; have nb_ := Aside0.mk (below_step (by repeat (first | (with_reducible first | exact HB.out | apply below_alloc | apply pw_below_drewN | apply below_drew1) | exact HB.out)) hb); clear HB; have HB := nb_; clear nb_; clear hb) | (go_at_call 12; (with_reducible refine (K2.out _).mono ?_); rintro e w3 ⟨rfl, hb⟩; have nb_ := Aside0.mk (below_step (by repeat (first | (with_reducible first | exact HB.out | apply below_alloc | apply pw_below_drewN | apply below_drew1) | exact HB.out)) hb); clear HB; have HB := nb_; clear nb_; clear hb) | (go_at_call 12; (with_reducible refine (K3.out _).mono ?_); rintro e w4 ⟨rfl, hb⟩; have nb_ := Aside0.mk (below_step (by repeat (first | (with_reducible first | exact HB.out | apply below_alloc | apply pw_below_drewN | apply below_drew1) | exact HB.out)) hb); clear HB; have HB := nb_; clear nb_; clear hb) | (go_at_call 12; (with_reducible refine (K4.out _).mono ?_); rintro e w5 ⟨rfl, hb⟩; have nb_ := Aside0.mk (below_step (by repeat (first | (with_reducible first | exact HB.out | apply below_alloc | apply pw_below_drewN | apply below_drew1) | exact HB.out)) hb); clear HB; have HB := nb_; clear nb_; clear hb) | (go_at_call 18; (with_reducible refine (K5.out _).mono ?_); rintro e w6 ⟨rfl, hb⟩; have nb_ := Aside0.mk (below_step (by repeat (first | (with_reducible first | exact HB.out | apply below_alloc | apply pw_below_drewN | apply below_drew1) | exact HB.out)) hb); clear HB; have HB := nb_; clear nb_; clear hb) | (go_at_call 18; (with_reducible refine (K6.out _).mono ?_); rintro e w7 ⟨rfl, hb⟩; have nb_ := Aside0.mk (below_step (by repeat (first | (with_reducible first | exact HB.out | apply below_alloc | apply pw_below_drewN | apply below_drew1) | exact HB.out)) hb); clear HB; have HB := nb_; clear nb_; clear hb) | (go_at_call 18; (with_reducible refine (K7.out _).mono ?_); rintro e w8 ⟨rfl, hb⟩; have nb_ := Aside0.mk (below_step (by repeat (first | (with_reducible first | exact HB.out | apply below_alloc | apply pw_below_drewN | apply below_drew1) | exact HB.out)) hb); clear HB; have HB := nb_; clear nb_; clear hb))
              go_ret
              exact ⟨rfl, by repeat (first | (with_reducible first | exact HB.out | apply below_alloc | apply pw_below_drewN | apply below_drew1) | exact HB.out)⟩
            · skip
              have n2 : decide ((b : Int) ≤ (j : Int)) = false := decide_eq_false (by omega)
              have n3 : decide (b ≤ j) = false := decide_eq_false hbj
              have n4 : decide (W1 < W2) = true := decide_eq_true (by rcases hjj.2 with h | h; exact absurd h hbj; exact h)
              clear e1 e2 e3 h1 h2 g1 g2 g3 z1 z2 z3 hb hb' hb4 hj hjj hr hst hrow c0 c1 c2 c3 hbj
              go_enter Try.func6, Try.ntmps6
              go_wp2_with (first | (go_at_call 8; (with_reducible refine (KW.out _).mono ?_); rintro e w1 ⟨rfl, hb⟩; have nb_ := Aside0.mk (below_step (by repeat (first | (with_reducible first | exact HB.out | apply below_alloc | apply pw_below_drewN | apply below_drew1) | exact HB.out)) hb); clear HB; have HB := nb_; clear nb_; clear hb) | (go_at_call 11; (with_reducible refine (KO.out _).mono ?_); rintro e w' ⟨rfl, ⟨nd, rfl⟩⟩) | (go_at_call 16; (with_reducible refine (K1.out _).mono ?_); rintro e w2 ⟨rfl, hb⟩; have nb_ := Aside0.mk (below_step (by repeat (first | (with_reducible first | exact HB.out | apply below_alloc | apply pw_below_drewN | apply below_drew1) | exact HB.out)) hb); clear HB; have HB := nb_; clear nb_; clear hb) | (go_at_call 12; (with_reducible refine (K2.out _).mono ?_); rintro e w3 ⟨rfl, hb⟩; have nb_ := Aside0.mk (below_step (by repeat (first | (with_reducible first | exact HB.out | apply below_alloc | apply pw_below_drewN | apply below_drew1) | exact HB.out)) hb); clear HB; have HB := nb_; clear nb_; clear hb) | (go_at_call 12; (with_reducible refine (K3.out _).mono ?_); rintro e w4 ⟨rfl, hb⟩; have nb_ := Aside0.mk (below_step (by repeat (first | (with_reducible first | exact HB.out | apply below_alloc | apply pw_below_drewN | apply below_drew1) | exact HB.out)) hb); clear HB; have HB := nb_; clear nb_; clear hb) | (go_at_call 12; (with_reducible refine (K4.out _).mono ?_); rintro e w5 ⟨rfl, hb⟩; have nb_ := Aside0.mk (below_step (by repeat (first | (with_reducible first | exact HB.out | apply below_alloc | apply pw_below_drewN | apply below_drew1) | exact HB.out)) hb); clear HB; have HB := nb_; clear nb_; clear hb) | (go_at_call 18; (with_reducible refine (K5.out _).mono ?_); rintro e w6 ⟨rfl, hb⟩; have nb_ := Aside0.mk (below_step (by repeat (first | (with_reducible first | exact HB.out | apply below_alloc | apply pw_below_drewN | apply below_drew1) | exact HB.out)) hb); clear HB; have HB := nb_; clear nb_; clear hb) | (go_at_call 18; (with_reducible refine (K6.out _).mono ?_); rintro e w7 ⟨rfl, hb⟩; have nb_ := Aside0.mk (below_step (by repeat (first | (with_reducible first | exact HB.out | apply below_alloc | apply pw_below_drewN | apply below_drew1) | exact HB.out)) hb); clear HB; have HB := nb_; clear nb_; clear hb) | (go_at_call 18; (with_reducible refine (K7.out _).mono ?_); rintro e w8 ⟨rfl, hb⟩; have nb_ := Aside0.mk (below_step (by repeat (first | (with_reducible first | exact HB.out | apply below_alloc | apply pw_below_drewN | apply below_drew1) | exact HB.out)) hb); clear HB; have HB := nb_; clear nb_; clear hb))
              go_ret
              exact ⟨rfl, by repeat (first | (with_reducible first | exact HB.out | apply below_alloc | apply pw_below_drewN | apply below_drew1) | exact HB.out)⟩
          · skip
            have e0 : (ch a0 a1 a2 5).1 = 0 := by rw [ch_wrong a0 a1 a2 hr 5 (by omega)]
            have e1 := flt_wrong hr
            have e2 := flt_wrong (k := a3) (fun e => hr (right_kind e 0 (by omega) (by omega)))
            have K1 := Aside0.mk (fun W : World => choose_calls a0 a1 a2 W hst hrow)
            simp only [e0] at K1
            have K2 := Aside0.mk (fun W : World => filter_calls 0 a0 a1 a2 W hst hrow)
            simp only [e1] at K2
            have K3 := Aside0.mk (fun W : World => filter_calls a3 a0 a1 a2 W hst hrow)
            simp only [e2] at K3
            clear e0 e1 e2 hr hst hrow c0 c1 c2 c3
            go_enter Try.func6, Try.ntmps6
            go_wp2_with (first | (go_at_call 8; (with_reducible refine (KW.out _).mono ?_); rintro e w1 ⟨rfl, hb⟩; have nb_ := Aside0.mk (below_step (by repeat (first | (with_reducible first | exact HB.out | apply below_alloc | apply pw_below_drewN | apply below_drew1) | exact HB.out)) hb); clear HB; have HB := nb_; clear nb_; clear hb) | (go_at_call 11; (with_reducible refine (KO.out _).mono ?_); rintro e w' ⟨rfl, ⟨nd, rfl⟩⟩) | (go_at_call 16; (with_reducible refine (K1.out _).mono ?_); rintro e w2 ⟨rfl, hb⟩; have nb_ := Aside0.mk (below_step (by repeat (first | (with_reducible first | exact HB.out | apply below_alloc | apply pw_below_drewN | apply below_drew1) | exact HB.out)) hb); clear HB; have HB := nb_; clear nb_; clear hb) | (go_at_call 12; (with_reducible refine (K2.out _).mono ?_); rintro e w3 ⟨rfl, hb⟩; have nb_ := Aside0.mk (below_step (by repeat (first | (with_reducible first | exact HB.out | apply below_alloc | apply pw_below_drewN | apply below_drew1) | exact HB.out)) hb); clear HB; have HB := nb_; clear nb_; clear hb) | (go_at_call 12; (with_reducible refine (K3.out _).mono ?_); rintro e w4 ⟨rfl, hb⟩; have nb_ := Aside0.mk (below_step (by repeat (first | (with_reducible first | exact HB.out | apply below_alloc | apply pw_below_drewN | apply below_drew1) | exact HB.out)) hb); clear HB; have HB := nb_; clear nb_; clear hb))
            go_ret
            exact ⟨rfl, by repeat (first | (with_reducible first | exact HB.out | apply below_alloc | apply pw_below_drewN | apply below_drew1) | exact HB.out)⟩

end Go.Proofs.Ytflkcempeehilaa.FBest
