/- FilterPlain holds: by None a row is as it is; ahead of all Up changes nothing and Paeth is Sub; rows of noughts stay so. It is stated for all arguments, without a condition. -/
import Derived.Test.YtflkcempeehilaaWorks
namespace Go.Proofs.Ytflkcempeehilaa.FPlain
open Go.RowKit Go.Proofs.Ytflkcempeehilaa.PFilterRows Go.Proofs.YtflkcempeehilaaW.PrintWords Go.Proofs.YtflkcempeehilaaW.PrintLast Go.Proofs.YtflkcempeehilaaW.PrintMore Go.Proofs.Ytflkcempeehilaa.Gs Go.Proofs.Ytflkcempeehilaa.Each Go.Proofs.Ytflkcempeehilaa.Flt Go.Proofs.Ytflkcempeehilaa.Refs Go.Proofs.Ytflkcempeehilaa.Cho Go.Proofs.Ytflkcempeehilaa.Law Go.Proofs.Ytflkcempeehilaa.Works
attribute [local go_sem] max2_int min2_int max_two min_two max_three min_three max_four min_four
set_option linter.unusedVariables false
set_option linter.unusedSimpArgs false
theorem over_true (a b : ByteArray) (h : 400 < a.size ∨ 400 < b.size) : miradorlaw11_over.f a b = some true := by
  unfold miradorlaw11_over.f
  by_cases h1 : (a.size : Int) > 400
  · rw [if_pos h1]
  · rw [if_neg h1, decide_eq_true (by omega)]
theorem over_false (a b : ByteArray) (h : ¬ (400 < a.size ∨ 400 < b.size)) : miradorlaw11_over.f a b = some false := by
  unfold miradorlaw11_over.f
  rw [if_neg (by omega), decide_eq_false (by omega)]
theorem right_self (k st : Int) (row : ByteArray) (h0 : 0 ≤ k) (h4 : k ≤ 4) (h1 : 1 ≤ st) : rightB k st row row = true := by
  unfold rightB
  simp [h0, h4, h1]
set_option maxHeartbeats 8000000 in
set_option maxRecDepth 100000 in
theorem walk (a0 : Int) (a1 : ByteArray) (w : World) (hst : a0 ≤ 9223372036854775807) :
    Calls Try.prog 7 #[.int .i64 a0, .string a1] w fun e w' => e = .returned (.bool true) ∧ Below w.heap.size w w' := by
  have HB := Aside0.mk (Below.refl w.heap.size w)
  by_cases c0 : 400 < a1.size
  · have d0 : decide (400 < (a1.size : Int)) = true := decide_eq_true (by omega)
    have d1 : decide (400 < a1.size) = true := decide_eq_true c0
    have KW := Aside0.mk (fun W : World => works_calls W)
    clear c0 hst
    go_enter Try.func7, Try.ntmps7
    go_wp2_with (first | (go_at_call 8; (with_reducible refine (KW.out _).mono ?_); rintro e w1 ⟨rfl, hb⟩; have nb_ := Aside0.mk (below_step (by repeat (first | (with_reducible first | exact HB.out | apply below_alloc | apply pw_below_drewN | apply below_drew1) | exact HB.out)) hb); clear HB; have HB := nb_; clear nb_; clear hb))
    go_ret
    exact ⟨rfl, by repeat (first | (with_reducible first | exact HB.out | apply below_alloc | apply pw_below_drewN | apply below_drew1) | exact HB.out)⟩
  · have d0 : decide (400 < (a1.size : Int)) = false := decide_eq_false (by omega)
    have d1 : decide (400 < a1.size) = false := decide_eq_false c0
    have KW := Aside0.mk (fun W : World => works_calls W)
    by_cases c1 : a0 < 1
    · have d2 : decide (a0 < 1) = true := decide_eq_true c1
      clear c0 c1 hst
      go_enter Try.func7, Try.ntmps7
      go_wp2_with (first | (go_at_call 8; (with_reducible refine (KW.out _).mono ?_); rintro e w1 ⟨rfl, hb⟩; have nb_ := Aside0.mk (below_step (by repeat (first | (with_reducible first | exact HB.out | apply below_alloc | apply pw_below_drewN | apply below_drew1) | exact HB.out)) hb); clear HB; have HB := nb_; clear nb_; clear hb))
      go_ret
      exact ⟨rfl, by repeat (first | (with_reducible first | exact HB.out | apply below_alloc | apply pw_below_drewN | apply below_drew1) | exact HB.out)⟩
    · have d2 : decide (a0 < 1) = false := decide_eq_false c1
      have hrow : a1.size ≤ 1000000 := by omega
      have h1 : 1 ≤ a0 := by omega
      have e1 := flt_none a0 a1 (right_self 0 a0 a1 (by decide) (by decide) h1)
      have e2 := flt_up a0 a1 (right_none 2 a0 a1 (by decide) (by decide) h1)
      have e3 := flt_paeth a0 a1 (right_none 4 a0 a1 (by decide) (by decide) h1)
      have e4 := flt_right (right_none 1 a0 a1 (by decide) (by decide) h1)
      rw [e4] at e3
      obtain ⟨P, hP⟩ : ∃ S, strOfNums (fL 1 a0 ⟨#[]⟩ a1 a1.size) = S := ⟨_, rfl⟩
      rw [hP] at e3 e4
      have e5 := flt_zeros a0 a1.size (right_self 3 a0 _ (by decide) (by decide) h1)
      have e6 := unf_zeros a0 a1.size (right_self 4 a0 _ (by decide) (by decide) h1)
      obtain ⟨Z, hZ⟩ : ∃ S, zeros a1.size = S := ⟨_, rfl⟩
      have z1 : Z.size ≤ 1000000 := by rw [← hZ, zeros_size]; exact hrow
      rw [hZ] at e5 e6
      have HZ := Aside0.mk (show strOfNums (List.replicate a1.size 0) = Z from hZ)
      have HN := Aside0.mk (show a1.size ≤ 400 by omega)
      have K1 := Aside0.mk (fun W : World => filter_calls 0 a0 a1 a1 W hst hrow)
      simp only [e1] at K1
      have K2 := Aside0.mk (fun W : World => filter_calls 2 a0 ⟨#[]⟩ a1 W hst hrow)
      simp only [e2] at K2
      have K3 := Aside0.mk (fun W : World => filter_calls 4 a0 ⟨#[]⟩ a1 W hst hrow)
      simp only [e3] at K3
      have K4 := Aside0.mk (fun W : World => filter_calls 1 a0 ⟨#[]⟩ a1 W hst hrow)
      simp only [e4] at K4
      have K5 := Aside0.mk (fun W : World => filter_calls 3 a0 Z Z W hst z1)
      simp only [e5] at K5
      have K6 := Aside0.mk (fun W : World => unfilter_calls 4 a0 Z Z W hst z1)
      simp only [e6] at K6
      clear c0 c1 hst hrow h1 e1 e2 e3 e4 e5 e6 hP hZ z1
      go_enter Try.func7, Try.ntmps7
      go_wp2_with (first | (go_at_call 8; (with_reducible refine (KW.out _).mono ?_); rintro e w1 ⟨rfl, hb⟩; have nb_ := Aside0.mk (below_step (by repeat (first | (with_reducible first | exact HB.out | apply below_alloc | apply pw_below_drewN | apply below_drew1) | exact HB.out)) hb); clear HB; have HB := nb_; clear nb_; clear hb) | (go_at_call 12; (with_reducible refine (K1.out _).mono ?_); rintro e w2 ⟨rfl, hb⟩; have nb_ := Aside0.mk (below_step (by repeat (first | (with_reducible first | exact HB.out | apply below_alloc | apply pw_below_drewN | apply below_drew1) | exact HB.out)) hb); clear HB; have HB := nb_; clear nb_; clear hb) | (go_at_call 12; (with_reducible refine (K2.out _).mono ?_); rintro e w3 ⟨rfl, hb⟩; have nb_ := Aside0.mk (below_step (by repeat (first | (with_reducible first | exact HB.out | apply below_alloc | apply pw_below_drewN | apply below_drew1) | exact HB.out)) hb); clear HB; have HB := nb_; clear nb_; clear hb) | (go_at_call 12; (with_reducible refine (K3.out _).mono ?_); rintro e w4 ⟨rfl, hb⟩; have nb_ := Aside0.mk (below_step (by repeat (first | (with_reducible first | exact HB.out | apply below_alloc | apply pw_below_drewN | apply below_drew1) | exact HB.out)) hb); clear HB; have HB := nb_; clear nb_; clear hb) | (go_at_call 12; (with_reducible refine (K4.out _).mono ?_); rintro e w5 ⟨rfl, hb⟩; have nb_ := Aside0.mk (below_step (by repeat (first | (with_reducible first | exact HB.out | apply below_alloc | apply pw_below_drewN | apply below_drew1) | exact HB.out)) hb); clear HB; have HB := nb_; clear nb_; clear hb) | ((with_reducible refine gate_dst (N := 58) rfl ?_); refine Kd.R_make (Kd.int .u8) _ 5 rfl (N := 58) rfl 33 _ _ rfl (a1.size : Int) rfl rfl Try.underlying33 (.int .u8 0) 1 info5 rfl (by decide) (by omega) 0 (ok := fun _ => True) (okp := fun _ => True) rfl (fun _ hk => hk) trivial (by omega) (by have := HN.out; omega) (Below.refl _ _) (Nat.le_refl _) ?_; intro v102 w2 ho_ hb hg_ hnew_; clear hg_ hnew_; rw [Int.toNat_natCast] at ho_; obtain ⟨A4, c4, e4⟩ := Kd.R_slice ho_; rw [List.length_replicate] at e4; subst e4; have hcv := own_string (P := Try.prog) Try.underlying33 Try.underlying5 Try.underlying9 (Kd.own_of_R ho_); rw [HZ.out] at hcv; have nb_ := Aside0.mk (below_step (by repeat (first | (with_reducible first | exact HB.out | apply below_alloc | apply pw_below_drewN | apply below_drew1) | exact HB.out)) hb); clear HB; have HB := nb_; clear nb_; clear hb ho_) | (go_at_call 12; (with_reducible refine (K5.out _).mono ?_); rintro e w6 ⟨rfl, hb⟩; have nb_ := Aside0.mk (below_step (by repeat (first | (with_reducible first | exact HB.out | apply below_alloc | apply pw_below_drewN | apply below_drew1) | exact HB.out)) hb); clear HB; have HB := nb_; clear nb_; clear hb) | (go_at_call 14; (with_reducible refine (K6.out _).mono ?_); rintro e w7 ⟨rfl, hb⟩; have nb_ := Aside0.mk (below_step (by repeat (first | (with_reducible first | exact HB.out | apply below_alloc | apply pw_below_drewN | apply below_drew1) | exact HB.out)) hb); clear HB; have HB := nb_; clear nb_; clear hb))
      go_ret
      exact ⟨rfl, by repeat (first | (with_reducible first | exact HB.out | apply below_alloc | apply pw_below_drewN | apply below_drew1) | exact HB.out)⟩

end Go.Proofs.Ytflkcempeehilaa.FPlain
