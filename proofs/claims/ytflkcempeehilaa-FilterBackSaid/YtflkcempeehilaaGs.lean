/- What a byte is guessed to be: filter.Guess and the document's Guess answer what the plain function gs says. -/
import Derived.Test.YtflkcempeehilaaPFilterRowsx2
namespace Go.Proofs.Ytflkcempeehilaa.Gs
open Go.RowKit Go.Proofs.Ytflkcempeehilaa.PFilterRows Go.Proofs.YtflkcempeehilaaW.PrintWords Go.Proofs.YtflkcempeehilaaW.PrintLast Go.Proofs.YtflkcempeehilaaW.PrintMore
set_option linter.unusedVariables false
set_option linter.unusedSimpArgs false

def ap (a b : Int) : Int := mx (a - b) (b - a)
theorem apart_calls (a b : Int) (w : World) (ha : -1000 ≤ a ∧ a ≤ 1000) (hb : -1000 ≤ b ∧ b ≤ 1000) :
    Calls Try.prog 30 #[.int .i64 a, .int .i64 b] w fun e w' => e = .returned (.int .i64 (ap a b)) ∧ Below w.heap.size w w' :=
  filter_apart.calls a b _ w (by
    show some (mx (wrap64 (a - b)) (wrap64 (b - a))) = some (mx (a - b) (b - a))
    rw [show wrap64 (a - b) = a - b from by unfold wrap64; omega, show wrap64 (b - a) = b - a from by unfold wrap64; omega])
/-- The nearer one of two. -/
def nr (p x y : Int) : Int := if ap p y < ap p x then y else x
def near (a b c : Int) : Int := nr (a + b - c) (nr (a + b - c) a b) c
/-- What a byte is guessed to be. -/
def gs (k a b c : Int) : Int := if k = 1 then a else if k = 2 then b else if k = 3 then (a + b) / 2 else if k = 4 then near a b c else 0
theorem nr_or (p x y : Int) : nr p x y = x ∨ nr p x y = y := by unfold nr; split <;> simp
theorem near_range (a b c : Int) (ha : 0 ≤ a ∧ a ≤ 255) (hb : 0 ≤ b ∧ b ≤ 255) (hc : 0 ≤ c ∧ c ≤ 255) : 0 ≤ near a b c ∧ near a b c ≤ 255 := by
  unfold near
  rcases nr_or (a + b - c) (nr (a + b - c) a b) c with h | h <;> rw [h]
  · rcases nr_or (a + b - c) a b with h | h <;> rw [h] <;> omega
  · omega
theorem gs_range (k a b c : Int) (ha : 0 ≤ a ∧ a ≤ 255) (hb : 0 ≤ b ∧ b ≤ 255) (hc : 0 ≤ c ∧ c ≤ 255) : 0 ≤ gs k a b c ∧ gs k a b c ≤ 255 := by
  unfold gs
  have := near_range a b c ha hb hc
  repeat' split
  all_goals omega

set_option maxHeartbeats 4000000 in
set_option maxRecDepth 100000 in
theorem nearest_calls (a b c : Int) (w : World) (ha : 0 ≤ a ∧ a ≤ 255) (hb : 0 ≤ b ∧ b ≤ 255) (hc : 0 ≤ c ∧ c ≤ 255) :
    Calls Try.prog 19 #[.int .i64 a, .int .i64 b, .int .i64 c] w fun e w' => e = .returned (.int .i64 (near a b c)) ∧ Below w.heap.size w w' := by
  have HB := Aside0.mk (Below.refl w.heap.size w)
  obtain ⟨R, hR⟩ : ∃ R, near a b c = R := ⟨_, rfl⟩
  rw [hR]
  obtain ⟨p, hp⟩ : ∃ p, a + b - c = p := ⟨_, rfl⟩
  have hp1 : wrap64 (a + b) = a + b := by unfold wrap64; omega
  have hp2 : wrap64 (a + b - c) = p := by unfold wrap64; omega
  have hp3 : -1000 ≤ p ∧ p ≤ 1000 := by omega
  obtain ⟨t, ht⟩ : ∃ t, nr p a b = t := ⟨_, rfl⟩
  have ht2 : -1000 ≤ t ∧ t ≤ 1000 := by rw [← ht]; rcases nr_or p a b with h | h <;> rw [h] <;> omega
  have hRt : nr p t c = R := by rw [← hR, ← ht, ← hp]; rfl
  have HA := Aside0.mk (show -1000 ≤ a ∧ a ≤ 1000 by omega)
  have HP := Aside0.mk hp3
  have HT := Aside0.mk ht2
  have HBb := Aside0.mk (show -1000 ≤ b ∧ b ≤ 1000 by omega)
  have HC := Aside0.mk (show -1000 ≤ c ∧ c ≤ 1000 by omega)
  have H1 := Aside0.mk ht
  have H2 := Aside0.mk hRt
  have i0 : ∀ w : World, (Instr.index 40 (.agg #[.int .i64 b, .int .i64 c]) (.int .i64 0)).run Try.prog w = .ok (.int .i64 b) w := fun _ => by kernel_rfl
  have i1 : ∀ w : World, (Instr.index 40 (.agg #[.int .i64 b, .int .i64 c]) (.int .i64 1)).run Try.prog w = .ok (.int .i64 c) w := fun _ => by kernel_rfl
  clear ha hb hc hp hp3 ht2 hR
  by_cases e1 : ap p b < ap p a
  · have d1 : decide (ap p b < ap p a) = true := decide_eq_true e1
    have ht3 : b = t := by rw [← ht]; unfold nr; rw [if_pos e1]
    subst ht3
    clear ht e1
    by_cases e2 : ap p c < ap p b
    · have d2 : decide (ap p c < ap p b) = true := decide_eq_true e2
      have hr3 : c = R := by rw [← hRt]; unfold nr; rw [if_pos e2]
      subst hr3
      clear hRt e2
      clear H1 H2
      go_enter Try.func19, Try.ntmps19
      go_wp2
      refine wp_loop_rounds 3 ?_
      rw [rounds_succ]
      go_wp2_with (first | (go_at_call 30; (with_reducible refine (apart_calls p a _ HP.out HA.out).mono ?_); rintro e w' ⟨rfl, hb⟩; have nb_ := Aside0.mk (below_step (by repeat (first | (with_reducible first | exact HB.out | apply below_alloc | apply pw_below_drewN | apply below_drew1) | exact HB.out)) hb); clear HB; have HB := nb_; clear nb_ hb) | (go_at_call 30; (with_reducible refine (apart_calls p b _ HP.out HBb.out).mono ?_); rintro e w' ⟨rfl, hb⟩; have nb_ := Aside0.mk (below_step (by repeat (first | (with_reducible first | exact HB.out | apply below_alloc | apply pw_below_drewN | apply below_drew1) | exact HB.out)) hb); clear HB; have HB := nb_; clear nb_ hb) | (go_at_call 30; (with_reducible refine (apart_calls p c _ HP.out HC.out).mono ?_); rintro e w' ⟨rfl, hb⟩; have nb_ := Aside0.mk (below_step (by repeat (first | (with_reducible first | exact HB.out | apply below_alloc | apply pw_below_drewN | apply below_drew1) | exact HB.out)) hb); clear HB; have HB := nb_; clear nb_ hb))
      rw [rounds_succ]
      go_wp2_with (first | (go_at_call 30; (with_reducible refine (apart_calls p a _ HP.out HA.out).mono ?_); rintro e w' ⟨rfl, hb⟩; have nb_ := Aside0.mk (below_step (by repeat (first | (with_reducible first | exact HB.out | apply below_alloc | apply pw_below_drewN | apply below_drew1) | exact HB.out)) hb); clear HB; have HB := nb_; clear nb_ hb) | (go_at_call 30; (with_reducible refine (apart_calls p b _ HP.out HBb.out).mono ?_); rintro e w' ⟨rfl, hb⟩; have nb_ := Aside0.mk (below_step (by repeat (first | (with_reducible first | exact HB.out | apply below_alloc | apply pw_below_drewN | apply below_drew1) | exact HB.out)) hb); clear HB; have HB := nb_; clear nb_ hb) | (go_at_call 30; (with_reducible refine (apart_calls p c _ HP.out HC.out).mono ?_); rintro e w' ⟨rfl, hb⟩; have nb_ := Aside0.mk (below_step (by repeat (first | (with_reducible first | exact HB.out | apply below_alloc | apply pw_below_drewN | apply below_drew1) | exact HB.out)) hb); clear HB; have HB := nb_; clear nb_ hb))
      rw [rounds_succ]
      go_wp2_with (first | (go_at_call 30; (with_reducible refine (apart_calls p a _ HP.out HA.out).mono ?_); rintro e w' ⟨rfl, hb⟩; have nb_ := Aside0.mk (below_step (by repeat (first | (with_reducible first | exact HB.out | apply below_alloc | apply pw_below_drewN | apply below_drew1) | exact HB.out)) hb); clear HB; have HB := nb_; clear nb_ hb) | (go_at_call 30; (with_reducible refine (apart_calls p b _ HP.out HBb.out).mono ?_); rintro e w' ⟨rfl, hb⟩; have nb_ := Aside0.mk (below_step (by repeat (first | (with_reducible first | exact HB.out | apply below_alloc | apply pw_below_drewN | apply below_drew1) | exact HB.out)) hb); clear HB; have HB := nb_; clear nb_ hb) | (go_at_call 30; (with_reducible refine (apart_calls p c _ HP.out HC.out).mono ?_); rintro e w' ⟨rfl, hb⟩; have nb_ := Aside0.mk (below_step (by repeat (first | (with_reducible first | exact HB.out | apply below_alloc | apply pw_below_drewN | apply below_drew1) | exact HB.out)) hb); clear HB; have HB := nb_; clear nb_ hb))
      go_ret
      exact ⟨rfl, by repeat (first | (with_reducible first | exact HB.out | apply below_alloc | apply pw_below_drewN | apply below_drew1) | exact HB.out)⟩
    · have d2 : decide (ap p c < ap p b) = false := decide_eq_false e2
      have hr3 : b = R := by rw [← hRt]; unfold nr; rw [if_neg e2]
      subst hr3
      clear hRt e2
      clear H1 H2
      go_enter Try.func19, Try.ntmps19
      go_wp2
      refine wp_loop_rounds 3 ?_
      rw [rounds_succ]
      go_wp2_with (first | (go_at_call 30; (with_reducible refine (apart_calls p a _ HP.out HA.out).mono ?_); rintro e w' ⟨rfl, hb⟩; have nb_ := Aside0.mk (below_step (by repeat (first | (with_reducible first | exact HB.out | apply below_alloc | apply pw_below_drewN | apply below_drew1) | exact HB.out)) hb); clear HB; have HB := nb_; clear nb_ hb) | (go_at_call 30; (with_reducible refine (apart_calls p b _ HP.out HBb.out).mono ?_); rintro e w' ⟨rfl, hb⟩; have nb_ := Aside0.mk (below_step (by repeat (first | (with_reducible first | exact HB.out | apply below_alloc | apply pw_below_drewN | apply below_drew1) | exact HB.out)) hb); clear HB; have HB := nb_; clear nb_ hb) | (go_at_call 30; (with_reducible refine (apart_calls p c _ HP.out HC.out).mono ?_); rintro e w' ⟨rfl, hb⟩; have nb_ := Aside0.mk (below_step (by repeat (first | (with_reducible first | exact HB.out | apply below_alloc | apply pw_below_drewN | apply below_drew1) | exact HB.out)) hb); clear HB; have HB := nb_; clear nb_ hb))
      rw [rounds_succ]
      go_wp2_with (first | (go_at_call 30; (with_reducible refine (apart_calls p a _ HP.out HA.out).mono ?_); rintro e w' ⟨rfl, hb⟩; have nb_ := Aside0.mk (below_step (by repeat (first | (with_reducible first | exact HB.out | apply below_alloc | apply pw_below_drewN | apply below_drew1) | exact HB.out)) hb); clear HB; have HB := nb_; clear nb_ hb) | (go_at_call 30; (with_reducible refine (apart_calls p b _ HP.out HBb.out).mono ?_); rintro e w' ⟨rfl, hb⟩; have nb_ := Aside0.mk (below_step (by repeat (first | (with_reducible first | exact HB.out | apply below_alloc | apply pw_below_drewN | apply below_drew1) | exact HB.out)) hb); clear HB; have HB := nb_; clear nb_ hb) | (go_at_call 30; (with_reducible refine (apart_calls p c _ HP.out HC.out).mono ?_); rintro e w' ⟨rfl, hb⟩; have nb_ := Aside0.mk (below_step (by repeat (first | (with_reducible first | exact HB.out | apply below_alloc | apply pw_below_drewN | apply below_drew1) | exact HB.out)) hb); clear HB; have HB := nb_; clear nb_ hb))
      rw [rounds_succ]
      go_wp2_with (first | (go_at_call 30; (with_reducible refine (apart_calls p a _ HP.out HA.out).mono ?_); rintro e w' ⟨rfl, hb⟩; have nb_ := Aside0.mk (below_step (by repeat (first | (with_reducible first | exact HB.out | apply below_alloc | apply pw_below_drewN | apply below_drew1) | exact HB.out)) hb); clear HB; have HB := nb_; clear nb_ hb) | (go_at_call 30; (with_reducible refine (apart_calls p b _ HP.out HBb.out).mono ?_); rintro e w' ⟨rfl, hb⟩; have nb_ := Aside0.mk (below_step (by repeat (first | (with_reducible first | exact HB.out | apply below_alloc | apply pw_below_drewN | apply below_drew1) | exact HB.out)) hb); clear HB; have HB := nb_; clear nb_ hb) | (go_at_call 30; (with_reducible refine (apart_calls p c _ HP.out HC.out).mono ?_); rintro e w' ⟨rfl, hb⟩; have nb_ := Aside0.mk (below_step (by repeat (first | (with_reducible first | exact HB.out | apply below_alloc | apply pw_below_drewN | apply below_drew1) | exact HB.out)) hb); clear HB; have HB := nb_; clear nb_ hb))
      go_ret
      exact ⟨rfl, by repeat (first | (with_reducible first | exact HB.out | apply below_alloc | apply pw_below_drewN | apply below_drew1) | exact HB.out)⟩
  · have d1 : decide (ap p b < ap p a) = false := decide_eq_false e1
    have ht3 : a = t := by rw [← ht]; unfold nr; rw [if_neg e1]
    subst ht3
    clear ht e1
    by_cases e2 : ap p c < ap p a
    · have d2 : decide (ap p c < ap p a) = true := decide_eq_true e2
      have hr3 : c = R := by rw [← hRt]; unfold nr; rw [if_pos e2]
      subst hr3
      clear hRt e2
      clear H1 H2
      go_enter Try.func19, Try.ntmps19
      go_wp2
      refine wp_loop_rounds 3 ?_
      rw [rounds_succ]
      go_wp2_with (first | (go_at_call 30; (with_reducible refine (apart_calls p a _ HP.out HA.out).mono ?_); rintro e w' ⟨rfl, hb⟩; have nb_ := Aside0.mk (below_step (by repeat (first | (with_reducible first | exact HB.out | apply below_alloc | apply pw_below_drewN | apply below_drew1) | exact HB.out)) hb); clear HB; have HB := nb_; clear nb_ hb) | (go_at_call 30; (with_reducible refine (apart_calls p b _ HP.out HBb.out).mono ?_); rintro e w' ⟨rfl, hb⟩; have nb_ := Aside0.mk (below_step (by repeat (first | (with_reducible first | exact HB.out | apply below_alloc | apply pw_below_drewN | apply below_drew1) | exact HB.out)) hb); clear HB; have HB := nb_; clear nb_ hb) | (go_at_call 30; (with_reducible refine (apart_calls p c _ HP.out HC.out).mono ?_); rintro e w' ⟨rfl, hb⟩; have nb_ := Aside0.mk (below_step (by repeat (first | (with_reducible first | exact HB.out | apply below_alloc | apply pw_below_drewN | apply below_drew1) | exact HB.out)) hb); clear HB; have HB := nb_; clear nb_ hb))
      rw [rounds_succ]
      go_wp2_with (first | (go_at_call 30; (with_reducible refine (apart_calls p a _ HP.out HA.out).mono ?_); rintro e w' ⟨rfl, hb⟩; have nb_ := Aside0.mk (below_step (by repeat (first | (with_reducible first | exact HB.out | apply below_alloc | apply pw_below_drewN | apply below_drew1) | exact HB.out)) hb); clear HB; have HB := nb_; clear nb_ hb) | (go_at_call 30; (with_reducible refine (apart_calls p b _ HP.out HBb.out).mono ?_); rintro e w' ⟨rfl, hb⟩; have nb_ := Aside0.mk (below_step (by repeat (first | (with_reducible first | exact HB.out | apply below_alloc | apply pw_below_drewN | apply below_drew1) | exact HB.out)) hb); clear HB; have HB := nb_; clear nb_ hb) | (go_at_call 30; (with_reducible refine (apart_calls p c _ HP.out HC.out).mono ?_); rintro e w' ⟨rfl, hb⟩; have nb_ := Aside0.mk (below_step (by repeat (first | (with_reducible first | exact HB.out | apply below_alloc | apply pw_below_drewN | apply below_drew1) | exact HB.out)) hb); clear HB; have HB := nb_; clear nb_ hb))
      rw [rounds_succ]
      go_wp2_with (first | (go_at_call 30; (with_reducible refine (apart_calls p a _ HP.out HA.out).mono ?_); rintro e w' ⟨rfl, hb⟩; have nb_ := Aside0.mk (below_step (by repeat (first | (with_reducible first | exact HB.out | apply below_alloc | apply pw_below_drewN | apply below_drew1) | exact HB.out)) hb); clear HB; have HB := nb_; clear nb_ hb) | (go_at_call 30; (with_reducible refine (apart_calls p b _ HP.out HBb.out).mono ?_); rintro e w' ⟨rfl, hb⟩; have nb_ := Aside0.mk (below_step (by repeat (first | (with_reducible first | exact HB.out | apply below_alloc | apply pw_below_drewN | apply below_drew1) | exact HB.out)) hb); clear HB; have HB := nb_; clear nb_ hb) | (go_at_call 30; (with_reducible refine (apart_calls p c _ HP.out HC.out).mono ?_); rintro e w' ⟨rfl, hb⟩; have nb_ := Aside0.mk (below_step (by repeat (first | (with_reducible first | exact HB.out | apply below_alloc | apply pw_below_drewN | apply below_drew1) | exact HB.out)) hb); clear HB; have HB := nb_; clear nb_ hb))
      go_ret
      exact ⟨rfl, by repeat (first | (with_reducible first | exact HB.out | apply below_alloc | apply pw_below_drewN | apply below_drew1) | exact HB.out)⟩
    · have d2 : decide (ap p c < ap p a) = false := decide_eq_false e2
      have hr3 : a = R := by rw [← hRt]; unfold nr; rw [if_neg e2]
      subst hr3
      clear hRt e2
      clear H1 H2
      go_enter Try.func19, Try.ntmps19
      go_wp2
      refine wp_loop_rounds 3 ?_
      rw [rounds_succ]
      go_wp2_with (first | (go_at_call 30; (with_reducible refine (apart_calls p a _ HP.out HA.out).mono ?_); rintro e w' ⟨rfl, hb⟩; have nb_ := Aside0.mk (below_step (by repeat (first | (with_reducible first | exact HB.out | apply below_alloc | apply pw_below_drewN | apply below_drew1) | exact HB.out)) hb); clear HB; have HB := nb_; clear nb_ hb) | (go_at_call 30; (with_reducible refine (apart_calls p b _ HP.out HBb.out).mono ?_); rintro e w' ⟨rfl, hb⟩; have nb_ := Aside0.mk (below_step (by repeat (first | (with_reducible first | exact HB.out | apply below_alloc | apply pw_below_drewN | apply below_drew1) | exact HB.out)) hb); clear HB; have HB := nb_; clear nb_ hb) | (go_at_call 30; (with_reducible refine (apart_calls p c _ HP.out HC.out).mono ?_); rintro e w' ⟨rfl, hb⟩; have nb_ := Aside0.mk (below_step (by repeat (first | (with_reducible first | exact HB.out | apply below_alloc | apply pw_below_drewN | apply below_drew1) | exact HB.out)) hb); clear HB; have HB := nb_; clear nb_ hb))
      rw [rounds_succ]
      go_wp2_with (first | (go_at_call 30; (with_reducible refine (apart_calls p a _ HP.out HA.out).mono ?_); rintro e w' ⟨rfl, hb⟩; have nb_ := Aside0.mk (below_step (by repeat (first | (with_reducible first | exact HB.out | apply below_alloc | apply pw_below_drewN | apply below_drew1) | exact HB.out)) hb); clear HB; have HB := nb_; clear nb_ hb) | (go_at_call 30; (with_reducible refine (apart_calls p b _ HP.out HBb.out).mono ?_); rintro e w' ⟨rfl, hb⟩; have nb_ := Aside0.mk (below_step (by repeat (first | (with_reducible first | exact HB.out | apply below_alloc | apply pw_below_drewN | apply below_drew1) | exact HB.out)) hb); clear HB; have HB := nb_; clear nb_ hb) | (go_at_call 30; (with_reducible refine (apart_calls p c _ HP.out HC.out).mono ?_); rintro e w' ⟨rfl, hb⟩; have nb_ := Aside0.mk (below_step (by repeat (first | (with_reducible first | exact HB.out | apply below_alloc | apply pw_below_drewN | apply below_drew1) | exact HB.out)) hb); clear HB; have HB := nb_; clear nb_ hb))
      rw [rounds_succ]
      go_wp2_with (first | (go_at_call 30; (with_reducible refine (apart_calls p a _ HP.out HA.out).mono ?_); rintro e w' ⟨rfl, hb⟩; have nb_ := Aside0.mk (below_step (by repeat (first | (with_reducible first | exact HB.out | apply below_alloc | apply pw_below_drewN | apply below_drew1) | exact HB.out)) hb); clear HB; have HB := nb_; clear nb_ hb) | (go_at_call 30; (with_reducible refine (apart_calls p b _ HP.out HBb.out).mono ?_); rintro e w' ⟨rfl, hb⟩; have nb_ := Aside0.mk (below_step (by repeat (first | (with_reducible first | exact HB.out | apply below_alloc | apply pw_below_drewN | apply below_drew1) | exact HB.out)) hb); clear HB; have HB := nb_; clear nb_ hb) | (go_at_call 30; (with_reducible refine (apart_calls p c _ HP.out HC.out).mono ?_); rintro e w' ⟨rfl, hb⟩; have nb_ := Aside0.mk (below_step (by repeat (first | (with_reducible first | exact HB.out | apply below_alloc | apply pw_below_drewN | apply below_drew1) | exact HB.out)) hb); clear HB; have HB := nb_; clear nb_ hb))
      go_ret
      exact ⟨rfl, by repeat (first | (with_reducible first | exact HB.out | apply below_alloc | apply pw_below_drewN | apply below_drew1) | exact HB.out)⟩

theorem near_eq (a b c : Int) : near a b c = if ap (a + b - c) a ≤ ap (a + b - c) b ∧ ap (a + b - c) a ≤ ap (a + b - c) c then a else if ap (a + b - c) b ≤ ap (a + b - c) c then b else c := by
  unfold near nr
  generalize ap (a + b - c) c = z
  by_cases h : ap (a + b - c) b < ap (a + b - c) a
  · rw [if_pos h, if_neg (show ¬ (ap (a + b - c) a ≤ ap (a + b - c) b ∧ ap (a + b - c) a ≤ z) from by omega)]
    by_cases h2 : z < ap (a + b - c) b
    · rw [if_pos h2, if_neg (by omega)]
    · rw [if_neg h2, if_pos (by omega)]
  · rw [if_neg h]
    by_cases h2 : z < ap (a + b - c) a
    · rw [if_pos h2, if_neg (show ¬ (ap (a + b - c) a ≤ ap (a + b - c) b ∧ ap (a + b - c) a ≤ z) from by omega), if_neg (by omega)]
    · rw [if_neg h2, if_pos (by omega)]

set_option maxHeartbeats 4000000 in
set_option maxRecDepth 100000 in
theorem guess_calls (k a b c : Int) (w : World) (ha : 0 ≤ a ∧ a ≤ 255) (hb : 0 ≤ b ∧ b ≤ 255) (hc : 0 ≤ c ∧ c ≤ 255) :
    Calls Try.prog 9 #[.int .i64 k, .int .i64 a, .int .i64 b, .int .i64 c] w fun e w' => e = .returned (.int .i64 (gs k a b c)) ∧ Below w.heap.size w w' := by
  have HB := Aside0.mk (Below.refl w.heap.size w)
  have HA := Aside0.mk ha
  have HBb := Aside0.mk hb
  have HC := Aside0.mk hc
  clear ha hb hc
  by_cases k1 : k = 1
  · subst k1
    have e : gs 1 a b c = a := by unfold gs; simp
    rw [e]
    clear e
    go_enter Try.func9, Try.ntmps9
    go_wp2
    go_ret
    exact ⟨rfl, HB.out⟩
  by_cases k2 : k = 2
  · subst k2
    have e : gs 2 a b c = b := by unfold gs; simp
    rw [e]
    clear e k1
    go_enter Try.func9, Try.ntmps9
    go_wp2
    go_ret
    exact ⟨rfl, HB.out⟩
  by_cases k3 : k = 3
  · subst k3
    have e : gs 3 a b c = (a + b) / 2 := by unfold gs; simp
    rw [e]
    have e1 : wrap64 (a + b) = a + b := by have := HA.out; have := HBb.out; unfold wrap64; omega
    have e2 : (a + b).tdiv 2 = (a + b) / 2 := Int.tdiv_eq_ediv_of_nonneg (by have := HA.out; have := HBb.out; omega)
    have e3 : wrap64 ((a + b) / 2) = (a + b) / 2 := by have := HA.out; have := HBb.out; unfold wrap64; omega
    clear e k1 k2
    go_enter Try.func9, Try.ntmps9
    go_wp2
    go_ret
    exact ⟨congrArg (fun x => Ending.returned (Value.int .i64 x)) e3, HB.out⟩
  by_cases k4 : k = 4
  · subst k4
    have e : gs 4 a b c = near a b c := by unfold gs; simp
    rw [e]
    clear e k1 k2 k3
    go_enter Try.func9, Try.ntmps9
    go_wp2_with (go_at_call 19; (with_reducible refine (nearest_calls a b c _ HA.out HBb.out HC.out).mono ?_); rintro e w' ⟨rfl, hb⟩; have nb_ := Aside0.mk (below_step (by repeat (first | (with_reducible first | exact HB.out | apply below_alloc | apply pw_below_drewN | apply below_drew1) | exact HB.out)) hb); clear HB; have HB := nb_; clear nb_ hb)
    go_ret
    exact ⟨rfl, HB.out⟩
  have e : gs k a b c = 0 := by unfold gs; rw [if_neg k1, if_neg k2, if_neg k3, if_neg k4]
  rw [e]
  have d1 : (k == 1) = false := beq_eq_false_iff_ne.mpr k1
  have d2 : (k == 2) = false := beq_eq_false_iff_ne.mpr k2
  have d3 : (k == 3) = false := beq_eq_false_iff_ne.mpr k3
  have d4 : (k == 4) = false := beq_eq_false_iff_ne.mpr k4
  clear e k1 k2 k3 k4
  go_enter Try.func9, Try.ntmps9
  go_wp2
  go_ret
  exact ⟨rfl, HB.out⟩

theorem far_eq (a b : Int) (ha : -1000 ≤ a ∧ a ≤ 1000) (hb : -1000 ≤ b ∧ b ≤ 1000) : miradorref11_far.f a b = some (ap a b) := by
  show some (mx (wrap64 (a - b)) (wrap64 (b - a))) = some (mx (a - b) (b - a))
  rw [show wrap64 (a - b) = a - b from by unfold wrap64; omega, show wrap64 (b - a) = b - a from by unfold wrap64; omega]
theorem refguess_run (n : Nat) (k a b c : Int) (ha : 0 ≤ a ∧ a ≤ 255) (hb : 0 ≤ b ∧ b ≤ 255) (hc : 0 ≤ c ∧ c ≤ 255) : miradorref11_Guess.f (n + 1) k a b c = some (gs k a b c) := by
  have e1 : wrap64 (a + b) = a + b := by unfold wrap64; omega
  have e3 : wrap64 (a + b - c) = a + b - c := by unfold wrap64; omega
  have e2 : wrap64 ((a + b).tdiv 2) = (a + b) / 2 := by
    rw [Int.tdiv_eq_ediv_of_nonneg (by omega)]
    unfold wrap64
    omega
  unfold miradorref11_Guess.f gs
  rw [e1, e2, e3, far_eq _ a (by omega) (by omega), far_eq _ b (by omega) (by omega), far_eq _ c (by omega) (by omega)]
  have hj : ∀ z, miradorref11_Guess.j0 (n + 1) a b c (a + b - c) z = some (if z = true then a else if ap (a + b - c) b ≤ ap (a + b - c) c then b else c) := by
    intro z
    show (if z = true then some a else _) = _
    rw [far_eq _ b (by omega) (by omega), far_eq _ c (by omega) (by omega)]
    cases z
    · simp only [Bool.false_eq_true, if_false]
      show (if _ then some b else some c) = _
      split <;> rfl
    · simp
  simp only [Option.bind_some, hj]
  rw [near_eq]
  generalize ap (a + b - c) a = x
  generalize ap (a + b - c) b = y
  generalize ap (a + b - c) c = z
  by_cases k1 : k = 1
  · rw [if_pos k1, if_pos k1]
  rw [if_neg k1, if_neg k1]
  by_cases k2 : k = 2
  · rw [if_pos k2, if_pos k2]
  rw [if_neg k2, if_neg k2]
  by_cases k3 : k = 3
  · rw [if_pos k3, if_pos k3]
  rw [if_neg k3, if_neg k3]
  by_cases k4 : k = 4
  · rw [if_pos k4, if_pos k4]
    by_cases h1 : x ≤ y
    · rw [if_pos h1]
      by_cases h2 : x ≤ z
      · simp [h1, h2]
      · simp [h1, h2]
    · simp [h1]
  · rw [if_neg k4, if_neg k4]
theorem refguess_calls (k a b c : Int) (w : World) (ha : 0 ≤ a ∧ a ≤ 255) (hb : 0 ≤ b ∧ b ≤ 255) (hc : 0 ≤ c ∧ c ≤ 255) :
    Calls Try.prog 10 #[.int .i64 k, .int .i64 a, .int .i64 b, .int .i64 c] w fun e w' => e = .returned (.int .i64 (gs k a b c)) ∧ Below w.heap.size w w' :=
  miradorref11_Guess.calls 1 k a b c _ w (refguess_run 0 k a b c ha hb hc)
theorem beq_sz (m n : Nat) : ((m : Int) == (n : Int)) = decide (m = n) := by
  by_cases h : m = n
  · subst h
    simp
  · rw [decide_eq_false h]
    exact beq_eq_false_iff_ne.mpr (by omega)
/-- May it be asked? -/
def rightB (k st : Int) (prev row : ByteArray) : Bool := decide (0 ≤ k) && decide (k ≤ 4) && decide (1 ≤ st) && (decide (prev.toList = []) || decide (prev.size = row.size))
theorem right_calls (k st : Int) (prev row : ByteArray) (w : World) : Calls Try.prog 21 #[.int .i64 k, .int .i64 st, .string prev, .string row] w fun e w' => e = .returned (.bool (rightB k st prev row)) ∧ Drawn0 w w' :=
  filter_right.calls k st prev row _ w (by
    unfold filter_right.f rightB
    by_cases h1 : 0 ≤ k
    · by_cases h2 : k ≤ 4
      · by_cases h3 : st ≥ 1
        · by_cases h4 : prev.toList = []
          · simp [h1, h2, h3, h4]
          · have h3' : 1 ≤ st := h3
            simp [h1, h2, h3', h4]
            exact beq_sz _ _
        · have h3' : ¬ 1 ≤ st := h3
          simp [h1, h2, h3']
      · simp [h1, h2]
    · simp [h1])
theorem refright_run (k st : Int) (prev row : ByteArray) : miradorref11_Right.f k st prev row = some (rightB k st prev row) := by
    unfold miradorref11_Right.f rightB
    by_cases h1 : k ≥ 0
    · have h1' : 0 ≤ k := h1
      by_cases h2 : k ≤ 4
      · by_cases h3 : st ≥ 1
        · by_cases h4 : prev.toList = []
          · simp [h1, h2, h3, h4]
          · have h3' : 1 ≤ st := h3
            simp [h1', h2, h3', h4]
            exact beq_sz _ _
        · have h3' : ¬ 1 ≤ st := h3
          simp [h1', h2, h3']
      · simp [h1', h2]
    · have h1' : ¬ 0 ≤ k := h1
      simp [h1']

end Go.Proofs.Ytflkcempeehilaa.Gs
