/- LzTails holds: what is ahead of a window's last 32768 bytes does not matter. -/
import Derived.Test.YtoibcollkkjelaaKnown
import Derived.Test.YtoibcollkkjelaaGlueLaw
namespace Go.Proofs.Ytoibcollkkjelaa.LzTa
open Go.RowKit Go.Proofs.Ytoibcollkkjelaa.PLzGlue Go.Proofs.YtoibcollkkjelaaW.PrintWords Go.Proofs.YtoibcollkkjelaaW.PrintLast Go.Proofs.YtoibcollkkjelaaW.PrintMore Go.Proofs.Ytoibcollkkjelaa.Outs Go.Proofs.Ytoibcollkkjelaa.Spec
attribute [local go_sem] max2_int min2_int max_two min_two max_three min_three max_four min_four
set_option linter.unusedVariables false
set_option linter.unusedSimpArgs false

theorem tail_known (s t : ByteArray) (w : World) (h : tail s = t) (hs : s.size ≤ 140737488355328) : Calls Try.prog 16 #[.string s] w fun e w' => e = .returned (.string t) ∧ Below w.heap.size w w' := by
  rw [← h]
  exact Exp.tail_calls s w hs
theorem ret_true {b : Bool} (h : b = true) : Ending.returned (.bool b) = .returned (.bool true) := by rw [h]

set_option maxHeartbeats 8000000 in
set_option maxRecDepth 100000 in
theorem walk (a0 a1 : ByteArray) (A2 : Option Addr) (c2 : Nat) (l2 : List S30) (w : World) (hr2 : Kd.C k30 w A2 l2.length l2) (hc2 : l2.length ≤ c2) :
    Calls Try.prog 6 #[.string a0, .string a1, .slice A2 l2.length c2] w fun e w' => e = .returned (.bool true) ∧ Below w.heap.size w w' := by
  have hu30 := Try.underlying30
  have HR2 := Aside0.mk hr2
  have HC2 := Aside0.mk hc2
  have HB := Aside0.mk (Below.refl w.heap.size w)
  clear hr2 hc2
  by_cases c3 : 60 < l2.length
  · skip
    have p1 : decide (60 < (l2.length : Int)) = true := decide_eq_true (by omega)
    have q1 : decide (60 < l2.length) = true := decide_eq_true (by omega)
    clear c3
    go_enter Try.func6, Try.ntmps6
    go_wp2_with (first | ((with_reducible refine gate_callee (f := 10) rfl ?_); refine goesL_ (some 16) rfl rfl Try.func10 (by kernel_rfl) rfl #[] rfl (by (try simp only [List.map_toArray, List.map_cons, List.map_nil]); first | done | rfl) ?_; (with_reducible refine (Works.works_calls _).mono ?_); rintro e w1 ⟨rfl, hb⟩; refine ⟨_, rfl, ?_⟩; have nb_ := Aside0.mk (below_step (by repeat (first | (with_reducible first | exact HB.out | apply below_alloc | apply pw_below_drewN | apply below_drew1) | exact HB.out)) hb); clear HB; have HB := nb_; clear nb_; clear hb) | (go_at_call 11; (with_reducible refine (Known.over_calls A2 c2 l2 _ ?side1 HC2.out).mono ?_); (case side1 => exact (by (with_reducible repeat (first | apply Kd.C_alloc | apply Kd.C_drewN | apply Kd.C_drew)); exact (Kd.C_below HR2.out (by repeat (first | (with_reducible first | exact HB.out | apply below_alloc | apply pw_below_drewN | apply below_drew1) | exact HB.out))))); rintro e w' ⟨rfl, ⟨nd, rfl⟩⟩))
    go_ret
    exact ⟨rfl, by repeat (first | (with_reducible first | exact HB.out | apply below_alloc | apply pw_below_drewN | apply below_drew1) | exact HB.out)⟩
  · skip
    have p1 : decide (60 < (l2.length : Int)) = false := decide_eq_false (by omega)
    have q1 : decide (60 < l2.length) = false := decide_eq_false (by omega)
    by_cases c4 : 2000 < a0.size
    · skip
      have p2 : decide (2000 < (a0.size : Int)) = true := decide_eq_true (by omega)
      have q2 : decide (2000 < a0.size) = true := decide_eq_true (by omega)
      clear c3 c4
      go_enter Try.func6, Try.ntmps6
      go_wp2_with (first | ((with_reducible refine gate_callee (f := 10) rfl ?_); refine goesL_ (some 16) rfl rfl Try.func10 (by kernel_rfl) rfl #[] rfl (by (try simp only [List.map_toArray, List.map_cons, List.map_nil]); first | done | rfl) ?_; (with_reducible refine (Works.works_calls _).mono ?_); rintro e w1 ⟨rfl, hb⟩; refine ⟨_, rfl, ?_⟩; have nb_ := Aside0.mk (below_step (by repeat (first | (with_reducible first | exact HB.out | apply below_alloc | apply pw_below_drewN | apply below_drew1) | exact HB.out)) hb); clear HB; have HB := nb_; clear nb_; clear hb) | (go_at_call 11; (with_reducible refine (Known.over_calls A2 c2 l2 _ ?side1 HC2.out).mono ?_); (case side1 => exact (by (with_reducible repeat (first | apply Kd.C_alloc | apply Kd.C_drewN | apply Kd.C_drew)); exact (Kd.C_below HR2.out (by repeat (first | (with_reducible first | exact HB.out | apply below_alloc | apply pw_below_drewN | apply below_drew1) | exact HB.out))))); rintro e w' ⟨rfl, ⟨nd, rfl⟩⟩))
      go_ret
      exact ⟨rfl, by repeat (first | (with_reducible first | exact HB.out | apply below_alloc | apply pw_below_drewN | apply below_drew1) | exact HB.out)⟩
    · skip
      have p2 : decide (2000 < (a0.size : Int)) = false := decide_eq_false (by omega)
      have q2 : decide (2000 < a0.size) = false := decide_eq_false (by omega)
      by_cases c5 : 70000 < a1.size
      · skip
        have p3 : decide (70000 < (a1.size : Int)) = true := decide_eq_true (by omega)
        have q3 : decide (70000 < a1.size) = true := decide_eq_true (by omega)
        clear c3 c4 c5
        go_enter Try.func6, Try.ntmps6
        go_wp2_with (first | ((with_reducible refine gate_callee (f := 10) rfl ?_); refine goesL_ (some 16) rfl rfl Try.func10 (by kernel_rfl) rfl #[] rfl (by (try simp only [List.map_toArray, List.map_cons, List.map_nil]); first | done | rfl) ?_; (with_reducible refine (Works.works_calls _).mono ?_); rintro e w1 ⟨rfl, hb⟩; refine ⟨_, rfl, ?_⟩; have nb_ := Aside0.mk (below_step (by repeat (first | (with_reducible first | exact HB.out | apply below_alloc | apply pw_below_drewN | apply below_drew1) | exact HB.out)) hb); clear HB; have HB := nb_; clear nb_; clear hb) | (go_at_call 11; (with_reducible refine (Known.over_calls A2 c2 l2 _ ?side1 HC2.out).mono ?_); (case side1 => exact (by (with_reducible repeat (first | apply Kd.C_alloc | apply Kd.C_drewN | apply Kd.C_drew)); exact (Kd.C_below HR2.out (by repeat (first | (with_reducible first | exact HB.out | apply below_alloc | apply pw_below_drewN | apply below_drew1) | exact HB.out))))); rintro e w' ⟨rfl, ⟨nd, rfl⟩⟩))
        go_ret
        exact ⟨rfl, by repeat (first | (with_reducible first | exact HB.out | apply below_alloc | apply pw_below_drewN | apply below_drew1) | exact HB.out)⟩
      · skip
        have p3 : decide (70000 < (a1.size : Int)) = false := decide_eq_false (by omega)
        have q3 : decide (70000 < a1.size) = false := decide_eq_false (by omega)
        have HS1 := Aside0.mk (show a1.size ≤ 140737488355328 by omega)
        have HL2 := Aside0.mk (show l2.length ≤ 1000000 by omega)
        obtain ⟨⟨x, e1⟩, h1⟩ : ∃ r, ex a1 l2 = r := ⟨_, rfl⟩
        obtain ⟨t, ht⟩ : ∃ t, tail a1 = t := ⟨_, rfl⟩
        have hts : t.size = min a1.size 32768 := by rw [← ht]; exact tail_size a1
        have HX1 := Aside0.mk h1
        have HX2 := Aside0.mk (show ex t l2 = (x, e1) by rw [← ht, GlueLaw.ex_tail]; exact h1)
        have HT1 := Aside0.mk ht
        have HT2 := Aside0.mk (show tail t = t by rw [← ht]; exact GlueLaw.tail_tail a1)
        have HS2 := Aside0.mk (show t.size ≤ 140737488355328 by omega)
        have g0 : decide ((t.size : Int) ≤ 32768) = true := decide_eq_true (by omega)
        have g1 : decide (t.size ≤ 32768) = true := decide_eq_true (by omega)
        obtain ⟨m, hm⟩ : ∃ m : Int, (if (32768 : Int) < (a1.size : Int) then 32768 else (a1.size : Int)) = m := ⟨_, rfl⟩
        have hmt : (t.size : Int) = m := by rw [← hm]; split <;> omega
        have g2 : ((t.size : Int) == m) = true := beq_iff_eq.mpr hmt
        have HE := Aside0.mk hmt
        by_cases c6 : 32768 ≤ a1.size
        · skip
          have p4 : decide (32768 ≤ (a1.size : Int)) = true := decide_eq_true (by omega)
          have q4 : decide (32768 ≤ a1.size) = true := decide_eq_true (by omega)
          have HX3 := Aside0.mk (show ex (a0 ++ a1) l2 = (x, e1) by rw [GlueLaw.ex_ahead a0 a1 c6]; exact h1)
          have HT3 := Aside0.mk (show tail (a0 ++ a1) = t by rw [GlueLaw.tail_ahead a0 a1 c6]; exact ht)
          have HS3 := Aside0.mk (show (a0 ++ a1).size ≤ 140737488355328 by rw [ByteArray.size_append]; omega)
          have hs1 : (9223372036854775807 < a0.size + a1.size) = False := eq_false (by omega)
          clear c3 c4 c5 c6 h1 ht hts hmt
          go_enter Try.func6, Try.ntmps6
          go_wp2_with (first | ((with_reducible refine gate_callee (f := 10) rfl ?_); refine goesL_ (some 16) rfl rfl Try.func10 (by kernel_rfl) rfl #[] rfl (by (try simp only [List.map_toArray, List.map_cons, List.map_nil]); first | done | rfl) ?_; (with_reducible refine (Works.works_calls _).mono ?_); rintro e w1 ⟨rfl, hb⟩; refine ⟨_, rfl, ?_⟩; have nb_ := Aside0.mk (below_step (by repeat (first | (with_reducible first | exact HB.out | apply below_alloc | apply pw_below_drewN | apply below_drew1) | exact HB.out)) hb); clear HB; have HB := nb_; clear nb_; clear hb) | (go_at_call 11; (with_reducible refine (Known.over_calls A2 c2 l2 _ ?side1 HC2.out).mono ?_); (case side1 => exact (by (with_reducible repeat (first | apply Kd.C_alloc | apply Kd.C_drewN | apply Kd.C_drew)); exact (Kd.C_below HR2.out (by repeat (first | (with_reducible first | exact HB.out | apply below_alloc | apply pw_below_drewN | apply below_drew1) | exact HB.out))))); rintro e w' ⟨rfl, ⟨nd, rfl⟩⟩) | (go_at_call 16; (with_reducible refine (tail_known a1 t _ HT1.out HS1.out).mono ?_); rintro e w2 ⟨rfl, hb⟩; have nb_ := Aside0.mk (below_step (by repeat (first | (with_reducible first | exact HB.out | apply below_alloc | apply pw_below_drewN | apply below_drew1) | exact HB.out)) hb); clear HB; have HB := nb_; clear nb_; clear hb) | (go_at_call 12; (with_reducible refine (Known.expand_calls a1 A2 c2 l2 x e1 _ HX1.out ?side1 HC2.out HS1.out HL2.out).mono ?_); (case side1 => exact (by (with_reducible repeat (first | apply Kd.C_alloc | apply Kd.C_drewN | apply Kd.C_drew)); exact (Kd.C_below HR2.out (by repeat (first | (with_reducible first | exact HB.out | apply below_alloc | apply pw_below_drewN | apply below_drew1) | exact HB.out))))); rintro e w3 ⟨rfl, hb⟩; have nb_ := Aside0.mk (below_step (by repeat (first | (with_reducible first | exact HB.out | apply below_alloc | apply pw_below_drewN | apply below_drew1) | exact HB.out)) hb); clear HB; have HB := nb_; clear nb_; clear hb) | (go_at_call 12; (with_reducible refine (Known.expand_calls t A2 c2 l2 x e1 _ HX2.out ?side1 HC2.out HS2.out HL2.out).mono ?_); (case side1 => exact (by (with_reducible repeat (first | apply Kd.C_alloc | apply Kd.C_drewN | apply Kd.C_drew)); exact (Kd.C_below HR2.out (by repeat (first | (with_reducible first | exact HB.out | apply below_alloc | apply pw_below_drewN | apply below_drew1) | exact HB.out))))); rintro e w4 ⟨rfl, hb⟩; have nb_ := Aside0.mk (below_step (by repeat (first | (with_reducible first | exact HB.out | apply below_alloc | apply pw_below_drewN | apply below_drew1) | exact HB.out)) hb); clear HB; have HB := nb_; clear nb_; clear hb) | (go_at_call 12; (with_reducible refine (Known.expand_calls (a0 ++ a1) A2 c2 l2 x e1 _ HX3.out ?side1 HC2.out HS3.out HL2.out).mono ?_); (case side1 => exact (by (with_reducible repeat (first | apply Kd.C_alloc | apply Kd.C_drewN | apply Kd.C_drew)); exact (Kd.C_below HR2.out (by repeat (first | (with_reducible first | exact HB.out | apply below_alloc | apply pw_below_drewN | apply below_drew1) | exact HB.out))))); rintro e w5 ⟨rfl, hb⟩; have nb_ := Aside0.mk (below_step (by repeat (first | (with_reducible first | exact HB.out | apply below_alloc | apply pw_below_drewN | apply below_drew1) | exact HB.out)) hb); clear HB; have HB := nb_; clear nb_; clear hb) | (go_at_call 16; (with_reducible refine (tail_known (a0 ++ a1) t _ HT3.out HS3.out).mono ?_); rintro e w6 ⟨rfl, hb⟩; have nb_ := Aside0.mk (below_step (by repeat (first | (with_reducible first | exact HB.out | apply below_alloc | apply pw_below_drewN | apply below_drew1) | exact HB.out)) hb); clear HB; have HB := nb_; clear nb_; clear hb) | (go_at_call 16; (with_reducible refine (tail_known t t _ HT2.out HS2.out).mono ?_); rintro e w7 ⟨rfl, hb⟩; have nb_ := Aside0.mk (below_step (by repeat (first | (with_reducible first | exact HB.out | apply below_alloc | apply pw_below_drewN | apply below_drew1) | exact HB.out)) hb); clear HB; have HB := nb_; clear nb_; clear hb))
          go_ret
          exact ⟨rfl, by repeat (first | (with_reducible first | exact HB.out | apply below_alloc | apply pw_below_drewN | apply below_drew1) | exact HB.out)⟩
        · skip
          have p4 : decide (32768 ≤ (a1.size : Int)) = false := decide_eq_false (by omega)
          have q4 : decide (32768 ≤ a1.size) = false := decide_eq_false (by omega)
          clear c3 c4 c5 c6 h1 ht hts hmt
          go_enter Try.func6, Try.ntmps6
          go_wp2_with (first | ((with_reducible refine gate_callee (f := 10) rfl ?_); refine goesL_ (some 16) rfl rfl Try.func10 (by kernel_rfl) rfl #[] rfl (by (try simp only [List.map_toArray, List.map_cons, List.map_nil]); first | done | rfl) ?_; (with_reducible refine (Works.works_calls _).mono ?_); rintro e w1 ⟨rfl, hb⟩; refine ⟨_, rfl, ?_⟩; have nb_ := Aside0.mk (below_step (by repeat (first | (with_reducible first | exact HB.out | apply below_alloc | apply pw_below_drewN | apply below_drew1) | exact HB.out)) hb); clear HB; have HB := nb_; clear nb_; clear hb) | (go_at_call 11; (with_reducible refine (Known.over_calls A2 c2 l2 _ ?side1 HC2.out).mono ?_); (case side1 => exact (by (with_reducible repeat (first | apply Kd.C_alloc | apply Kd.C_drewN | apply Kd.C_drew)); exact (Kd.C_below HR2.out (by repeat (first | (with_reducible first | exact HB.out | apply below_alloc | apply pw_below_drewN | apply below_drew1) | exact HB.out))))); rintro e w' ⟨rfl, ⟨nd, rfl⟩⟩) | (go_at_call 16; (with_reducible refine (tail_known a1 t _ HT1.out HS1.out).mono ?_); rintro e w2 ⟨rfl, hb⟩; have nb_ := Aside0.mk (below_step (by repeat (first | (with_reducible first | exact HB.out | apply below_alloc | apply pw_below_drewN | apply below_drew1) | exact HB.out)) hb); clear HB; have HB := nb_; clear nb_; clear hb) | (go_at_call 12; (with_reducible refine (Known.expand_calls a1 A2 c2 l2 x e1 _ HX1.out ?side1 HC2.out HS1.out HL2.out).mono ?_); (case side1 => exact (by (with_reducible repeat (first | apply Kd.C_alloc | apply Kd.C_drewN | apply Kd.C_drew)); exact (Kd.C_below HR2.out (by repeat (first | (with_reducible first | exact HB.out | apply below_alloc | apply pw_below_drewN | apply below_drew1) | exact HB.out))))); rintro e w3 ⟨rfl, hb⟩; have nb_ := Aside0.mk (below_step (by repeat (first | (with_reducible first | exact HB.out | apply below_alloc | apply pw_below_drewN | apply below_drew1) | exact HB.out)) hb); clear HB; have HB := nb_; clear nb_; clear hb) | (go_at_call 12; (with_reducible refine (Known.expand_calls t A2 c2 l2 x e1 _ HX2.out ?side1 HC2.out HS2.out HL2.out).mono ?_); (case side1 => exact (by (with_reducible repeat (first | apply Kd.C_alloc | apply Kd.C_drewN | apply Kd.C_drew)); exact (Kd.C_below HR2.out (by repeat (first | (with_reducible first | exact HB.out | apply below_alloc | apply pw_below_drewN | apply below_drew1) | exact HB.out))))); rintro e w4 ⟨rfl, hb⟩; have nb_ := Aside0.mk (below_step (by repeat (first | (with_reducible first | exact HB.out | apply below_alloc | apply pw_below_drewN | apply below_drew1) | exact HB.out)) hb); clear HB; have HB := nb_; clear nb_; clear hb) | (go_at_call 16; (with_reducible refine (tail_known t t _ HT2.out HS2.out).mono ?_); rintro e w5 ⟨rfl, hb⟩; have nb_ := Aside0.mk (below_step (by repeat (first | (with_reducible first | exact HB.out | apply below_alloc | apply pw_below_drewN | apply below_drew1) | exact HB.out)) hb); clear HB; have HB := nb_; clear nb_; clear hb))
          go_ret
          exact ⟨rfl, by repeat (first | (with_reducible first | exact HB.out | apply below_alloc | apply pw_below_drewN | apply below_drew1) | exact HB.out)⟩

end Go.Proofs.Ytoibcollkkjelaa.LzTa
