/- LzBack holds: what is packed is expanded again, with the same window, by tokens that are valid, not more than there are bytes. It is stated for all arguments, without a condition. -/
import Derived.Test.YtoibcollkkjelaaPkPack
import Derived.Test.YtoibcollkkjelaaRefExp
import Derived.Test.YtoibcollkkjelaaWorks
namespace Go.Proofs.Ytoibcollkkjelaa.LzBack
open Go.RowKit Go.Proofs.Ytoibcollkkjelaa.PLzGlue Go.Proofs.YtoibcollkkjelaaW.PrintWords Go.Proofs.YtoibcollkkjelaaW.PrintLast Go.Proofs.YtoibcollkkjelaaW.PrintMore Go.Proofs.Ytoibcollkkjelaa.Spec Go.Proofs.Ytoibcollkkjelaa.PkMath Go.Proofs.Ytoibcollkkjelaa.PkAlike Go.Proofs.Ytoibcollkkjelaa.PkPack
set_option linter.unusedVariables false
set_option linter.unusedSimpArgs false
theorem tail_none : tail ⟨#[]⟩ = ⟨#[]⟩ := tail_short _ (by decide)
theorem none_add (s : ByteArray) : (⟨#[]⟩ : ByteArray) ++ s = s := ByteArray.empty_append
set_option maxHeartbeats 8000000 in
set_option maxRecDepth 100000 in
theorem walk (a0 a1 : ByteArray) (w : World) (hs0 : a0.size ≤ 140737488351232) :
    Calls Try.prog 7 #[.string a0, .string a1] w fun e w' => e = .returned (.bool true) ∧ Below w.heap.size w w' := by
  have HB := Aside0.mk (Below.refl w.heap.size w)
  by_cases c0 : 100000 < a0.size
  · have d0 : decide (100000 < (a0.size : Int)) = true := decide_eq_true (by omega)
    have d1 : decide (100000 < a0.size) = true := decide_eq_true c0
    clear c0 hs0
    go_enter Try.func7, Try.ntmps7
    go_wp2_with (first | (go_at_call 10; (with_reducible refine (Works.works_calls _).mono ?_); rintro e w1 ⟨rfl, hb⟩; have nb_ := Aside0.mk (below_step (by repeat (first | (with_reducible first | exact HB.out | apply below_alloc | apply pw_below_drewN | apply below_drew1) | exact HB.out)) hb); clear HB; have HB := nb_; clear nb_; clear hb))
    go_ret
    exact ⟨rfl, by repeat (first | (with_reducible first | exact HB.out | apply below_alloc | apply pw_below_drewN | apply below_drew1) | exact HB.out)⟩
  · have d0 : decide (100000 < (a0.size : Int)) = false := decide_eq_false (by omega)
    have d1 : decide (100000 < a0.size) = false := decide_eq_false c0
    by_cases c1 : 2000 < a1.size
    · have d2 : decide (2000 < (a1.size : Int)) = true := decide_eq_true (by omega)
      have d3 : decide (2000 < a1.size) = true := decide_eq_true c1
      clear c0 c1 hs0
      go_enter Try.func7, Try.ntmps7
      go_wp2_with (first | (go_at_call 10; (with_reducible refine (Works.works_calls _).mono ?_); rintro e w1 ⟨rfl, hb⟩; have nb_ := Aside0.mk (below_step (by repeat (first | (with_reducible first | exact HB.out | apply below_alloc | apply pw_below_drewN | apply below_drew1) | exact HB.out)) hb); clear HB; have HB := nb_; clear nb_; clear hb))
      go_ret
      exact ⟨rfl, by repeat (first | (with_reducible first | exact HB.out | apply below_alloc | apply pw_below_drewN | apply below_drew1) | exact HB.out)⟩
    · have d2 : decide (2000 < (a1.size : Int)) = false := decide_eq_false (by omega)
      have d3 : decide (2000 < a1.size) = false := decide_eq_false c1
      have HS0 := Aside0.mk (show a0.size ≤ 140737488355328 by omega)
      have hx := pk_ex a0 a1 a1.size (Nat.le_refl _)
      have hl : (pkL (tail a0 ++ a1) a1.size (tail a0).size).length ≤ a1.size := by
        have h := pkL_len (tail a0 ++ a1) a1.size (tail a0).size (by rw [ByteArray.size_append]; omega)
        rw [ByteArray.size_append] at h
        omega
      obtain ⟨ts, hts⟩ : ∃ ts, pkL (tail a0 ++ a1) a1.size (tail a0).size = ts := ⟨_, rfl⟩
      rw [hts] at hx hl
      have KP := Aside0.mk (show ∀ W : World, Calls Try.prog 19 #[.string a0, .string (a1)] W (Packed W ts) from fun W => by
        have h := pack_calls (a0) (a1) W HS0.out (by omega)
        rw [hts] at h
        exact h)
      have HX1 := Aside0.mk (show (ex (a0) ts).1 = a1 by rw [hx])
      have HX2 := Aside0.mk (show (ex (a0) ts).2 = 0 by rw [hx])
      have HTL := Aside0.mk (show ts.length ≤ 1000000 by omega)
      have l1 : decide ((ts.length : Int) ≤ (a1.size : Int)) = true := decide_eq_true (by omega)
      have l2 : decide (ts.length ≤ a1.size) = true := decide_eq_true hl
      clear hx hl hts c0 c1 hs0
      go_enter Try.func7, Try.ntmps7
      go_wp2_with (first | (go_at_call 10; (with_reducible refine (Works.works_calls _).mono ?_); rintro e w1 ⟨rfl, hb⟩; have nb_ := Aside0.mk (below_step (by repeat (first | (with_reducible first | exact HB.out | apply below_alloc | apply pw_below_drewN | apply below_drew1) | exact HB.out)) hb); clear HB; have HB := nb_; clear nb_; clear hb) | (go_at_call 19; (with_reducible refine (KP.out _).mono ?_); rintro e w40 ⟨AP, cP, rfl, ho_, hb⟩; have m_ := Aside0.mk (Kd.R_lower ho_ (below_size (by repeat (first | (with_reducible first | exact HB.out | apply below_alloc | apply pw_below_drewN | apply below_drew1) | exact HB.out)))); clear ho_; have nb_ := Aside0.mk (below_step (by repeat (first | (with_reducible first | exact HB.out | apply below_alloc | apply pw_below_drewN | apply below_drew1) | exact HB.out)) hb); clear HB; have HB := nb_; clear nb_; clear hb; have LP := m_; clear m_) | (go_at_call 13; (with_reducible refine (RefExp.expand_calls a0 _ _ _ ts _ rfl ?side1 (Kd.R_reads' LP.out).2.1 HS0.out HTL.out).mono ?_); (case side1 => exact (Kd.R_reads' LP.out).2.2); rw [HX1.out, HX2.out]; rintro e w41 ⟨rfl, hb⟩; have n0_ := Aside0.mk (Kd.R_below (by (with_reducible repeat (first | apply Kd.R_alloc | apply Kd.R_drewN | apply Kd.R_drew)); exact LP.out) hb); have nb_ := Aside0.mk (below_step (by repeat (first | (with_reducible first | exact HB.out | apply below_alloc | apply pw_below_drewN | apply below_drew1) | exact HB.out)) hb); clear LP; clear HB; have LP := n0_; have HB := nb_; clear nb_ n0_; clear hb))
      go_ret
      exact ⟨rfl, by repeat (first | (with_reducible first | exact HB.out | apply below_alloc | apply pw_below_drewN | apply below_drew1) | exact HB.out)⟩

end Go.Proofs.Ytoibcollkkjelaa.LzBack
