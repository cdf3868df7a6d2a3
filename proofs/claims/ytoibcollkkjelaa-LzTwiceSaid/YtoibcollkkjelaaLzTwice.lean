/- LzTwice holds: what comes a second time, right behind itself, makes two tokens more at most than it has bytes. It is stated for all arguments, without a condition. -/
import Derived.Test.YtoibcollkkjelaaPkPack
import Derived.Test.YtoibcollkkjelaaRefExp
import Derived.Test.YtoibcollkkjelaaWorks
namespace Go.Proofs.Ytoibcollkkjelaa.LzTwice
open Go.RowKit Go.Proofs.Ytoibcollkkjelaa.PLzGlue Go.Proofs.YtoibcollkkjelaaW.PrintWords Go.Proofs.YtoibcollkkjelaaW.PrintLast Go.Proofs.YtoibcollkkjelaaW.PrintMore Go.Proofs.Ytoibcollkkjelaa.Spec Go.Proofs.Ytoibcollkkjelaa.PkMath Go.Proofs.Ytoibcollkkjelaa.PkAlike Go.Proofs.Ytoibcollkkjelaa.PkPack
set_option linter.unusedVariables false
set_option linter.unusedSimpArgs false
theorem tail_none : tail ⟨#[]⟩ = ⟨#[]⟩ := tail_short _ (by decide)
theorem none_add (s : ByteArray) : (⟨#[]⟩ : ByteArray) ++ s = s := ByteArray.empty_append
set_option maxHeartbeats 8000000 in
set_option maxRecDepth 100000 in
theorem walk (a0 : ByteArray) (w : World) : Calls Try.prog 9 #[.string a0] w fun e w' => e = .returned (.bool true) ∧ Below w.heap.size w w' := by
  have HB := Aside0.mk (Below.refl w.heap.size w)
  by_cases c0 : a0.size < 3
  · have d0 : decide ((a0.size : Int) < 3) = true := decide_eq_true (by omega)
    have d1 : decide (a0.size < 3) = true := decide_eq_true c0
    clear c0
    go_enter Try.func9, Try.ntmps9
    go_wp2_with (first | (go_at_call 10; (with_reducible refine (Works.works_calls _).mono ?_); rintro e w1 ⟨rfl, hb⟩; have nb_ := Aside0.mk (below_step (by repeat (first | (with_reducible first | exact HB.out | apply below_alloc | apply pw_below_drewN | apply below_drew1) | exact HB.out)) hb); clear HB; have HB := nb_; clear nb_; clear hb))
    go_ret
    exact ⟨rfl, by repeat (first | (with_reducible first | exact HB.out | apply below_alloc | apply pw_below_drewN | apply below_drew1) | exact HB.out)⟩
  · have d0 : decide ((a0.size : Int) < 3) = false := decide_eq_false (by omega)
    have d1 : decide (a0.size < 3) = false := decide_eq_false c0
    by_cases c1 : 30 < a0.size
    · have d2 : decide (30 < (a0.size : Int)) = true := decide_eq_true (by omega)
      have d3 : decide (30 < a0.size) = true := decide_eq_true c1
      clear c0 c1
      go_enter Try.func9, Try.ntmps9
      go_wp2_with (first | (go_at_call 10; (with_reducible refine (Works.works_calls _).mono ?_); rintro e w1 ⟨rfl, hb⟩; have nb_ := Aside0.mk (below_step (by repeat (first | (with_reducible first | exact HB.out | apply below_alloc | apply pw_below_drewN | apply below_drew1) | exact HB.out)) hb); clear HB; have HB := nb_; clear nb_; clear hb))
      go_ret
      exact ⟨rfl, by repeat (first | (with_reducible first | exact HB.out | apply below_alloc | apply pw_below_drewN | apply below_drew1) | exact HB.out)⟩
    · have d2 : decide (30 < (a0.size : Int)) = false := decide_eq_false (by omega)
      have d3 : decide (30 < a0.size) = false := decide_eq_false c1
      have HS0 := Aside0.mk (show (⟨#[]⟩ : ByteArray).size ≤ 140737488355328 by decide)
      have hsz : (a0 ++ a0).size = a0.size + a0.size := ByteArray.size_append
      have hx := pk_ex ⟨#[]⟩ (a0 ++ a0) (a0 ++ a0).size (Nat.le_refl _)
      rw [tail_none, none_add] at hx
      have hl : (pkL (a0 ++ a0) (a0 ++ a0).size 0).length ≤ 2 + a0.size := by
        have h := twice_len a0 (by omega) (a0 ++ a0).size 0 (by omega)
        omega
      change ex ⟨#[]⟩ (pkL (a0 ++ a0) (a0 ++ a0).size 0) = _ at hx
      obtain ⟨ts, hts⟩ : ∃ ts, pkL (a0 ++ a0) (a0 ++ a0).size 0 = ts := ⟨_, rfl⟩
      rw [hts] at hx hl
      have KP := Aside0.mk (show ∀ W : World, Calls Try.prog 19 #[.string ⟨#[]⟩, .string (a0 ++ a0)] W (Packed W ts) from fun W => by
        have h := pack_calls (⟨#[]⟩) (a0 ++ a0) W HS0.out (by omega)
        rw [tail_none, none_add] at h
        change Calls _ _ _ _ (Packed W (pkL (a0 ++ a0) (a0 ++ a0).size 0)) at h
        rw [hts] at h
        exact h)
      have HX1 := Aside0.mk (show (ex (⟨#[]⟩) ts).1 = a0 ++ a0 by rw [hx])
      have HX2 := Aside0.mk (show (ex (⟨#[]⟩) ts).2 = 0 by rw [hx])
      have HTL := Aside0.mk (show ts.length ≤ 1000000 by omega)
      have e9 : (9223372036854775807 < a0.size + a0.size) = False := eq_false (by omega)
      obtain ⟨M, hM⟩ : ∃ M : Int, wrap64 (2 + (a0.size : Int)) = M := ⟨_, rfl⟩
      have hM2 : M = 2 + (a0.size : Int) := by rw [← hM]; unfold wrap64; omega
      have l1 : decide ((ts.length : Int) ≤ M) = true := decide_eq_true (by omega)
      clear hx hl hts c0 c1 hM2 hsz
      go_enter Try.func9, Try.ntmps9
      go_wp2_with (first | (go_at_call 10; (with_reducible refine (Works.works_calls _).mono ?_); rintro e w1 ⟨rfl, hb⟩; have nb_ := Aside0.mk (below_step (by repeat (first | (with_reducible first | exact HB.out | apply below_alloc | apply pw_below_drewN | apply below_drew1) | exact HB.out)) hb); clear HB; have HB := nb_; clear nb_; clear hb) | (go_at_call 19; (with_reducible refine (KP.out _).mono ?_); rintro e w40 ⟨AP, cP, rfl, ho_, hb⟩; have m_ := Aside0.mk (Kd.R_lower ho_ (below_size (by repeat (first | (with_reducible first | exact HB.out | apply below_alloc | apply pw_below_drewN | apply below_drew1) | exact HB.out)))); clear ho_; have nb_ := Aside0.mk (below_step (by repeat (first | (with_reducible first | exact HB.out | apply below_alloc | apply pw_below_drewN | apply below_drew1) | exact HB.out)) hb); clear HB; have HB := nb_; clear nb_; clear hb; have LP := m_; clear m_) | (go_at_call 13; (with_reducible refine (RefExp.expand_calls ⟨#[]⟩ _ _ _ ts _ rfl ?side1 (Kd.R_reads' LP.out).2.1 HS0.out HTL.out).mono ?_); (case side1 => exact (Kd.R_reads' LP.out).2.2); rw [HX1.out, HX2.out]; rintro e w41 ⟨rfl, hb⟩; have n0_ := Aside0.mk (Kd.R_below (by (with_reducible repeat (first | apply Kd.R_alloc | apply Kd.R_drewN | apply Kd.R_drew)); exact LP.out) hb); have nb_ := Aside0.mk (below_step (by repeat (first | (with_reducible first | exact HB.out | apply below_alloc | apply pw_below_drewN | apply below_drew1) | exact HB.out)) hb); clear LP; clear HB; have LP := n0_; have HB := nb_; clear nb_ n0_; clear hb))
      go_ret
      exact ⟨rfl, by repeat (first | (with_reducible first | exact HB.out | apply below_alloc | apply pw_below_drewN | apply below_drew1) | exact HB.out)⟩

end Go.Proofs.Ytoibcollkkjelaa.LzTwice
