/- The examples of the document hold of lz: works answers true. -/
import Derived.Test.YtoibcollkkjelaaExp
import Derived.Test.YtoibcollkkjelaaPlain
namespace Go.Proofs.Ytoibcollkkjelaa.Works
open Go.RowKit Go.Proofs.Ytoibcollkkjelaa.PLzGlue Go.Proofs.YtoibcollkkjelaaW.PrintWords Go.Proofs.YtoibcollkkjelaaW.PrintLast Go.Proofs.YtoibcollkkjelaaW.PrintMore Go.Proofs.Ytoibcollkkjelaa.Outs Go.Proofs.Ytoibcollkkjelaa.Spec
set_option linter.unusedVariables false
set_option linter.unusedSimpArgs false

theorem expand_one (A : Option Addr) (c : Nat) (w : World) (hr : Kd.C k30 w A 1 [⟨0, 5, 2⟩]) (hc : 1 ≤ c) :
    Calls Try.prog 12 #[.string ⟨#[97, 98]⟩, .slice A 1 c] w fun e w' => e = .returned (.tuple #[.string ⟨#[97, 98, 97, 98, 97]⟩, .int .i64 0]) ∧ Below w.heap.size w w' :=
  Exp.expand_calls ⟨#[97, 98]⟩ A c 1 [⟨0, 5, 2⟩] w rfl hr hc (by decide) (by decide)
theorem expand_two (A : Option Addr) (c : Nat) (w : World) (hr : Kd.C k30 w A 1 [⟨0, 5, 3⟩]) (hc : 1 ≤ c) :
    Calls Try.prog 12 #[.string ⟨#[97, 98]⟩, .slice A 1 c] w fun e w' => e = .returned (.tuple #[.string ⟨#[]⟩, .int .i64 60]) ∧ Below w.heap.size w w' :=
  Exp.expand_calls ⟨#[97, 98]⟩ A c 1 [⟨0, 5, 3⟩] w rfl hr hc (by decide) (by decide)
theorem tail_three (w : World) : Calls Try.prog 16 #[.string ⟨#[97, 98, 99]⟩] w fun e w' => e = .returned (.string ⟨#[97, 98, 99]⟩) ∧ Below w.heap.size w w' := by
  have h := Exp.tail_calls ⟨#[97, 98, 99]⟩ w (by decide)
  rwa [tail_short _ (by decide)] at h
theorem valid_one (w : World) : Calls Try.prog 14 #[.agg #[.int .i64 97, .int .i64 0, .int .i64 0]] w fun e w' => e = .returned (.bool true) ∧ Below w.heap.size w w' :=
  Exp.valid_calls ⟨97, 0, 0⟩ w
theorem two_cells {W : World} {base g c : Nat} {ok : Nat → Prop} (h : Kd.R k30 30 W base ok (.slice (some ⟨g, 0, none⟩) 2 c) [⟨97, 0, 0⟩, ⟨98, 0, 0⟩]) :
    W.cell? ⟨g, 0, none⟩ = some (.int .i64 97) ∧ W.cell? ⟨g, 1, none⟩ = some (.int .i64 0) ∧ W.cell? ⟨g, 2, none⟩ = some (.int .i64 0) ∧ W.cell? ⟨g, 3, none⟩ = some (.int .i64 98) := by
  have hC := (Kd.R_reads' h).2.2
  obtain ⟨ad, e, h0, h1, h2⟩ := at_T30 hC 0 (by decide) (by decide)
  obtain ⟨ad', e', h3, _, _⟩ := at_T30 hC 1 (by decide) (by decide)
  cases e
  cases e'
  exact ⟨h0, h1, h2, h3⟩
theorem plain_two (w : World) : Calls Try.prog 18 #[.string ⟨#[97, 98]⟩] w fun e w' => ∃ g c, e = .returned (.slice (some ⟨g, 0, none⟩) 2 c) ∧ Kd.R k30 30 w' w.heap.size (fun _ => True) (.slice (some ⟨g, 0, none⟩) 2 c) [⟨97, 0, 0⟩, ⟨98, 0, 0⟩] ∧ Below w.heap.size w w' := by
  refine (Plain.plain_calls ⟨#[97, 98]⟩ w (by decide)).mono ?_
  rintro e w' ⟨A, c, he, ho, hb⟩
  have ho2 : Kd.R k30 30 w' w.heap.size (fun _ => True) (.slice A 2 c) [⟨97, 0, 0⟩, ⟨98, 0, 0⟩] := ho
  obtain ⟨g, cap, hv, _⟩ := Kd.R_form ho2 (by decide)
  injection hv with e1 e2 e3
  subst e1
  exact ⟨g, c, he, ho2, hb⟩

set_option maxHeartbeats 8000000 in
set_option maxRecDepth 100000 in
theorem works_calls (w : World) : Calls Try.prog 10 #[] w fun e w' => e = .returned (.bool true) ∧ Below w.heap.size w w' := by
  have hu30 := Try.underlying30
  have HB := Aside0.mk (Below.refl w.heap.size w)
  go_enter Try.func10, Try.ntmps10
  go_wp2_with (first | ((with_reducible refine gate_dst (N := 8) rfl ?_); (try (refine gate_guard (by rfl) ?_; dsimp only)); refine Kd.R_lit k30 _ 30 ?hg (N := 8) ?hd (xs := ([⟨0, 5, 2⟩] : List S30)) (inner := [.int .i64 0, .int .i64 5, .int .i64 2]) (ok := fun _ => True) (okp := fun _ => True) ?hr ?hp (fun _ hk => hk) trivial (Below.refl _ _) (Nat.le_refl _) (by simp) ?_; (case hd => rfl); (case hg => rfl); (case hr => first | (go_simp; done) | (go_simp; rfl)); (case hp => exact (Reps.snoc (ps := []) (cs := []) (Reps.none _ _) (k30_mkM _ _ _ (⟨0, 5, 2⟩ : S30)) rfl)); intro v_ w1 ho_ hb hg_ hnew_; clear hg_ hnew_; have m_ := Aside0.mk (Kd.R_lower ho_ (below_size (by repeat (first | (with_reducible first | exact HB.out | apply below_alloc | apply pw_below_drewN | apply below_drew1) | exact HB.out)))); clear ho_; have nb_ := Aside0.mk (below_step (by repeat (first | (with_reducible first | exact HB.out | apply below_alloc | apply pw_below_drewN | apply below_drew1) | exact HB.out)) hb); clear HB; have HB := nb_; clear nb_; clear hb; have L1 := m_; clear m_; obtain ⟨AL1, cL1, e_⟩ := Kd.R_slice L1.out; subst e_) | ((with_reducible refine gate_callee (f := 12) rfl ?_); refine goesL_ (some 9) rfl rfl Try.func12 (by kernel_rfl) rfl #[.string ⟨#[97, 98]⟩, .slice AL1 1 cL1] rfl (by (try simp only [List.map_toArray, List.map_cons, List.map_nil]); first | done | rfl) ?_; (with_reducible refine (expand_one _ _ _ ?side1 ?side2).mono ?_); (case side1 => exact (Kd.R_reads' L1.out).2.2); (case side2 => exact (Kd.R_reads' L1.out).2.1); rintro e w2 ⟨rfl, hb⟩; refine ⟨_, rfl, ?_⟩; have n0_ := Aside0.mk (Kd.R_below (by (with_reducible repeat (first | apply Kd.R_alloc | apply Kd.R_drewN | apply Kd.R_drew)); exact L1.out) hb); have nb_ := Aside0.mk (below_step (by repeat (first | (with_reducible first | exact HB.out | apply below_alloc | apply pw_below_drewN | apply below_drew1) | exact HB.out)) hb); clear L1; clear HB; have L1 := n0_; have HB := nb_; clear nb_ n0_; clear hb) | (go_at_call 18; (with_reducible refine (plain_two _).mono ?_); rintro e w40 ⟨gP, cP, rfl, ho_, hb⟩; have m_ := Aside0.mk (Kd.R_lower ho_ (below_size (by repeat (first | (with_reducible first | exact HB.out | apply below_alloc | apply pw_below_drewN | apply below_drew1) | exact HB.out)))); clear ho_; have nb_ := Aside0.mk (below_step (by repeat (first | (with_reducible first | exact HB.out | apply below_alloc | apply pw_below_drewN | apply below_drew1) | exact HB.out)) hb); clear HB; have HB := nb_; clear nb_; clear hb; have LP := m_; clear m_) | ((with_reducible refine gate_dst (N := 15) rfl ?_); (try (refine gate_guard (by rfl) ?_; dsimp only)); refine Kd.R_lit k30 _ 30 ?hg (N := 15) ?hd (xs := ([⟨0, 5, 3⟩] : List S30)) (inner := [.int .i64 0, .int .i64 5, .int .i64 3]) (ok := fun _ => True) (okp := fun _ => True) ?hr ?hp (fun _ hk => hk) trivial (Below.refl _ _) (Nat.le_refl _) (by simp) ?_; (case hd => rfl); (case hg => rfl); (case hr => first | (go_simp; done) | (go_simp; rfl)); (case hp => exact (Reps.snoc (ps := []) (cs := []) (Reps.none _ _) (k30_mkM _ _ _ (⟨0, 5, 3⟩ : S30)) rfl)); intro v_ w3 ho_ hb hg_ hnew_; clear hg_ hnew_; have m_ := Aside0.mk (Kd.R_lower ho_ (below_size (by repeat (first | (with_reducible first | exact HB.out | apply below_alloc | apply pw_below_drewN | apply below_drew1) | exact HB.out)))); clear ho_; have n0_ := Aside0.mk (Kd.R_below (by (with_reducible repeat (first | apply Kd.R_alloc | apply Kd.R_drewN | apply Kd.R_drew)); exact LP.out) hb); have nb_ := Aside0.mk (below_step (by repeat (first | (with_reducible first | exact HB.out | apply below_alloc | apply pw_below_drewN | apply below_drew1) | exact HB.out)) hb); clear LP; clear HB; have LP := n0_; have HB := nb_; clear nb_ n0_; clear hb; have L2 := m_; clear m_; obtain ⟨AL2, cL2, e_⟩ := Kd.R_slice L2.out; subst e_) | ((with_reducible refine gate_callee (f := 12) rfl ?_); refine goesL_ (some 16) rfl rfl Try.func12 (by kernel_rfl) rfl #[.string ⟨#[97, 98]⟩, .slice AL2 1 cL2] rfl (by (try simp only [List.map_toArray, List.map_cons, List.map_nil]); first | done | rfl) ?_; (with_reducible refine (expand_two _ _ _ ?side1 ?side2).mono ?_); (case side1 => exact (Kd.R_reads' L2.out).2.2); (case side2 => exact (Kd.R_reads' L2.out).2.1); rintro e w4 ⟨rfl, hb⟩; refine ⟨_, rfl, ?_⟩; have n0_ := Aside0.mk (Kd.R_below (by (with_reducible repeat (first | apply Kd.R_alloc | apply Kd.R_drewN | apply Kd.R_drew)); exact LP.out) hb); have n1_ := Aside0.mk (Kd.R_below (by (with_reducible repeat (first | apply Kd.R_alloc | apply Kd.R_drewN | apply Kd.R_drew)); exact L2.out) hb); have nb_ := Aside0.mk (below_step (by repeat (first | (with_reducible first | exact HB.out | apply below_alloc | apply pw_below_drewN | apply below_drew1) | exact HB.out)) hb); clear LP; clear L2; clear HB; have LP := n0_; have L2 := n1_; have HB := nb_; clear nb_ n0_ n1_; clear hb; obtain ⟨hp0, hp1, hp2, hq0⟩ := two_cells LP.out) | (go_at_call 16; (with_reducible refine (tail_three _).mono ?_); rintro e w41 ⟨rfl, hb⟩; clear hp0 hp1 hp2 hq0; have n0_ := Aside0.mk (Kd.R_below (by (with_reducible repeat (first | apply Kd.R_alloc | apply Kd.R_drewN | apply Kd.R_drew)); exact LP.out) hb); have nb_ := Aside0.mk (below_step (by repeat (first | (with_reducible first | exact HB.out | apply below_alloc | apply pw_below_drewN | apply below_drew1) | exact HB.out)) hb); clear LP; clear HB; have LP := n0_; have HB := nb_; clear nb_ n0_; clear hb; obtain ⟨hp0, hp1, hp2, hq0⟩ := two_cells LP.out) | (go_at_call 14; (with_reducible refine (valid_one _).mono ?_); rintro e w42 ⟨rfl, hb⟩; clear hp0 hp1 hp2 hq0; have n0_ := Aside0.mk (Kd.R_below (by (with_reducible repeat (first | apply Kd.R_alloc | apply Kd.R_drewN | apply Kd.R_drew)); exact LP.out) hb); have nb_ := Aside0.mk (below_step (by repeat (first | (with_reducible first | exact HB.out | apply below_alloc | apply pw_below_drewN | apply below_drew1) | exact HB.out)) hb); clear LP; clear HB; have LP := n0_; have HB := nb_; clear nb_ n0_; clear hb))
  go_ret
  exact ⟨rfl, by repeat (first | (with_reducible first | exact HB.out | apply below_alloc | apply pw_below_drewN | apply below_drew1) | exact HB.out)⟩

end Go.Proofs.Ytoibcollkkjelaa.Works
