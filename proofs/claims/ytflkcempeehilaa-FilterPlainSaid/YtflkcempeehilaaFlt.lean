/- filter.Filter and filter.Unfilter answer what the plain functions flt and unf say. -/
import Derived.Test.YtflkcempeehilaaEach
namespace Go.Proofs.Ytflkcempeehilaa.Flt
open Go.RowKit Go.Proofs.Ytflkcempeehilaa.PFilterRows Go.Proofs.YtflkcempeehilaaW.PrintWords Go.Proofs.YtflkcempeehilaaW.PrintLast Go.Proofs.YtflkcempeehilaaW.PrintMore Go.Proofs.Ytflkcempeehilaa.Gs Go.Proofs.Ytflkcempeehilaa.Puts Go.Proofs.Ytflkcempeehilaa.Each
set_option linter.unusedVariables false
set_option linter.unusedSimpArgs false

def flt (k st : Int) (prev row : ByteArray) : ByteArray × Int := if rightB k st prev row = true then (strOfNums (fL k st prev row row.size), 0) else (⟨#[]⟩, 1)
def unf (k st : Int) (prev row : ByteArray) : ByteArray × Int := if rightB k st prev row = true then (strOfNums (uL k st prev row row.size), 0) else (⟨#[]⟩, 1)
theorem right_fits {k st : Int} {prev row : ByteArray} (h : rightB k st prev row = true) : 1 ≤ st ∧ (prev.toList = [] ∨ prev.size = row.size) := by
  unfold rightB at h
  simp only [Bool.and_eq_true, Bool.or_eq_true, decide_eq_true_eq] at h
  exact ⟨h.1.2, h.2⟩

set_option maxHeartbeats 4000000 in
set_option maxRecDepth 100000 in
theorem unfilter_calls (k st : Int) (prev row : ByteArray) (w : World) (hst2 : st ≤ 9223372036854775807) (hrow : row.size ≤ 1000000) :
    Calls Try.prog 14 #[.int .i64 k, .int .i64 st, .string prev, .string row] w fun e w' => e = .returned (.tuple #[.string (unf k st prev row).1, .int .i64 (unf k st prev row).2]) ∧ Below w.heap.size w w' := by
  have HB := Aside0.mk (Below.refl w.heap.size w)
  have H2 := Aside0.mk hst2
  have H3 := Aside0.mk hrow
  clear hst2 hrow
  by_cases hr : rightB k st prev row = true
  · have hf := right_fits hr
    have H1 := Aside0.mk hf.1
    have H4 := Aside0.mk hf.2
    have e : unf k st prev row = (strOfNums (uL k st prev row row.size), 0) := if_pos hr
    rw [e]
    have HR := Aside0.mk hr
    clear e hf hr
    go_enter Try.func14, Try.ntmps14
    go_wp2_with (first | (go_at_call 21; (with_reducible refine (right_calls k st prev row _).mono ?_); rw [HR.out]; rintro e w' ⟨rfl, ⟨nd, rfl⟩⟩) | (go_at_call 23; (with_reducible refine (each_unf k st prev row _ H1.out H2.out H4.out H3.out).mono ?_); rintro e w' ⟨rfl, hb⟩; have nb_ := Aside0.mk (below_step (by repeat (first | (with_reducible first | exact HB.out | apply below_alloc | apply pw_below_drewN | apply below_drew1) | exact HB.out)) hb); clear HB; have HB := nb_; clear nb_ hb))
    go_ret2
    exact ⟨rfl, by repeat (first | (with_reducible first | exact HB.out | apply below_alloc | apply pw_below_drewN | apply below_drew1) | exact HB.out)⟩
  · have e : unf k st prev row = (⟨#[]⟩, 1) := if_neg hr
    have hr2 : rightB k st prev row = false := by simpa using hr
    rw [e]
    have HR := Aside0.mk hr2
    clear e hr hr2
    go_enter Try.func14, Try.ntmps14
    go_wp2_with (first | (go_at_call 21; (with_reducible refine (right_calls k st prev row _).mono ?_); rw [HR.out]; rintro e w' ⟨rfl, ⟨nd, rfl⟩⟩))
    go_ret2
    exact ⟨rfl, by repeat (first | (with_reducible first | exact HB.out | apply below_alloc | apply pw_below_drewN | apply below_drew1) | exact HB.out)⟩

theorem box_cell (w : World) (s : ByteArray) (nd : Nat) : ((w.alloc (.cells #[.string s] 9 (0, 0))).drewN nd).cell? ⟨w.heap.size, 0, none⟩ = some (.string s) := by
  show (w.alloc (.cells #[.string s] 9 (0, 0))).cell? ⟨w.heap.size, 0, none⟩ = some (.string s)
  unfold World.cell? World.alloc
  simp

set_option maxHeartbeats 4000000 in
set_option maxRecDepth 100000 in
theorem filter_calls (k st : Int) (prev row : ByteArray) (w : World) (hst2 : st ≤ 9223372036854775807) (hrow : row.size ≤ 1000000) :
    Calls Try.prog 12 #[.int .i64 k, .int .i64 st, .string prev, .string row] w fun e w' => e = .returned (.tuple #[.string (flt k st prev row).1, .int .i64 (flt k st prev row).2]) ∧ Below w.heap.size w w' := by
  have HB := Aside0.mk (Below.refl w.heap.size w)
  have H2 := Aside0.mk hst2
  have H3 := Aside0.mk hrow
  clear hst2 hrow
  by_cases hr : rightB k st prev row = true
  · have hf := right_fits hr
    have H1 := Aside0.mk hf.1
    have H4 := Aside0.mk hf.2
    have e : flt k st prev row = (strOfNums (fL k st prev row row.size), 0) := if_pos hr
    rw [e]
    have HR := Aside0.mk hr
    clear e hf hr
    go_enter Try.func12, Try.ntmps12
    go_wp2_with (first | (go_at_call 21; (with_reducible refine (right_calls k st prev row _).mono ?_); rw [HR.out]; rintro e w' ⟨rfl, ⟨nd, rfl⟩⟩) | (go_at_call 23; (with_reducible refine (each_flt k st prev row ⟨w.heap.size, 0, none⟩ _ H1.out H2.out H4.out H3.out ?side1).mono ?_); (case side1 => exact box_cell w row nd); rintro e w' ⟨rfl, hb⟩; have nb_ := Aside0.mk (below_step (by repeat (first | (with_reducible first | exact HB.out | apply below_alloc | apply pw_below_drewN | apply below_drew1) | exact HB.out)) hb); clear HB; have HB := nb_; clear nb_ hb))
    go_ret2
    exact ⟨rfl, by repeat (first | (with_reducible first | exact HB.out | apply below_alloc | apply pw_below_drewN | apply below_drew1) | exact HB.out)⟩
  · have e : flt k st prev row = (⟨#[]⟩, 1) := if_neg hr
    have hr2 : rightB k st prev row = false := by simpa using hr
    rw [e]
    have HR := Aside0.mk hr2
    clear e hr hr2
    go_enter Try.func12, Try.ntmps12
    go_wp2_with (first | (go_at_call 21; (with_reducible refine (right_calls k st prev row _).mono ?_); rw [HR.out]; rintro e w' ⟨rfl, ⟨nd, rfl⟩⟩))
    go_ret2
    exact ⟨rfl, by repeat (first | (with_reducible first | exact HB.out | apply below_alloc | apply pw_below_drewN | apply below_drew1) | exact HB.out)⟩

end Go.Proofs.Ytflkcempeehilaa.Flt
