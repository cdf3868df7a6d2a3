/- The functions that filter.Filter and filter.Unfilter hand to each: what they answer. -/
import Derived.Test.YtflkcempeehilaaGs
namespace Go.Proofs.Ytflkcempeehilaa.Puts
open Go.RowKit Go.Proofs.Ytflkcempeehilaa.PFilterRows Go.Proofs.YtflkcempeehilaaW.PrintWords Go.Proofs.YtflkcempeehilaaW.PrintLast Go.Proofs.YtflkcempeehilaaW.PrintMore Go.Proofs.Ytflkcempeehilaa.Gs
set_option linter.unusedVariables false
set_option linter.unusedSimpArgs false

theorem less_calls (a b : Int) (w : World) (ha : 0 ≤ a ∧ a ≤ 255) (hb : 0 ≤ b ∧ b ≤ 255) : Calls Try.prog 22 #[.int .i64 a, .int .i64 b] w fun e w' => e = .returned (.int .i64 (a - b)) ∧ w = w' := by
  have e : wrap64 (a - b) = a - b := by unfold wrap64; omega
  clear ha hb
  go_enter Try.func22, Try.ntmps22
  go_wp2
  go_ret
  exact ⟨congrArg (fun x => Ending.returned (Value.int .i64 x)) e, rfl⟩
theorem more_calls (a b : Int) (w : World) (ha : 0 ≤ a ∧ a ≤ 255) (hb : 0 ≤ b ∧ b ≤ 255) : Calls Try.prog 27 #[.int .i64 a, .int .i64 b] w fun e w' => e = .returned (.int .i64 (a + b)) ∧ w = w' := by
  have e : wrap64 (a + b) = a + b := by unfold wrap64; omega
  clear ha hb
  go_enter Try.func27, Try.ntmps27
  go_wp2
  go_ret
  exact ⟨congrArg (fun x => Ending.returned (Value.int .i64 x)) e, rfl⟩
theorem bt_nat (s : ByteArray) (q : Nat) (h : q < s.size) : ((s[q]'h).toNat : Int) = bt s (q : Int) := by
  unfold bt
  rw [dif_pos (show (q : Int).toNat < s.size from by omega)]
  rfl
set_option maxHeartbeats 4000000 in
theorem known_calls (q : Nat) (v : Value) (p : Addr) (s : ByteArray) (w : World) (hp : w.cell? p = some (.string s)) (hq : q < s.size) :
    Calls Try.prog 24 #[.int .i64 (q : Int), v, .pointer (some p)] w fun e w' => e = .returned (.int .i64 (bt s (q : Int))) ∧ w = w' := by
  have p1 : (0 ≤ (q : Int)) = True := eq_true (by omega)
  have p2 : ((q : Int) < (s.size : Int)) = True := eq_true (by omega)
  have p3 : ∀ h : q < s.size, ((s[q]'h).toNat : Int) = bt s (q : Int) := fun h => bt_nat s q h
  have hr := bt_range s (q : Int)
  have p4 : wrap64 (bt s (q : Int)) = bt s (q : Int) := by unfold wrap64; omega
  clear hr
  go_enter Try.func24, Try.ntmps24
  go_wp2
  go_ret
  exact ⟨congrArg (fun x => Ending.returned (Value.int .i64 x)) p4, rfl⟩
set_option maxHeartbeats 4000000 in
theorem known2_calls (q : Nat) (A : Option Addr) (n c : Nat) (xs : List Int) (w : World) (hn : n = xs.length) (hr : Kd.C (Kd.int .u8) w A xs.length xs) (hq : q < xs.length) (hx : ∀ x ∈ xs, 0 ≤ x ∧ x ≤ 255) :
    Calls Try.prog 28 #[.int .i64 (q : Int), .slice A n c] w fun e w' => e = .returned (.int .i64 (rd xs (q : Int))) ∧ w = w' := by
  subst hn
  have HT := Kd.reads_of_C (enc := Value.int .u8) (d := (0 : Int)) (h1 := fun _ => rfl) hr
  obtain ⟨ad, ead, hcell⟩ := ReadsInt.at_ HT (q : Int) (by omega) (by omega)
  cases ead
  rw [Int.toNat_natCast] at hcell
  have p1 : (0 ≤ (q : Int)) = True := eq_true (by omega)
  have p2 : ((q : Int) < (xs.length : Int)) = True := eq_true (by omega)
  have p3 : (q < xs.length) = True := eq_true hq
  obtain ⟨y, hy⟩ : ∃ y, rd xs (q : Int) = y := ⟨_, rfl⟩
  have hy2 : 0 ≤ y ∧ y ≤ 255 := by
    rw [← hy]
    unfold rd
    rw [Int.toNat_natCast, List.getD_eq_getElem?_getD, List.getElem?_eq_getElem hq]
    exact hx _ (List.getElem_mem hq)
  have p4 : wrap64 y = y := by unfold wrap64; omega
  rw [hy] at hcell ⊢
  clear hy2 hy hx hr HT
  go_enter Try.func28, Try.ntmps28
  go_wp2
  go_ret
  exact ⟨congrArg (fun x => Ending.returned (Value.int .i64 x)) p4, rfl⟩
end Go.Proofs.Ytflkcempeehilaa.Puts
