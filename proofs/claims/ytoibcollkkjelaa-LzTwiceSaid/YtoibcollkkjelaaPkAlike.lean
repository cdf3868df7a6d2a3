/- lz.alike: how many bytes from two places on are the same. -/
import Derived.Test.YtoibcollkkjelaaPkMap
namespace Go.Proofs.Ytoibcollkkjelaa.PkAlike
open Go.RowKit Go.Proofs.Ytoibcollkkjelaa.PLzGlue Go.Proofs.YtoibcollkkjelaaW.PrintWords Go.Proofs.YtoibcollkkjelaaW.PrintLast Go.Proofs.YtoibcollkkjelaaW.PrintMore Go.Proofs.Ytoibcollkkjelaa.PkMath Go.Proofs.Ytoibcollkkjelaa.PkMap
set_option linter.unusedVariables false
set_option linter.unusedSimpArgs false

theorem bt_nat (s : ByteArray) (q : Nat) (h : q < s.size) : ((s[q]'h).toNat : Int) = bt s (q : Int) := by
  unfold bt
  rw [dif_pos (show (q : Int).toNat < s.size from by omega)]
  rfl
theorem wrap_succ (j : Nat) (h : j < 4611686018427387904) : Value.int .i64 (wrap64 ((j : Int) + 1)) = .int .i64 ((j + 1 : Nat) : Int) := by
  congr 1
  unfold wrap64
  omega
set_option maxHeartbeats 8000000 in
set_option maxRecDepth 100000 in
theorem alike_calls (T : ByteArray) (p : Addr) (a b : Nat) (w : World) (hp : w.cell? p = some (.string T)) (hab : a < b) (hb : b ≤ T.size) (hT : T.size ≤ 1000000) :
    Calls Try.prog 23 #[.pointer (some p), .int .i64 (a : Int), .int .i64 (b : Int)] w fun e w' => e = .returned (.int .i64 (al T a b : Int)) ∧ Below w.heap.size w w' := by
  obtain ⟨R, hR⟩ : ∃ R, al T a b = R := ⟨_, rfl⟩
  rw [hR]
  have HX := Aside0.mk (show alF T a b (258 - 0) 0 = R from hR)
  have HB := Aside0.mk (Below.refl w.heap.size w)
  have HP := Aside0.mk hp
  have HAB := Aside0.mk (And.intro hab (And.intro hb hT))
  clear hR hp hab hb hT
  go_enter Try.func23, Try.ntmps23
  go_wp2
  go_loopg [7] 258 (fun g v7 wr => ∃ (n : Nat), v7 = .int .i64 (n : Int) ∧ Aside0 (g = 258 - n ∧ n ≤ 258) ∧ Aside0 (alF T a b (258 - n) n = R) ∧ Aside0 (Below w.heap.size w wr))
  case atStart => exact ⟨0, rfl, ⟨by omega, by omega⟩, HX, HB⟩
  case round =>
    clear HX HB
    obtain ⟨n, rfl, HG, HX, HB⟩ := hrel
    have hx0 := (HB.out.cell (World.block_lt_of_cell? w _ HP.out)).trans HP.out
    by_cases c1 : n < 258
    · have d1 : decide ((n : Int) < 258) = true := decide_eq_true (by omega)
      have d2 : decide (n < 258) = true := decide_eq_true c1
      obtain ⟨bn, hbn⟩ : ∃ bn, b + n = bn := ⟨_, rfl⟩
      obtain ⟨an, han⟩ : ∃ an, a + n = an := ⟨_, rfl⟩
      have w1 : wrap64 ((b : Int) + (n : Int)) = (bn : Int) := by have := HAB.out; unfold wrap64; omega
      have w2 : wrap64 ((a : Int) + (n : Int)) = (an : Int) := by have := HAB.out; unfold wrap64; omega
      have hxx := HX.out
      rw [show 258 - n = (258 - (n + 1)) + 1 from by omega, alF, hbn, han] at hxx
      by_cases c2 : bn < T.size
      · have d3 : decide ((bn : Int) < (T.size : Int)) = true := decide_eq_true (by omega)
        have d4 : decide (bn < T.size) = true := decide_eq_true c2
        have ca : an < T.size := by have := HAB.out; omega
        have p1 : (0 ≤ (an : Int)) = True := eq_true (by omega)
        have p2 : ((an : Int) < (T.size : Int)) = True := eq_true (by omega)
        have p3 : (an < T.size) = True := eq_true ca
        have q1 : (0 ≤ (bn : Int)) = True := eq_true (by omega)
        have q2 : ((bn : Int) < (T.size : Int)) = True := eq_true (by omega)
        have q3 : (bn < T.size) = True := eq_true c2
        obtain ⟨X, hX⟩ : ∃ X, bt T (an : Int) = X := ⟨_, rfl⟩
        obtain ⟨Y, hY⟩ : ∃ Y, bt T (bn : Int) = Y := ⟨_, rfl⟩
        have r1 : ∀ h : an < T.size, ((T[an]'h).toNat : Int) = X := fun h => by rw [← hX]; exact bt_nat T an h
        have r2 : ∀ h : bn < T.size, ((T[bn]'h).toNat : Int) = Y := fun h => by rw [← hY]; exact bt_nat T bn h
        rw [hX, hY] at hxx
        by_cases c3 : X = Y
        · have e3 : (X == Y) = true := beq_iff_eq.mpr c3
          rw [if_pos ⟨c2, c3⟩] at hxx
          have HX2 := Aside0.mk hxx
          have HL := Aside0.mk c1
          clear hxx hX hY c1 c2 c3 ca han hbn HX
          go_wp2
          go_quiet (fail)
          go_wp2
          go_roundg (258 - (n + 1))
          case measure => have := HG.out; have := HL.out; omega
          case rel => exact ⟨n + 1, wrap_succ n (by have := HL.out; omega), ⟨rfl, by have := HL.out; omega⟩, HX2, ⟨(by repeat (first | (with_reducible first | exact HB.out | apply below_alloc | apply pw_below_drewN | apply below_drew1) | exact HB.out))⟩⟩
        · have e3 : (X == Y) = false := beq_eq_false_iff_ne.mpr c3
          rw [if_neg (fun h => c3 h.2)] at hxx
          have HXX := Aside0.mk hxx
          clear hxx hX hY c1 c2 c3 ca han hbn HX
          go_wp2
          go_quiet (fail)
          go_wp2
          go_ret
          exact ⟨congrArg (fun x : Nat => Ending.returned (Value.int .i64 (x : Int))) HXX.out, (by repeat (first | (with_reducible first | exact HB.out | apply below_alloc | apply pw_below_drewN | apply below_drew1) | exact HB.out))⟩
      · have d3 : decide ((bn : Int) < (T.size : Int)) = false := decide_eq_false (by omega)
        have d4 : decide (bn < T.size) = false := decide_eq_false c2
        rw [if_neg (fun h => c2 h.1)] at hxx
        have HXX := Aside0.mk hxx
        clear hxx c1 c2 han hbn HX
        go_wp2
        go_quiet (fail)
        go_wp2
        go_ret
        exact ⟨congrArg (fun x : Nat => Ending.returned (Value.int .i64 (x : Int))) HXX.out, (by repeat (first | (with_reducible first | exact HB.out | apply below_alloc | apply pw_below_drewN | apply below_drew1) | exact HB.out))⟩
    · have d1 : decide ((n : Int) < 258) = false := decide_eq_false (by omega)
      have d2 : decide (n < 258) = false := decide_eq_false c1
      have hxx := HX.out
      rw [show 258 - n = 0 from by omega] at hxx
      have HXX := Aside0.mk (show n = R from hxx)
      clear hxx c1 HX
      go_wp2
      go_quiet (fail)
      go_wp2
      go_ret
      exact ⟨congrArg (fun x : Nat => Ending.returned (Value.int .i64 (x : Int))) HXX.out, (by repeat (first | (with_reducible first | exact HB.out | apply below_alloc | apply pw_below_drewN | apply below_drew1) | exact HB.out))⟩
end Go.Proofs.Ytoibcollkkjelaa.PkAlike
