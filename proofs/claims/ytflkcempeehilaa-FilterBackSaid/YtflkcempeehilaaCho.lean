/- filter.weight and filter.Choose answer what the plain functions wgt and ch say. -/
import Derived.Test.YtflkcempeehilaaRefs
namespace Go.Proofs.Ytflkcempeehilaa.Cho
open Go.RowKit Go.Proofs.Ytflkcempeehilaa.PFilterRows Go.Proofs.YtflkcempeehilaaW.PrintWords Go.Proofs.YtflkcempeehilaaW.PrintLast Go.Proofs.YtflkcempeehilaaW.PrintMore Go.Proofs.Ytflkcempeehilaa.Gs Go.Proofs.Ytflkcempeehilaa.Each Go.Proofs.Ytflkcempeehilaa.Flt Go.Proofs.Ytflkcempeehilaa.Refs
set_option linter.unusedVariables false
set_option linter.unusedSimpArgs false

theorem ap_wt (b y : Int) (h : 0 ≤ b ∧ b ≤ 255) (hy : y = if b < 128 then b else b - 256) : ap y 0 = wt b := by
  unfold ap wt mx mn
  by_cases h1 : b < 128
  · rw [if_pos h1] at hy
    subst hy
    split <;> split <;> omega
  · rw [if_neg h1] at hy
    subst hy
    split <;> split <;> omega
theorem rd_bt (s : ByteArray) (i : Int) : rd (bytesOf s) i = bt s i := rd_bytesOf s i

set_option maxHeartbeats 8000000 in
set_option maxRecDepth 100000 in
theorem weight_calls (s : ByteArray) (w : World) (hs : s.size ≤ 1000000) : Calls Try.prog 29 #[.string s] w fun e w' => e = .returned (.int .i64 (wgt s)) ∧ Below w.heap.size w w' := by
  have HS := Aside0.mk hs
  have kb := fun W => print_bytes (P := Try.prog) 9 33 5 Try.underlying9 Try.underlying33 Try.underlying5 s W
  obtain ⟨R, hR⟩ : ∃ R, wgt s = R := ⟨_, rfl⟩
  rw [hR]
  have HRR := Aside0.mk hR
  clear hs hR
  go_enter Try.func29, Try.ntmps29
  go_wp2
  obtain ⟨W1, hW1⟩ : ∃ W1, Lib.bytesWorld w 5 s = W1 := ⟨_, rfl⟩
  have HR := Aside0.mk (show ReadsInt W1 .u8 (some ⟨w.heap.size, 0, none⟩) s.size (bytesOf s) by rw [← hW1]; exact bytes_reads w 5 s (by have := HS.out; omega))
  have HB := Aside0.mk (show Below w.heap.size w W1 by rw [← hW1]; exact bytes_below (Below.refl _ _) (Nat.le_refl _) 5 s)
  have HB1 := Aside0.mk (Below.refl W1.heap.size W1)
  rw [hW1]
  clear hW1 kb
  go_loopg [3, 9] s.size (fun g v3 v9 wr => ∃ (i : Nat), v9 = .int .i64 (i : Int) ∧ v3 = .int .i64 (wS s i) ∧ Aside0 (g = s.size - i ∧ i ≤ s.size) ∧ Aside0 (Below w.heap.size w wr) ∧ Aside0 (Below W1.heap.size W1 wr))
  case atStart => exact ⟨0, rfl, rfl, ⟨by omega, by omega⟩, HB, HB1⟩
  case round =>
    clear HB HB1
    obtain ⟨i, rfl, rfl, HG, HB, HB1⟩ := hrel
    by_cases hi : i < s.size
    · have d0 : decide ((i : Int) < (s.size : Int)) = true := decide_eq_true (by omega)
      have d1 : decide (i < s.size) = true := decide_eq_true hi
      have p1 : (0 ≤ (i : Int)) = True := eq_true (by omega)
      have p2 : ((i : Int) < (s.size : Int)) = True := eq_true (by omega)
      obtain ⟨ad, ead, hc⟩ := HR.out.at_ (i : Int) (by omega) (by omega)
      cases ead
      rw [Int.toNat_natCast, Addr.add_lit, Nat.zero_add] at hc
      replace hc := (HB1.out.cell (World.block_lt_of_cell? W1 _ hc)).trans hc
      obtain ⟨b, hb⟩ : ∃ b, rd (bytesOf s) (i : Int) = b := ⟨_, rfl⟩
      rw [hb] at hc
      have hb2 : bt s (i : Int) = b := by rw [← hb]; exact (rd_bt s _).symm
      have hbr : 0 ≤ b ∧ b ≤ 255 := by rw [← hb2]; exact bt_range _ _
      obtain ⟨y, hy⟩ : ∃ y : Int, (if b < 128 then b else b - 256) = y := ⟨_, rfl⟩
      have hy1 : IntKind.i8.wrap b = y := by
        rw [← hy]
        show IntKind.i8.wrap b = _
        simp only [IntKind.wrap, IntKind.bits, IntKind.signed]
        simp
        split <;> split <;> omega
      have hyr : -1000 ≤ y ∧ y ≤ 1000 := by rw [← hy]; split <;> omega
      have hyw : wrap64 y = y := by unfold wrap64; omega
      have hw := wS_range s i
      have ht := wt_range b hbr
      have HA := Aside0.mk (ap_wt b y hbr hy.symm)
      have HSUM := Aside0.mk (show wrap64 (wS s i + wt b) = wS s (i + 1) by
        rw [wS, hb2]
        have := HS.out
        unfold wrap64
        omega)
      have HY := Aside0.mk hyr
      clear hb hb2 hbr hy hyr hw ht
      go_wp2_with (go_at_call 30; (with_reducible refine (apart_calls y 0 _ HY.out (by omega)).mono ?_); rw [HA.out]; rintro e w' ⟨rfl, hb⟩; have nb_ := Aside0.mk (below_step (by repeat (first | (with_reducible first | exact HB.out | apply below_alloc | apply pw_below_drewN | apply below_drew1) | exact HB.out)) hb); have nb1_ := Aside0.mk (below_step (by repeat (first | (with_reducible first | exact HB1.out | apply below_alloc | apply pw_below_drewN | apply below_drew1) | exact HB1.out)) hb); clear HB HB1; have HB := nb_; have HB1 := nb1_; clear nb_ nb1_ hb)
      go_roundg (s.size - (i + 1))
      case measure => have := HG.out; omega
      case rel => exact ⟨i + 1, wrap_succ i (by have := HS.out; omega), congrArg (Value.int .i64) HSUM.out, ⟨rfl, by omega⟩, HB, HB1⟩
    · have d0 : decide ((i : Int) < (s.size : Int)) = false := decide_eq_false (by omega)
      have d1 : decide (i < s.size) = false := decide_eq_false hi
      have hi2 : i = s.size := by have := HG.out; omega
      have e : wS s i = R := by rw [hi2]; exact HRR.out
      clear hi2
      go_wp2
      go_ret
      exact ⟨congrArg (fun x => Ending.returned (Value.int .i64 x)) e, HB.out⟩

set_option maxHeartbeats 8000000 in
set_option maxRecDepth 100000 in
theorem choose_calls (st : Int) (prev row : ByteArray) (w : World) (hst2 : st ≤ 9223372036854775807) (hrow : row.size ≤ 1000000) :
    Calls Try.prog 16 #[.int .i64 st, .string prev, .string row] w fun e w' => e = .returned (.int .i64 (ch st prev row 5).1) ∧ Below w.heap.size w w' := by
  have HB := Aside0.mk (Below.refl w.heap.size w)
  have H2 := Aside0.mk hst2
  have H3 := Aside0.mk hrow
  have HX := Aside0.mk (show ch st prev row 0 = (0, -1) from rfl)
  clear hst2 hrow
  go_enter Try.func16, Try.ntmps16
  go_wp2
  go_loopg [7, 8, 9] 5 (fun g v7 v8 v9 wr => ∃ (i : Nat) (b l : Int), v9 = .int .i64 (i : Int) ∧ v7 = .int .i64 b ∧ v8 = .int .i64 l ∧ Aside0 (g = 5 - i ∧ i ≤ 5) ∧ Aside0 (ch st prev row i = (b, l)) ∧ Aside0 (Below w.heap.size w wr))
  case atStart => exact ⟨0, 0, -1, rfl, rfl, rfl, ⟨by omega, by omega⟩, HX, HB⟩
  case round =>
    clear HX HB
    obtain ⟨i, b, l, rfl, rfl, rfl, HG, HX, HB⟩ := hrel
    by_cases hi : i ≤ 4
    · have d0 : decide ((i : Int) ≤ 4) = true := decide_eq_true (by omega)
      have d1 : decide (i ≤ 4) = true := decide_eq_true hi
      obtain ⟨S, hr1⟩ : ∃ S, (flt (i : Int) st prev row).1 = S := ⟨_, rfl⟩
      obtain ⟨E, hr2⟩ : ∃ E, (flt (i : Int) st prev row).2 = E := ⟨_, rfl⟩
      have hss : S.size ≤ 1000000 := by have := flt_size (i : Int) st prev row; have := H3.out; rw [← hr1]; omega
      obtain ⟨W, hr3⟩ : ∃ W, wgt S = W := ⟨_, rfl⟩
      have hch := HX.out
      have HS1 := Aside0.mk hr1
      have HS2 := Aside0.mk hr2
      have HSS := Aside0.mk hss
      have HW := Aside0.mk hr3
      clear hss HX
      by_cases cE : E = 0
      · have hE : (E == 0) = true := beq_iff_eq.mpr cE
        by_cases cL : l < 0
        · skip
          have b0 : decide (l < 0) = true := decide_eq_true cL
          have HN := Aside0.mk (show ch st prev row (i + 1) = ((i : Int), W) by rw [ch, hch, chS, hr1, hr2, hr3]; exact if_pos (by simp; omega))
          clear hch hr1 hr2 hr3
          clear cL cE
          go_wp2_with (first | (go_at_call 12; (with_reducible refine (filter_calls (i : Int) st prev row _ H2.out H3.out).mono ?_); rw [HS1.out, HS2.out]; rintro e w' ⟨rfl, hb⟩; have nb_ := Aside0.mk (below_step (by repeat (first | (with_reducible first | exact HB.out | apply below_alloc | apply pw_below_drewN | apply below_drew1) | exact HB.out)) hb); clear HB; have HB := nb_; clear nb_ hb) | (go_at_call 29; (with_reducible refine (weight_calls S _ HSS.out).mono ?_); rw [HW.out]; rintro e w' ⟨rfl, hb⟩; have nb_ := Aside0.mk (below_step (by repeat (first | (with_reducible first | exact HB.out | apply below_alloc | apply pw_below_drewN | apply below_drew1) | exact HB.out)) hb); clear HB; have HB := nb_; clear nb_ hb))
          go_roundg (5 - (i + 1))
          case measure => have := HG.out; omega
          case rel => exact ⟨i + 1, (i : Int), W, congrArg (Value.int .i64) (by omega : ((i : Int) + 1) = ((i + 1 : Nat) : Int)), rfl, rfl, ⟨rfl, by omega⟩, HN, HB⟩
        · have b0 : decide (l < 0) = false := decide_eq_false cL
          by_cases cW : W < l
          · skip
            have b1 : decide (W < l) = true := decide_eq_true cW
            have HN := Aside0.mk (show ch st prev row (i + 1) = ((i : Int), W) by rw [ch, hch, chS, hr1, hr2, hr3]; exact if_pos (by simp; omega))
            clear hch hr1 hr2 hr3
            clear cL cE cW
            go_wp2_with (first | (go_at_call 12; (with_reducible refine (filter_calls (i : Int) st prev row _ H2.out H3.out).mono ?_); rw [HS1.out, HS2.out]; rintro e w' ⟨rfl, hb⟩; have nb_ := Aside0.mk (below_step (by repeat (first | (with_reducible first | exact HB.out | apply below_alloc | apply pw_below_drewN | apply below_drew1) | exact HB.out)) hb); clear HB; have HB := nb_; clear nb_ hb) | (go_at_call 29; (with_reducible refine (weight_calls S _ HSS.out).mono ?_); rw [HW.out]; rintro e w' ⟨rfl, hb⟩; have nb_ := Aside0.mk (below_step (by repeat (first | (with_reducible first | exact HB.out | apply below_alloc | apply pw_below_drewN | apply below_drew1) | exact HB.out)) hb); clear HB; have HB := nb_; clear nb_ hb))
            go_roundg (5 - (i + 1))
            case measure => have := HG.out; omega
            case rel => exact ⟨i + 1, (i : Int), W, congrArg (Value.int .i64) (by omega : ((i : Int) + 1) = ((i + 1 : Nat) : Int)), rfl, rfl, ⟨rfl, by omega⟩, HN, HB⟩
          · skip
            have b1 : decide (W < l) = false := decide_eq_false cW
            have HN := Aside0.mk (show ch st prev row (i + 1) = (b, l) by rw [ch, hch, chS, hr1, hr2, hr3]; exact if_neg (by simp; omega))
            clear hch hr1 hr2 hr3
            clear cL cE cW
            go_wp2_with (first | (go_at_call 12; (with_reducible refine (filter_calls (i : Int) st prev row _ H2.out H3.out).mono ?_); rw [HS1.out, HS2.out]; rintro e w' ⟨rfl, hb⟩; have nb_ := Aside0.mk (below_step (by repeat (first | (with_reducible first | exact HB.out | apply below_alloc | apply pw_below_drewN | apply below_drew1) | exact HB.out)) hb); clear HB; have HB := nb_; clear nb_ hb) | (go_at_call 29; (with_reducible refine (weight_calls S _ HSS.out).mono ?_); rw [HW.out]; rintro e w' ⟨rfl, hb⟩; have nb_ := Aside0.mk (below_step (by repeat (first | (with_reducible first | exact HB.out | apply below_alloc | apply pw_below_drewN | apply below_drew1) | exact HB.out)) hb); clear HB; have HB := nb_; clear nb_ hb))
            go_roundg (5 - (i + 1))
            case measure => have := HG.out; omega
            case rel => exact ⟨i + 1, b, l, congrArg (Value.int .i64) (by omega : ((i : Int) + 1) = ((i + 1 : Nat) : Int)), rfl, rfl, ⟨rfl, by omega⟩, HN, HB⟩
      · have hE : (E == 0) = false := beq_eq_false_iff_ne.mpr cE
        have HN := Aside0.mk (show ch st prev row (i + 1) = (b, l) by rw [ch, hch, chS, hr1, hr2, hr3]; exact if_neg (by simp; omega))
        clear hch hr1 hr2 hr3
        clear cE
        go_wp2_with (first | (go_at_call 12; (with_reducible refine (filter_calls (i : Int) st prev row _ H2.out H3.out).mono ?_); rw [HS1.out, HS2.out]; rintro e w' ⟨rfl, hb⟩; have nb_ := Aside0.mk (below_step (by repeat (first | (with_reducible first | exact HB.out | apply below_alloc | apply pw_below_drewN | apply below_drew1) | exact HB.out)) hb); clear HB; have HB := nb_; clear nb_ hb) | (go_at_call 29; (with_reducible refine (weight_calls S _ HSS.out).mono ?_); rw [HW.out]; rintro e w' ⟨rfl, hb⟩; have nb_ := Aside0.mk (below_step (by repeat (first | (with_reducible first | exact HB.out | apply below_alloc | apply pw_below_drewN | apply below_drew1) | exact HB.out)) hb); clear HB; have HB := nb_; clear nb_ hb))
        go_roundg (5 - (i + 1))
        case measure => have := HG.out; omega
        case rel => exact ⟨i + 1, b, l, congrArg (Value.int .i64) (by omega : ((i : Int) + 1) = ((i + 1 : Nat) : Int)), rfl, rfl, ⟨rfl, by omega⟩, HN, HB⟩
    · have d0 : decide ((i : Int) ≤ 4) = false := decide_eq_false (by omega)
      have d1 : decide (i ≤ 4) = false := decide_eq_false hi
      have hi5 : i = 5 := by have := HG.out; omega
      subst hi5
      have e : (ch st prev row 5).1 = b := by rw [HX.out]
      go_wp2
      go_ret
      exact ⟨congrArg (fun x => Ending.returned (Value.int .i64 x)) e.symm, HB.out⟩

end Go.Proofs.Ytflkcempeehilaa.Cho
