/- lz's Expand answers what the plain function ex makes of the tokens. -/
import Derived.Test.YtoibcollkkjelaaOuts
import Derived.Test.YtoibcollkkjelaaSpec
namespace Go.Proofs.Ytoibcollkkjelaa.Exp
open Go.RowKit Go.Proofs.Ytoibcollkkjelaa.PLzGlue Go.Proofs.YtoibcollkkjelaaW.PrintWords Go.Proofs.YtoibcollkkjelaaW.PrintLast Go.Proofs.YtoibcollkkjelaaW.PrintMore Go.Proofs.Ytoibcollkkjelaa.Outs Go.Proofs.Ytoibcollkkjelaa.Spec
set_option linter.unusedVariables false
set_option linter.unusedSimpArgs false

theorem valid_calls (t : S30) (w : World) : Calls Try.prog 14 #[.agg #[.int .i64 t.f0, .int .i64 t.f1, .int .i64 t.f2]] w fun e w' => e = .returned (.bool (validB t)) ∧ Below w.heap.size w w' :=
  lz_Valid.calls _ _ _ _ w (valid_eq t)
theorem tail_calls (s : ByteArray) (w : World) (hs : s.size ≤ 140737488355328) : Calls Try.prog 16 #[.string s] w fun e w' => e = .returned (.string (tail s)) ∧ Below w.heap.size w w' :=
  lz_Tail.calls s _ w (tail_eq s hs)

theorem wrap_succ (j : Nat) (h : j < 4611686018427387904) : Value.int .i64 (wrap64 ((j : Int) + 1)) = .int .i64 ((j + 1 : Nat) : Int) := by
  congr 1
  unfold wrap64
  omega
theorem box_cells {w : World} {b : Nat} {x y z : Value} (h : w.heap[b]? = some (.cells #[x, y, z] 30 (0, 0))) :
    w.cell? ⟨b, 0, none⟩ = some x ∧ w.cell? ⟨b, 1, none⟩ = some y ∧ w.cell? ⟨b, 2, none⟩ = some z := by
  unfold World.cell?
  simp only [h]
  simp

set_option maxHeartbeats 8000000 in
set_option maxRecDepth 100000 in
theorem expand_calls (a0 : ByteArray) (A1 : Option Addr) (c1 n : Nat) (l1 : List S30) (w : World) (hn : n = l1.length) (hr1 : Kd.C k30 w A1 l1.length l1) (hc1 : l1.length ≤ c1) (hs : a0.size ≤ 140737488355328) (hl : l1.length ≤ 1000000) :
    Calls Try.prog 12 #[.string a0, .slice A1 n c1] w fun e w' => e = .returned (.tuple #[.string (ex a0 l1).1, .int .i64 (ex a0 l1).2]) ∧ Below w.heap.size w w' := by
  subst hn
  have hu30 := Try.underlying30
  have HR1 := Aside0.mk hr1
  have HC1 := Aside0.mk hc1
  have HB := Aside0.mk (Below.refl w.heap.size w)
  have HS := Aside0.mk hs
  have HL := Aside0.mk hl
  clear hr1 hc1 hs hl
  obtain ⟨R, hR⟩ : ∃ R, ex a0 l1 = R := ⟨_, rfl⟩
  rw [hR]
  have HR := Aside0.mk hR
  clear hR
  have kb := fun W => print_bytes (P := Try.prog) 9 38 5 Try.underlying9 Try.underlying38 Try.underlying5 (tail a0) W
  go_enter Try.func12, Try.ntmps12
  go_wp2_with (first | (go_at_call 16; (with_reducible refine (tail_calls a0 _ HS.out).mono ?_); rintro e w1 ⟨rfl, hb⟩; have nb_ := Aside0.mk (below_step (by repeat (first | (with_reducible first | exact HB.out | apply below_alloc | apply pw_below_drewN | apply below_drew1) | exact HB.out)) hb); clear HB; have HB := nb_; clear nb_; clear hb))
  have hmx : (tail a0).size ≤ 32768 := by rw [tail_size]; omega
  have HO := Aside0.mk (Out.start w1 (tail a0) (by unfold maxLen; omega) w.heap.size HB.out.size)
  have nb_ := Aside0.mk (bytes_below HB.out HB.out.size 5 (tail a0))
  clear HB
  have HB := nb_
  clear nb_
  have HX := Aside0.mk (show runL (tail a0).size (l1.drop 0) (bytesOf (tail a0)) = R from HR.out)
  have HM := Aside0.mk hmx
  clear hmx HR
  obtain ⟨fr, hfr⟩ : ∃ fr, (tail a0).size = fr := ⟨_, rfl⟩
  have HF := Aside0.mk hfr
  clear hfr
  go_loopg [6, 17] l1.length (fun g v6 v17 wr => ∃ (i : Nat) (xs : List Int), v17 = .int .i64 (i : Int) ∧ Aside0 (g = l1.length - i ∧ i ≤ l1.length) ∧ Aside0 (Out w.heap.size wr v6 xs) ∧ Aside0 (runL (tail a0).size (l1.drop i) xs = R) ∧ Aside0 (xs.length ≤ 32768 + 258 * i ∧ (tail a0).size ≤ xs.length) ∧ Aside0 (Below w.heap.size w wr))
  case atStart => exact ⟨0, bytesOf (tail a0), rfl, ⟨by omega, by omega⟩, HO, HX, ⟨by rw [bytesOf_length]; have := HM.out; omega, by rw [bytesOf_length]; omega⟩, HB⟩
  case round =>
    clear HO HX HB
    obtain ⟨i, xs, rfl, HG, HO, HX, HN, HB⟩ := hrel
    obtain ⟨A6, c6, e6⟩ := HO.out.slice
    subst e6
    by_cases hi : i < l1.length
    · have d0 : decide ((i : Int) < (l1.length : Int)) = true := decide_eq_true (by omega)
      have d1 : decide (i < l1.length) = true := decide_eq_true hi
      have hd : l1.drop i = l1[i] :: l1.drop (i + 1) := List.drop_eq_getElem_cons hi
      obtain ⟨t, ht⟩ : ∃ t, l1[i] = t := ⟨_, rfl⟩
      have hrd : rd_T30 l1 (i : Int) = t := by
        unfold rd_T30
        rw [Int.toNat_natCast, List.getD_eq_getElem?_getD, List.getElem?_eq_getElem hi, ← ht]
        rfl
      rw [ht] at hd
      have hx := HX.out
      rw [hd, runL] at hx
      obtain ⟨ad, ead, hx0, hx1, hx2⟩ := at_T30 HR1.out (i : Int) (by omega) (by omega)
      cases ead
      rw [hrd] at hx0 hx1 hx2
      rw [Int.toNat_natCast] at hx0 hx1 hx2
      replace hx0 := (HB.out.cell (World.block_lt_of_cell? w _ hx0)).trans hx0
      replace hx1 := (HB.out.cell (World.block_lt_of_cell? w _ hx1)).trans hx1
      replace hx2 := (HB.out.cell (World.block_lt_of_cell? w _ hx2)).trans hx2
      clear hd hrd ht HX
      have p1 : (0 ≤ (i : Int)) = True := eq_true (by omega)
      have p2 : ((i : Int) < (l1.length : Int)) = True := eq_true (by omega)
      by_cases hv : validB t = true
      · rw [if_pos hv] at hx
        by_cases h1 : t.f1 = 0
        · rw [if_pos h1] at hx
          have hp := valid_plain t hv h1
          have d2 : (t.f1 == 0) = true := beq_iff_eq.mpr h1
          have hz : t.f1.toNat = 0 := by omega
          have HX := Aside0.mk (show runL (tail a0).size (l1.drop (i + 1)) (copyN t.f2 (t.f1.toNat - 0) (xs ++ [t.f0 % 256])) = R by rw [hz]; exact hx)
          have HN2 := Aside0.mk (show (xs ++ [t.f0 % 256]).length + (t.f1.toNat - 0) ≤ 32768 + 258 * (i + 1) ∧ (tail a0).size ≤ (xs ++ [t.f0 % 256]).length ∧ (0 < t.f1.toNat → 1 ≤ t.f2 ∧ t.f2 ≤ ((xs ++ [t.f0 % 256]).length : Int)) by
            rw [List.length_append, List.length_singleton]
            have := HN.out
            exact ⟨by omega, by omega, fun h => by omega⟩)
          have HV := Aside0.mk (show t.f1.toNat ≤ 258 by omega)
          clear hx h1 hp hz
          go_wp2_with (first | (go_at_call 14; (with_reducible refine (valid_calls t _).mono ?_); rintro e w2 ⟨rfl, hb⟩; have hbx := Aside0.mk ((hb.block wr.heap.size (by simp)).trans (heap_alloc_new wr _)); have no_ := Aside0.mk (Out.below (by (with_reducible repeat (first | apply Out.alloc | apply Out.drewN | apply Out.drew)); exact HO.out) hb); have nb_ := Aside0.mk (below_step (by repeat (first | (with_reducible first | exact HB.out | apply below_alloc | apply pw_below_drewN | apply below_drew1) | exact HB.out)) hb); clear HB; clear HO; have HB := nb_; have HO := no_; clear nb_; clear no_; clear hb; obtain ⟨bx0, bx1, bx2⟩ := box_cells hbx.out) | ((with_reducible refine gate_builtin (b := .append) (xs := #[.tmp 29, .tmp 33]) rfl ?_); at_builtin; refine Out.append (w0 := w) rfl (.tmp 29) (.tmp 33) rfl (.slice A6 xs.length c6) (xs) (t.f0 % 256) rfl rfl ?aO ?aB ?aL ?_; (case aO => exact (by (with_reducible repeat (first | apply Out.alloc | apply Out.drewN | apply Out.drew)); exact HO.out)); (case aB => exact (by repeat (first | (with_reducible first | exact HB.out | apply below_alloc | apply pw_below_drewN | apply below_drew1) | exact HB.out))); (case aL => have := HN.out; have := HL.out; omega); intro v3 w3 ho_ hb_ hk_; clear HO; clear HB; have HO := Aside0.mk ho_; have HB := Aside0.mk hb_; clear ho_ hb_; have hbx2 := Aside0.mk (hk_ _ _ _ _ (by decide) hbx.out); clear hk_ hbx bx0 bx1 bx2; have hbx := hbx2; clear hbx2; obtain ⟨bx0, bx1, bx2⟩ := box_cells hbx.out))

          go_loopg [6, 43] t.f1.toNat (fun g v6 v43 wq => ∃ (j : Nat) (ys : List Int), v43 = .int .i64 (j : Int) ∧ Aside0 (g = t.f1.toNat - j ∧ j ≤ t.f1.toNat ∧ t.f1.toNat ≤ 258) ∧ Aside0 (Out w.heap.size wq v6 ys) ∧ Aside0 (runL (tail a0).size (l1.drop (i + 1)) (copyN t.f2 (t.f1.toNat - j) ys) = R) ∧ Aside0 (ys.length + (t.f1.toNat - j) ≤ 32768 + 258 * (i + 1) ∧ (tail a0).size ≤ ys.length ∧ (0 < t.f1.toNat → 1 ≤ t.f2 ∧ t.f2 ≤ (ys.length : Int))) ∧ Aside0 (wq.heap[wr.heap.size]? = some (.cells #[.int .i64 t.f0, .int .i64 t.f1, .int .i64 t.f2] 30 (0, 0))) ∧ Aside0 (Below w.heap.size w wq))
          case atStart => exact ⟨0, xs ++ [t.f0 % 256], rfl, ⟨by omega, by omega, HV.out⟩, ⟨(by (with_reducible repeat (first | apply Out.alloc | apply Out.drewN | apply Out.drew)); exact HO.out)⟩, ⟨HX.out⟩, HN2, hbx, ⟨(by repeat (first | (with_reducible first | exact HB.out | apply below_alloc | apply pw_below_drewN | apply below_drew1) | exact HB.out))⟩⟩
          case round =>
            clear HO HX HB hbx bx0 bx1 bx2 HN2 HN
            obtain ⟨j, ys, rfl, HG2, HO, HX, HN, hbx, HB⟩ := hrel
            obtain ⟨bx0, bx1, bx2⟩ := box_cells hbx.out
            obtain ⟨A7, c7, e7⟩ := HO.out.slice
            subst e7
            by_cases hj : j < t.f1.toNat
            · have j0 : decide ((j : Int) < t.f1) = true := decide_eq_true (by omega)
              have hb1 := (HN.out.2.2 (by omega)).1
              have hb2 := (HN.out.2.2 (by omega)).2
              have hln : ys.length ≤ 300000000 := by have := HN.out; have := HL.out; omega
              obtain ⟨q, hq⟩ : ∃ q : Int, IntKind.i64.wrap ((ys.length : Int) - t.f2) = q := ⟨_, rfl⟩
              have hq2 : q = (ys.length : Int) - t.f2 := by rw [← hq, IntKind.wrap_i64]; omega
              have hqw : wrap64 ((ys.length : Int) - t.f2) = q := (i64_w _).symm.trans hq
              have q0 : decide (0 ≤ q) = true := decide_eq_true (by omega)
              have q1 : decide (q < (ys.length : Int)) = true := decide_eq_true (by omega)
              have q2 : (0 ≤ q) = True := eq_true (by omega)
              have q3 : (q < (ys.length : Int)) = True := eq_true (by omega)
              obtain ⟨ae, ee, hc⟩ := HO.out.cell q (by omega) (by omega)
              subst ee
              have HX2 := Aside0.mk (show runL (tail a0).size (l1.drop (i + 1)) (copyN t.f2 (t.f1.toNat - (j + 1)) (ys ++ [rd ys q])) = R by
                have hh := HX.out
                rw [show t.f1.toNat - j = (t.f1.toNat - (j + 1)) + 1 from by omega, copyN, ← hq2] at hh
                exact hh)
              have HN3 := Aside0.mk (show (ys ++ [rd ys q]).length + (t.f1.toNat - (j + 1)) ≤ 32768 + 258 * (i + 1) ∧ (tail a0).size ≤ (ys ++ [rd ys q]).length ∧ (0 < t.f1.toNat → 1 ≤ t.f2 ∧ t.f2 ≤ ((ys ++ [rd ys q]).length : Int)) by
                rw [List.length_append, List.length_singleton]
                have := HN.out
                refine ⟨by omega, by omega, fun h => ⟨by omega, by omega⟩⟩)
              have HQ := Aside0.mk hq2
              clear hq2 hb1 hb2 hln
              go_wp2_with ((with_reducible refine gate_builtin (b := .append) (xs := #[.tmp 45, .tmp 54]) rfl ?_); at_builtin; refine Out.append (w0 := w) rfl (.tmp 45) (.tmp 54) rfl (.slice (some ae) ys.length c7) (ys) (rd ys q) rfl rfl ?aO ?aB ?aL ?_; (case aO => exact (by (with_reducible repeat (first | apply Out.alloc | apply Out.drewN | apply Out.drew)); exact HO.out)); (case aB => exact (by repeat (first | (with_reducible first | exact HB.out | apply below_alloc | apply pw_below_drewN | apply below_drew1) | exact HB.out))); (case aL => have := HN.out; have := HL.out; omega); intro v4 w4 ho_ hb_ hk_; clear HO; clear HB; have HO := Aside0.mk ho_; have HB := Aside0.mk hb_; clear ho_ hb_; have hbx2 := Aside0.mk (hk_ _ _ _ _ (by decide) hbx.out); clear hk_ hbx bx0 bx1 bx2; have hbx := hbx2; clear hbx2; obtain ⟨bx0, bx1, bx2⟩ := box_cells hbx.out)
              go_roundg (t.f1.toNat - (j + 1))
              case measure => have := HG2.out; omega
              case rel => exact ⟨j + 1, ys ++ [rd ys q], wrap_succ j (by have := HG2.out; omega), ⟨rfl, by omega, HG2.out.2.2⟩, HO, HX2, HN3, hbx, HB⟩
            · have j0 : decide ((j : Int) < t.f1) = false := decide_eq_false (by omega)
              have hjj : t.f1.toNat - j = 0 := by omega
              have HX2 := Aside0.mk (show runL (tail a0).size (l1.drop (i + 1)) ys = R by
                have hh := HX.out
                rw [hjj] at hh
                exact hh)
              clear hjj
              go_wp2
              go_roundg (l1.length - (i + 1))
              case measure => have := HG.out; omega
              case rel => exact ⟨i + 1, ys, wrap_succ i (by have := HL.out; omega), ⟨rfl, by omega⟩, ⟨(by (with_reducible repeat (first | apply Out.alloc | apply Out.drewN | apply Out.drew)); exact HO.out)⟩, HX2, ⟨by have := HN.out; omega, by have := HN.out; omega⟩, ⟨(by repeat (first | (with_reducible first | exact HB.out | apply below_alloc | apply pw_below_drewN | apply below_drew1) | exact HB.out))⟩⟩
        · rw [if_neg h1] at hx
          have hp := valid_piece t hv h1
          have d2 : (t.f1 == 0) = false := beq_eq_false_iff_ne.mpr h1
          by_cases h2 : (xs.length : Int) < t.f2
          · rw [if_pos h2] at hx
            have d3 : decide ((xs.length : Int) < t.f2) = true := decide_eq_true h2
            have HX := Aside0.mk hx
            clear hx h1 hp h2
            go_wp2_with (go_at_call 14; (with_reducible refine (valid_calls t _).mono ?_); rintro e w2 ⟨rfl, hb⟩; have hbx := Aside0.mk ((hb.block wr.heap.size (by simp)).trans (heap_alloc_new wr _)); have no_ := Aside0.mk (Out.below (by (with_reducible repeat (first | apply Out.alloc | apply Out.drewN | apply Out.drew)); exact HO.out) hb); have nb_ := Aside0.mk (below_step (by repeat (first | (with_reducible first | exact HB.out | apply below_alloc | apply pw_below_drewN | apply below_drew1) | exact HB.out)) hb); clear HB; clear HO; have HB := nb_; have HO := no_; clear nb_; clear no_; clear hb; obtain ⟨bx0, bx1, bx2⟩ := box_cells hbx.out)
            go_ret2
            exact ⟨by rw [← HX.out]; rfl, by repeat (first | (with_reducible first | exact HB.out | apply below_alloc | apply pw_below_drewN | apply below_drew1) | exact HB.out)⟩
          · rw [if_neg h2] at hx
            have d3 : decide ((xs.length : Int) < t.f2) = false := decide_eq_false h2
            have HX := Aside0.mk (show runL (tail a0).size (l1.drop (i + 1)) (copyN t.f2 (t.f1.toNat - 0) xs) = R from hx)
            have HN2 := Aside0.mk (show xs.length + (t.f1.toNat - 0) ≤ 32768 + 258 * (i + 1) ∧ (tail a0).size ≤ xs.length ∧ (0 < t.f1.toNat → 1 ≤ t.f2 ∧ t.f2 ≤ (xs.length : Int)) by
              have := HN.out
              exact ⟨by omega, by omega, fun h => ⟨by omega, by omega⟩⟩)
            have HV := Aside0.mk (show t.f1.toNat ≤ 258 by omega)
            clear hx h1 hp h2
            go_wp2_with (go_at_call 14; (with_reducible refine (valid_calls t _).mono ?_); rintro e w2 ⟨rfl, hb⟩; have hbx := Aside0.mk ((hb.block wr.heap.size (by simp)).trans (heap_alloc_new wr _)); have no_ := Aside0.mk (Out.below (by (with_reducible repeat (first | apply Out.alloc | apply Out.drewN | apply Out.drew)); exact HO.out) hb); have nb_ := Aside0.mk (below_step (by repeat (first | (with_reducible first | exact HB.out | apply below_alloc | apply pw_below_drewN | apply below_drew1) | exact HB.out)) hb); clear HB; clear HO; have HB := nb_; have HO := no_; clear nb_; clear no_; clear hb; obtain ⟨bx0, bx1, bx2⟩ := box_cells hbx.out)
            go_loopg [6, 43] t.f1.toNat (fun g v6 v43 wq => ∃ (j : Nat) (ys : List Int), v43 = .int .i64 (j : Int) ∧ Aside0 (g = t.f1.toNat - j ∧ j ≤ t.f1.toNat ∧ t.f1.toNat ≤ 258) ∧ Aside0 (Out w.heap.size wq v6 ys) ∧ Aside0 (runL (tail a0).size (l1.drop (i + 1)) (copyN t.f2 (t.f1.toNat - j) ys) = R) ∧ Aside0 (ys.length + (t.f1.toNat - j) ≤ 32768 + 258 * (i + 1) ∧ (tail a0).size ≤ ys.length ∧ (0 < t.f1.toNat → 1 ≤ t.f2 ∧ t.f2 ≤ (ys.length : Int))) ∧ Aside0 (wq.heap[wr.heap.size]? = some (.cells #[.int .i64 t.f0, .int .i64 t.f1, .int .i64 t.f2] 30 (0, 0))) ∧ Aside0 (Below w.heap.size w wq))
            case atStart => exact ⟨0, xs, rfl, ⟨by omega, by omega, HV.out⟩, ⟨(by (with_reducible repeat (first | apply Out.alloc | apply Out.drewN | apply Out.drew)); exact HO.out)⟩, ⟨HX.out⟩, HN2, hbx, ⟨(by repeat (first | (with_reducible first | exact HB.out | apply below_alloc | apply pw_below_drewN | apply below_drew1) | exact HB.out))⟩⟩
            case round =>
              clear HO HX HB hbx bx0 bx1 bx2 HN2 HN
              obtain ⟨j, ys, rfl, HG2, HO, HX, HN, hbx, HB⟩ := hrel
              obtain ⟨bx0, bx1, bx2⟩ := box_cells hbx.out
              obtain ⟨A7, c7, e7⟩ := HO.out.slice
              subst e7
              by_cases hj : j < t.f1.toNat
              · have j0 : decide ((j : Int) < t.f1) = true := decide_eq_true (by omega)
                have hb1 := (HN.out.2.2 (by omega)).1
                have hb2 := (HN.out.2.2 (by omega)).2
                have hln : ys.length ≤ 300000000 := by have := HN.out; have := HL.out; omega
                obtain ⟨q, hq⟩ : ∃ q : Int, IntKind.i64.wrap ((ys.length : Int) - t.f2) = q := ⟨_, rfl⟩
                have hq2 : q = (ys.length : Int) - t.f2 := by rw [← hq, IntKind.wrap_i64]; omega
                have hqw : wrap64 ((ys.length : Int) - t.f2) = q := (i64_w _).symm.trans hq
                have q0 : decide (0 ≤ q) = true := decide_eq_true (by omega)
                have q1 : decide (q < (ys.length : Int)) = true := decide_eq_true (by omega)
                have q2 : (0 ≤ q) = True := eq_true (by omega)
                have q3 : (q < (ys.length : Int)) = True := eq_true (by omega)
                obtain ⟨ae, ee, hc⟩ := HO.out.cell q (by omega) (by omega)
                subst ee
                have HX2 := Aside0.mk (show runL (tail a0).size (l1.drop (i + 1)) (copyN t.f2 (t.f1.toNat - (j + 1)) (ys ++ [rd ys q])) = R by
                  have hh := HX.out
                  rw [show t.f1.toNat - j = (t.f1.toNat - (j + 1)) + 1 from by omega, copyN, ← hq2] at hh
                  exact hh)
                have HN3 := Aside0.mk (show (ys ++ [rd ys q]).length + (t.f1.toNat - (j + 1)) ≤ 32768 + 258 * (i + 1) ∧ (tail a0).size ≤ (ys ++ [rd ys q]).length ∧ (0 < t.f1.toNat → 1 ≤ t.f2 ∧ t.f2 ≤ ((ys ++ [rd ys q]).length : Int)) by
                  rw [List.length_append, List.length_singleton]
                  have := HN.out
                  refine ⟨by omega, by omega, fun h => ⟨by omega, by omega⟩⟩)
                have HQ := Aside0.mk hq2
                clear hq2 hb1 hb2 hln
                go_wp2_with ((with_reducible refine gate_builtin (b := .append) (xs := #[.tmp 45, .tmp 54]) rfl ?_); at_builtin; refine Out.append (w0 := w) rfl (.tmp 45) (.tmp 54) rfl (.slice (some ae) ys.length c7) (ys) (rd ys q) rfl rfl ?aO ?aB ?aL ?_; (case aO => exact (by (with_reducible repeat (first | apply Out.alloc | apply Out.drewN | apply Out.drew)); exact HO.out)); (case aB => exact (by repeat (first | (with_reducible first | exact HB.out | apply below_alloc | apply pw_below_drewN | apply below_drew1) | exact HB.out))); (case aL => have := HN.out; have := HL.out; omega); intro v4 w4 ho_ hb_ hk_; clear HO; clear HB; have HO := Aside0.mk ho_; have HB := Aside0.mk hb_; clear ho_ hb_; have hbx2 := Aside0.mk (hk_ _ _ _ _ (by decide) hbx.out); clear hk_ hbx bx0 bx1 bx2; have hbx := hbx2; clear hbx2; obtain ⟨bx0, bx1, bx2⟩ := box_cells hbx.out)
                go_roundg (t.f1.toNat - (j + 1))
                case measure => have := HG2.out; omega
                case rel => exact ⟨j + 1, ys ++ [rd ys q], wrap_succ j (by have := HG2.out; omega), ⟨rfl, by omega, HG2.out.2.2⟩, HO, HX2, HN3, hbx, HB⟩
              · have j0 : decide ((j : Int) < t.f1) = false := decide_eq_false (by omega)
                have hjj : t.f1.toNat - j = 0 := by omega
                have HX2 := Aside0.mk (show runL (tail a0).size (l1.drop (i + 1)) ys = R by
                  have hh := HX.out
                  rw [hjj] at hh
                  exact hh)
                clear hjj
                go_wp2
                go_roundg (l1.length - (i + 1))
                case measure => have := HG.out; omega
                case rel => exact ⟨i + 1, ys, wrap_succ i (by have := HL.out; omega), ⟨rfl, by omega⟩, ⟨(by (with_reducible repeat (first | apply Out.alloc | apply Out.drewN | apply Out.drew)); exact HO.out)⟩, HX2, ⟨by have := HN.out; omega, by have := HN.out; omega⟩, ⟨(by repeat (first | (with_reducible first | exact HB.out | apply below_alloc | apply pw_below_drewN | apply below_drew1) | exact HB.out))⟩⟩
      · have hv2 : validB t = false := Bool.eq_false_iff.mpr hv
        rw [if_neg hv] at hx
        have HX := Aside0.mk hx
        clear hx hv
        go_wp2_with (go_at_call 14; (with_reducible refine (valid_calls t _).mono ?_); rintro e w2 ⟨rfl, hb⟩; have hbx := Aside0.mk ((hb.block wr.heap.size (by simp)).trans (heap_alloc_new wr _)); have no_ := Aside0.mk (Out.below (by (with_reducible repeat (first | apply Out.alloc | apply Out.drewN | apply Out.drew)); exact HO.out) hb); have nb_ := Aside0.mk (below_step (by repeat (first | (with_reducible first | exact HB.out | apply below_alloc | apply pw_below_drewN | apply below_drew1) | exact HB.out)) hb); clear HB; clear HO; have HB := nb_; have HO := no_; clear nb_; clear no_; clear hb; obtain ⟨bx0, bx1, bx2⟩ := box_cells hbx.out)
        go_ret2
        exact ⟨by rw [← HX.out]; rfl, by repeat (first | (with_reducible first | exact HB.out | apply below_alloc | apply pw_below_drewN | apply below_drew1) | exact HB.out)⟩
    · have d0 : decide ((i : Int) < (l1.length : Int)) = false := decide_eq_false (by omega)
      have d1 : decide (i < l1.length) = false := decide_eq_false hi
      have hx := HX.out
      rw [List.drop_eq_nil_of_le (by omega)] at hx
      have info5 : (Try.prog.info? 5).map (fun i => (i.zero, i.size, i.bytes)) = some (some (.int .u8 0), 1, 1) := by kernel_rfl
      obtain ⟨i0, hi0, hz0, hz1, hz2⟩ := info_parts info5
      have hN := HN.out
      obtain ⟨A8, hcut, hrd, hcl⟩ := print_cut_int (P := Try.prog) (k := .u8) 38 5 Try.underlying38 hi0 hz1 A6 c6 xs ((tail a0).size : Int) (by omega) (by omega) HO.out.reads.2
      have hcv := string_of_reads (P := Try.prog) (src := 38) (dst := 9) (c := c6 - ((tail a0).size : Int).toNat) Try.underlying38 Try.underlying5 Try.underlying9 (hrd wr HO.out.readsInt)
      rw [Int.toNat_natCast] at hcut hcv
      obtain ⟨ys, hys⟩ : ∃ ys, xs.drop (tail a0).size = ys := ⟨_, rfl⟩
      obtain ⟨c8, hc8⟩ : ∃ c8, c6 - (tail a0).size = c8 := ⟨_, rfl⟩
      rw [hys, hc8] at hcut hcv
      have HX2 := Aside0.mk (show (strOfNums ys, (0 : Int)) = R by rw [← hys]; exact hx)
      clear hx hys hc8 hrd hcl hi0 hz0 hz1 hz2 hN info5
      go_wp2
      go_ret2
      exact ⟨by rw [← HX2.out]; rfl, by repeat (first | (with_reducible first | exact HB.out | apply below_alloc | apply pw_below_drewN | apply below_drew1) | exact HB.out)⟩

end Go.Proofs.Ytoibcollkkjelaa.Exp
