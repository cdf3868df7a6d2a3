/- The plain laws of filtering: what is filtered comes back, the chosen kind weighs least, and the simple kinds. -/
import Derived.Test.YtflkcempeehilaaCho
namespace Go.Proofs.Ytflkcempeehilaa.Law
open Go.RowKit Go.Proofs.Ytflkcempeehilaa.PFilterRows Go.Proofs.YtflkcempeehilaaW.PrintWords Go.Proofs.YtflkcempeehilaaW.PrintLast Go.Proofs.YtflkcempeehilaaW.PrintMore Go.Proofs.Ytflkcempeehilaa.Gs Go.Proofs.Ytflkcempeehilaa.Each Go.Proofs.Ytflkcempeehilaa.Flt Go.Proofs.Ytflkcempeehilaa.Refs
set_option linter.unusedVariables false

theorem rd_snoc (l : List Int) (x : Int) (i : Nat) (hi : i < l.length) : rd (l ++ [x]) (i : Int) = rd l (i : Int) := by
  unfold rd
  rw [Int.toNat_natCast, List.getD_eq_getElem?_getD, List.getD_eq_getElem?_getD, List.getElem?_append_left hi]
theorem rd_last (l : List Int) (x : Int) (i : Nat) (hi : i = l.length) : rd (l ++ [x]) (i : Int) = x := by
  subst hi
  unfold rd
  rw [Int.toNat_natCast, List.getD_eq_getElem?_getD, List.getElem?_append_right (Nat.le_refl _)]
  simp
/-- The bytes, one by one. -/
def bL (s : ByteArray) : Nat → List Int
  | 0 => []
  | n + 1 => bL s n ++ [bt s (n : Int)]
theorem bL_len (s : ByteArray) (n : Nat) : (bL s n).length = n := by
  induction n with
  | zero => rfl
  | succ n ih => rw [bL, List.length_append, ih]; rfl
theorem bL_rd (s : ByteArray) (n i : Nat) (hi : i < n) : rd (bL s n) (i : Int) = bt s (i : Int) := by
  induction n with
  | zero => omega
  | succ n ih =>
    rw [bL]
    by_cases h : i < n
    · rw [rd_snoc _ _ _ (by rw [bL_len]; exact h), ih h]
    · rw [rd_last _ _ _ (by rw [bL_len]; omega), show i = n from by omega]
theorem bL_all (s : ByteArray) : bL s s.size = bytesOf s := by
  have hl : (bytesOf s).length = s.size := bytesOf_length s
  apply List.ext_getElem
  · rw [bL_len, hl]
  · intro i h1 h2
    rw [bL_len] at h1
    have e1 : rd (bL s s.size) (i : Int) = (bL s s.size)[i] := by
      unfold rd
      rw [Int.toNat_natCast, List.getD_eq_getElem?_getD, List.getElem?_eq_getElem]
      rfl
    have e2 : rd (bytesOf s) (i : Int) = (bytesOf s)[i] := by
      unfold rd
      rw [Int.toNat_natCast, List.getD_eq_getElem?_getD, List.getElem?_eq_getElem]
      rfl
    rw [← e1, ← e2, bL_rd s _ _ h1]
    exact (rd_bytesOf s _).symm
theorem str_bytes (s : ByteArray) : strOfNums (bytesOf s) = s := by
  unfold strOfNums bytesOf
  rw [List.map_map]
  have e : ((fun n : Int => UInt8.ofNat n.toNat) ∘ fun b : UInt8 => (b.toNat : Int)) = id := by
    funext b
    simp
  rw [e, List.map_id]
theorem str_bL (s : ByteArray) : strOfNums (bL s s.size) = s := by rw [bL_all, str_bytes]
theorem atL_bL (row : ByteArray) (n : Nat) (st : Int) (h1 : 1 ≤ st) (hn : n ≤ row.size) : atL (bL row n) ((n : Int) - st) = atB row ((n : Int) - st) := by
  by_cases hj : 0 ≤ (n : Int) - st
  · obtain ⟨j, hj2⟩ := Int.eq_ofNat_of_zero_le hj
    rw [hj2, atL_in _ _ (by rw [bL_len]; omega), atB_in _ _ (by omega), bL_rd _ _ _ (by omega)]
  · rw [atL_out _ _ (by omega), atB_out _ _ (by omega)]
def fS (k st : Int) (prev row : ByteArray) (n : Nat) : Int := (bt row (n : Int) - gs k (atB row ((n : Int) - st)) (atB prev (n : Int)) (atB prev ((n : Int) - st))) % 256
def uS (k st : Int) (prev row : ByteArray) (n : Nat) : Int := (bt row (n : Int) + gs k (atL (uL k st prev row n) ((n : Int) - st)) (atB prev (n : Int)) (atB prev ((n : Int) - st))) % 256
theorem fL_rd (k st : Int) (prev row : ByteArray) (n i : Nat) (hi : i < n) : rd (fL k st prev row n) (i : Int) = fS k st prev row i := by
  induction n with
  | zero => omega
  | succ n ih =>
    rw [fL]
    by_cases h : i < n
    · rw [rd_snoc _ _ _ (by rw [fL_len]; exact h), ih h]
    · rw [rd_last _ _ _ (by rw [fL_len]; omega), show i = n from by omega]
      rfl
theorem uL_rd (k st : Int) (prev row : ByteArray) (n i : Nat) (hi : i < n) : rd (uL k st prev row n) (i : Int) = uS k st prev row i := by
  induction n with
  | zero => omega
  | succ n ih =>
    rw [uL]
    by_cases h : i < n
    · rw [rd_snoc _ _ _ (by rw [uL_len]; exact h), ih h]
    · rw [rd_last _ _ _ (by rw [uL_len]; omega), show i = n from by omega]
      rfl
theorem right_congr (k st : Int) (prev a row : ByteArray) (h : a.size = row.size) : rightB k st prev a = rightB k st prev row := by unfold rightB; rw [h]
theorem flt_right {k st : Int} {prev row : ByteArray} (h : rightB k st prev row = true) : flt k st prev row = (strOfNums (fL k st prev row row.size), 0) := if_pos h
theorem unf_right {k st : Int} {prev row : ByteArray} (h : rightB k st prev row = true) : unf k st prev row = (strOfNums (uL k st prev row row.size), 0) := if_pos h
theorem flt_wrong {k st : Int} {prev row : ByteArray} (h : ¬ rightB k st prev row = true) : flt k st prev row = (⟨#[]⟩, 1) := if_neg h
theorem unf_wrong {k st : Int} {prev row : ByteArray} (h : ¬ rightB k st prev row = true) : unf k st prev row = (⟨#[]⟩, 1) := if_neg h
theorem unf_size (k st : Int) (prev row : ByteArray) : (unf k st prev row).1.size ≤ row.size := by
  unfold unf
  split
  · show (strOfNums _).size ≤ _
    rw [str_size, uL_len]
    exact Nat.le_refl _
  · show 0 ≤ row.size
    omega
theorem back (k st : Int) (prev row : ByteArray) (h : rightB k st prev row = true) : unf k st prev (strOfNums (fL k st prev row row.size)) = (row, 0) := by
  have h1 := (right_fits h).1
  obtain ⟨a, ha⟩ : ∃ a, strOfNums (fL k st prev row row.size) = a := ⟨_, rfl⟩
  have hs : a.size = row.size := by rw [← ha, str_size, fL_len]
  have hm : ∀ n, n ≤ row.size → uL k st prev a n = bL row n := by
    intro n
    induction n with
    | zero => intro _; rfl
    | succ n ih =>
      intro hn
      have e := ih (by omega)
      rw [uL, bL, e, atL_bL row n st h1 (by omega)]
      congr 2
      have hb : bt a (n : Int) = fS k st prev row n := by rw [← ha, bt_str _ (fL_range _ _ _ _ _) n (by rw [fL_len]; omega), fL_rd _ _ _ _ _ _ (by omega)]
      rw [hb]
      have hx := bt_range row (n : Int)
      unfold fS
      generalize gs k (atB row ((n : Int) - st)) (atB prev (n : Int)) (atB prev ((n : Int) - st)) = g
      omega
  rw [ha, unf_right (by rw [right_congr k st prev a row hs]; exact h), hs, hm _ (Nat.le_refl _), str_bL]
theorem forth (k st : Int) (prev row : ByteArray) (h : rightB k st prev row = true) : flt k st prev (strOfNums (uL k st prev row row.size)) = (row, 0) := by
  have h1 := (right_fits h).1
  obtain ⟨a, ha⟩ : ∃ a, strOfNums (uL k st prev row row.size) = a := ⟨_, rfl⟩
  have hs : a.size = row.size := by rw [← ha, str_size, uL_len]
  have hm : ∀ n, n ≤ row.size → fL k st prev a n = bL row n := by
    intro n
    induction n with
    | zero => intro _; rfl
    | succ n ih =>
      intro hn
      rw [fL, bL, ih (by omega)]
      congr 2
      have hb : bt a (n : Int) = uS k st prev row n := by rw [← ha, bt_str _ (uL_range _ _ _ _ _) n (by rw [uL_len]; omega), uL_rd _ _ _ _ _ _ (by omega)]
      have hj : atB a ((n : Int) - st) = atL (uL k st prev row n) ((n : Int) - st) := by
        rw [← ha, atB_str _ (uL_range _ _ _ _ _)]
        by_cases hj : 0 ≤ (n : Int) - st
        · obtain ⟨j, hj2⟩ := Int.eq_ofNat_of_zero_le hj
          rw [hj2, atL_in _ _ (by rw [uL_len]; omega), atL_in _ _ (by rw [uL_len]; omega), uL_rd _ _ _ _ _ _ (by omega), uL_rd _ _ _ _ _ _ (by omega)]
        · rw [atL_out _ _ (by omega), atL_out _ _ (by omega)]
      rw [hb, hj]
      have hx := bt_range row (n : Int)
      unfold uS
      generalize gs k (atL (uL k st prev row n) ((n : Int) - st)) (atB prev (n : Int)) (atB prev ((n : Int) - st)) = g
      omega
  rw [ha, flt_right (by rw [right_congr k st prev a row hs]; exact h), hs, hm _ (Nat.le_refl _), str_bL]

/-- When it may be asked of one kind, it may be of each. -/
theorem right_kind {k st : Int} {prev row : ByteArray} (h : rightB k st prev row = true) (j : Int) (h0 : 0 ≤ j) (h4 : j ≤ 4) : rightB j st prev row = true := by
  unfold rightB at *
  simp only [Bool.and_eq_true, decide_eq_true_eq] at *
  exact ⟨⟨⟨h0, h4⟩, h.1.2⟩, h.2⟩
theorem ch_wrong (st : Int) (prev row : ByteArray) (h : ¬ rightB 0 st prev row = true) (n : Nat) (hn : n ≤ 5) : ch st prev row n = (0, -1) := by
  induction n with
  | zero => rfl
  | succ n ih =>
    have hw : ¬ rightB (n : Int) st prev row = true := fun e => h (right_kind e 0 (by omega) (by omega))
    rw [ch, ih (by omega), flt_wrong hw]
    exact if_neg (fun e => by have := e.1; simp at this)
theorem wgt_nonneg (s : ByteArray) : 0 ≤ wgt s := (wS_range s _).1
theorem ch_right (st : Int) (prev row : ByteArray) (h : rightB 0 st prev row = true) (n : Nat) (hn : n ≤ 4) :
    ∃ b : Nat, ch st prev row (n + 1) = ((b : Int), wgt (flt (b : Int) st prev row).1) ∧ b ≤ n ∧ ∀ j : Nat, j ≤ n → wgt (flt (b : Int) st prev row).1 ≤ wgt (flt (j : Int) st prev row).1 ∧ (b ≤ j ∨ wgt (flt (b : Int) st prev row).1 < wgt (flt (j : Int) st prev row).1) := by
  induction n with
  | zero =>
    refine ⟨0, ?_, Nat.le_refl _, fun j hj => ?_⟩
    · show chS (0, -1) ((0 : Nat) : Int) (flt ((0 : Nat) : Int) st prev row) = _
      have e := flt_right (right_kind h ((0 : Nat) : Int) (by omega) (by omega))
      rw [e]
      exact if_pos ⟨rfl, Or.inl (by decide)⟩
    · obtain rfl : j = 0 := by omega
      exact ⟨Int.le_refl _, Or.inl (Nat.le_refl _)⟩
  | succ n ih =>
    obtain ⟨b, hb, hbn, hj⟩ := ih (by omega)
    have e := flt_right (right_kind h ((n + 1 : Nat) : Int) (by omega) (by omega))
    have e2 : (flt ((n + 1 : Nat) : Int) st prev row).2 = 0 := by rw [e]
    have hnn := wgt_nonneg (flt (b : Int) st prev row).1
    rw [ch, hb]
    by_cases hw : wgt (flt ((n + 1 : Nat) : Int) st prev row).1 < wgt (flt (b : Int) st prev row).1
    · refine ⟨n + 1, if_pos ⟨e2, Or.inr hw⟩, Nat.le_refl _, fun j hj2 => ?_⟩
      by_cases hjn : j = n + 1
      · subst hjn
        exact ⟨Int.le_refl _, Or.inl (Nat.le_refl _)⟩
      · have := hj j (by omega)
        exact ⟨by omega, Or.inr (by omega)⟩
    · refine ⟨b, if_neg ?_, by omega, fun j hj2 => ?_⟩
      · rintro ⟨_, h3 | h3⟩
        · simp only at h3
          omega
        · exact hw h3
      · by_cases hjn : j = n + 1
        · subst hjn
          exact ⟨by omega, Or.inl (by omega)⟩
        · exact hj j (by omega)

/-- A row by a kind whose guess is 0 all along. -/
theorem fL_same (k st : Int) (prev row : ByteArray) (hg : ∀ n : Nat, n < row.size → gs k (atB row ((n : Int) - st)) (atB prev (n : Int)) (atB prev ((n : Int) - st)) = 0) (n : Nat) (hn : n ≤ row.size) : fL k st prev row n = bL row n := by
  induction n with
  | zero => rfl
  | succ n ih =>
    have hx := bt_range row (n : Int)
    rw [fL, bL, ih (by omega), hg n (by omega)]
    congr 2
    omega
theorem gs0 (a b c : Int) : gs 0 a b c = 0 := by unfold gs; simp
theorem gs2 (a b c : Int) : gs 2 a b c = b := by unfold gs; simp
theorem gs1 (a b c : Int) : gs 1 a b c = a := by unfold gs; simp
theorem ap_self (a : Int) : ap a a = 0 := by unfold ap mx; split <;> omega
theorem ap_nonneg (a b : Int) : 0 ≤ ap a b := by unfold ap mx; split <;> omega
theorem gs4 (a : Int) : gs 4 a 0 0 = a := by
  have e : gs 4 a 0 0 = near a 0 0 := by unfold gs; simp
  rw [e]
  unfold near
  have h : nr (a + 0 - 0) a 0 = a := by
    unfold nr
    rw [show a + 0 - 0 = a from by omega, ap_self, if_neg]
    have := ap_nonneg a 0
    omega
  rw [h]
  exact h
theorem atB_empty (i : Int) : atB ⟨#[]⟩ i = 0 := if_neg (by show ¬ (0 ≤ i ∧ i < ((0 : Nat) : Int)); omega)
theorem flt_none (st : Int) (row : ByteArray) (h : rightB 0 st row row = true) : flt 0 st row row = (row, 0) := by
  rw [flt_right h, fL_same 0 st row row (fun n _ => gs0 _ _ _) _ (Nat.le_refl _), str_bL]
theorem flt_up (st : Int) (row : ByteArray) (h : rightB 2 st ⟨#[]⟩ row = true) : flt 2 st ⟨#[]⟩ row = (row, 0) := by
  rw [flt_right h, fL_same 2 st ⟨#[]⟩ row (fun n _ => by rw [gs2, atB_empty]) _ (Nat.le_refl _), str_bL]
theorem fL_paeth (st : Int) (row : ByteArray) (n : Nat) : fL 4 st ⟨#[]⟩ row n = fL 1 st ⟨#[]⟩ row n := by
  induction n with
  | zero => rfl
  | succ n ih => rw [fL, fL, ih, atB_empty, atB_empty, gs4, gs1]
theorem flt_paeth (st : Int) (row : ByteArray) (h : rightB 4 st ⟨#[]⟩ row = true) : flt 4 st ⟨#[]⟩ row = flt 1 st ⟨#[]⟩ row := by
  rw [flt_right h, flt_right (right_kind h 1 (by omega) (by omega)), fL_paeth]
/-- Noughts. -/
def zeros (n : Nat) : ByteArray := strOfNums (List.replicate n 0)
theorem zeros_size (n : Nat) : (zeros n).size = n := by unfold zeros; rw [str_size, List.length_replicate]
theorem bt_zeros (n : Nat) (i : Int) : bt (zeros n) i = 0 := by
  by_cases hi : 0 ≤ i ∧ i < n
  · obtain ⟨j, rfl⟩ := Int.eq_ofNat_of_zero_le hi.1
    unfold zeros
    rw [bt_str _ (fun x hx => by rw [(List.mem_replicate.1 hx).2]; omega) j (by rw [List.length_replicate]; omega)]
    unfold rd
    rw [List.getD_eq_getElem?_getD, List.getElem?_replicate]
    split <;> rfl
  · by_cases h0 : i < 0
    · have hz : i.toNat = 0 := by omega
      unfold bt
      split
      · rename_i h
        have hn : 0 < n := by rw [zeros_size] at h; omega
        have e : bt (zeros n) ((0 : Nat) : Int) = 0 := by
          unfold zeros
          rw [bt_str _ (fun x hx => by rw [(List.mem_replicate.1 hx).2]; omega) 0 (by rw [List.length_replicate]; omega)]
          unfold rd
          rw [List.getD_eq_getElem?_getD, List.getElem?_replicate]
          split <;> rfl
        unfold bt at e
        rw [dif_pos (show ((0 : Nat) : Int).toNat < (zeros n).size from by rw [zeros_size]; exact hn)] at e
        simp only [hz]
        exact e
      · rfl
    · unfold bt
      rw [dif_neg (by rw [zeros_size]; omega)]
theorem atB_zeros (n : Nat) (i : Int) : atB (zeros n) i = 0 := by
  unfold atB
  split
  · exact bt_zeros n i
  · rfl
theorem gs3z : gs 3 0 0 0 = 0 := by decide
theorem flt_zeros (st : Int) (n : Nat) (h : rightB 3 st (zeros n) (zeros n) = true) : flt 3 st (zeros n) (zeros n) = (zeros n, 0) := by
  rw [flt_right h, fL_same 3 st (zeros n) (zeros n) (fun m _ => by simp only [atB_zeros, gs3z]) _ (Nat.le_refl _), str_bL]
theorem uL_zeros (st : Int) (n m : Nat) : uL 4 st (zeros n) (zeros n) m = bL (zeros n) m := by
  induction m with
  | zero => rfl
  | succ m ih =>
    have hz : atL (bL (zeros n) m) ((m : Int) - st) = 0 := by
      unfold atL
      split
      · rename_i h
        obtain ⟨j, hj⟩ := Int.eq_ofNat_of_zero_le h.1
        rw [bL_len] at h
        rw [hj, bL_rd _ _ _ (by omega), bt_zeros]
      · rfl
    rw [uL, bL, ih, hz, bt_zeros, atB_zeros, atB_zeros, gs4]
    rfl
theorem unf_zeros (st : Int) (n : Nat) (h : rightB 4 st (zeros n) (zeros n) = true) : unf 4 st (zeros n) (zeros n) = (zeros n, 0) := by
  rw [unf_right h, uL_zeros, str_bL]
theorem flt_upself (st : Int) (row : ByteArray) (h : rightB 2 st row row = true) : flt 2 st row row = (zeros row.size, 0) := by
  have e : ∀ n, n ≤ row.size → fL 2 st row row n = List.replicate n 0 := by
    intro n
    induction n with
    | zero => intro _; rfl
    | succ n ih =>
      intro hn
      rw [fL, ih (by omega), gs2, atB_in _ _ (by omega), List.replicate_succ']
      congr 2
      omega
  rw [flt_right h, e _ (Nat.le_refl _)]
  rfl
theorem wgt_zeros (n : Nat) : wgt (zeros n) = 0 := by
  have e : ∀ m, wS (zeros n) m = 0 := by
    intro m
    induction m with
    | zero => rfl
    | succ m ih => rw [wS, ih, bt_zeros]; rfl
  exact e _
end Go.Proofs.Ytflkcempeehilaa.Law
