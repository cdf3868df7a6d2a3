/- The document's Filter, Unfilter, Weight and Choose, and filter.weight: what they answer. -/
import Derived.Test.YtflkcempeehilaaFlt
namespace Go.Proofs.Ytflkcempeehilaa.Refs
open Go.RowKit Go.Proofs.Ytflkcempeehilaa.PFilterRows Go.Proofs.YtflkcempeehilaaW.PrintWords Go.Proofs.YtflkcempeehilaaW.PrintLast Go.Proofs.YtflkcempeehilaaW.PrintMore Go.Proofs.Ytflkcempeehilaa.Gs Go.Proofs.Ytflkcempeehilaa.Each Go.Proofs.Ytflkcempeehilaa.Flt
set_option linter.unusedVariables false
set_option linter.unusedSimpArgs false

theorem str_append (xs ys : List Int) : strOfNums (xs ++ ys) = strOfNums xs ++ strOfNums ys := by
  apply ByteArray.ext
  rw [ByteArray.data_append]
  unfold strOfNums
  simp
theorem str_size (xs : List Int) : (strOfNums xs).size = xs.length := by
  show (xs.map _).toArray.size = _
  simp
theorem at_run (s : ByteArray) (i : Int) : miradorref11_at.f s i = some (atB s i) := by
  have h := bt_range s i
  have e : wrap64 (bt s i) = bt s i := by unfold wrap64; omega
  unfold miradorref11_at.f atB
  rw [e]
  by_cases h0 : i < 0
  · rw [if_pos h0, if_neg (by omega)]
  · rw [if_neg h0]
    by_cases h1 : i ≥ (s.size : Int)
    · rw [if_pos h1, if_neg (by omega)]
    · rw [if_neg h1, if_pos (by omega), if_pos (by omega), if_pos (by omega)]
theorem bt_str (xs : List Int) (h : ∀ x ∈ xs, 0 ≤ x ∧ x ≤ 255) (i : Nat) (hi : i < xs.length) : bt (strOfNums xs) (i : Int) = rd xs (i : Int) := by
  have hs := str_size xs
  have h2 := h _ (List.getElem_mem hi)
  have e : ∀ h, (strOfNums xs)[i]'h = UInt8.ofNat (xs[i]).toNat := by
    intro h
    exact List.getElem_map (f := fun n : Int => UInt8.ofNat n.toNat) (l := xs) (i := i) (h := by rw [List.length_map]; exact hi)
  have e1 : bt (strOfNums xs) (i : Int) = (((strOfNums xs)[i]'(by rw [hs]; exact hi)).toNat : Int) := by
    unfold bt
    rw [dif_pos (show (i : Int).toNat < (strOfNums xs).size from by rw [hs]; exact hi)]
    rfl
  rw [e1, e]
  unfold rd
  rw [Int.toNat_natCast, List.getD_eq_getElem?_getD, List.getElem?_eq_getElem hi]
  show ((UInt8.ofNat (xs[i]).toNat).toNat : Int) = xs[i]
  rw [UInt8.toNat_ofNat']
  omega
theorem atB_str (xs : List Int) (h : ∀ x ∈ xs, 0 ≤ x ∧ x ≤ 255) (i : Int) : atB (strOfNums xs) i = atL xs i := by
  unfold atB atL
  rw [str_size]
  by_cases hi : 0 ≤ i ∧ i < xs.length
  · rw [if_pos hi, if_pos hi]
    obtain ⟨n, rfl⟩ := Int.eq_ofNat_of_zero_le hi.1
    exact bt_str xs h n (by omega)
  · rw [if_neg hi, if_neg hi]
theorem atB_range (s : ByteArray) (i : Int) : 0 ≤ atB s i ∧ atB s i ≤ 255 := by
  unfold atB
  split
  · exact bt_range s i
  · omega
theorem atL_range (l : List Int) (i : Int) (h : ∀ x ∈ l, 0 ≤ x ∧ x ≤ 255) : 0 ≤ atL l i ∧ atL l i ≤ 255 := by
  unfold atL
  split
  · exact rd_range l i h
  · omega
theorem sub_wrap (i : Nat) (st : Int) (h1 : 1 ≤ st) (h2 : st ≤ 9223372036854775807) (hi : i ≤ 1000000) : wrap64 ((i : Int) - st) = (i : Int) - st := by
  unfold wrap64
  omega

theorem filter_loop (k st : Int) (prev row : ByteArray) (h1 : 1 ≤ st) (h2 : st ≤ 9223372036854775807) (hrow : row.size ≤ 1000000) (m i n : Nat) (hm : i + m = row.size) (hn : m + 2 ≤ n) :
    miradorref11_Filter.l0 n k st prev row (strOfNums (fL k st prev row i)) (i : Int) = some (strOfNums (fL k st prev row row.size), 0) := by
  induction m generalizing i n with
  | zero =>
    obtain ⟨n, rfl⟩ : ∃ j, n = j + 1 := ⟨n - 1, by omega⟩
    have : i = row.size := by omega
    subst this
    show (if ((row.size : Nat) : Int) < (row.size : Int) then _ else _) = _
    rw [if_neg (by omega)]
  | succ m ih =>
    obtain ⟨n, rfl⟩ : ∃ j, n = j + 2 := ⟨n - 2, by omega⟩
    have hx := bt_range row (i : Int)
    have hg := gs_range k _ _ _ (atB_range row ((i : Int) - st)) (atB_range prev (i : Int)) (atB_range prev ((i : Int) - st))
    unfold miradorref11_Filter.l0
    rw [if_pos (show (i : Int) < (row.size : Int) from by omega), sub_wrap i st h1 h2 (by omega), at_run, at_run, at_run, Option.bind_some, Option.bind_some, Option.bind_some,
      refguess_run n k _ _ _ (atB_range _ _) (atB_range _ _) (atB_range _ _), Option.bind_some, if_pos (show (0 : Int) ≤ (i : Int) from by omega), Option.bind_some]
    have e : Int.tmod (wrap64 ((wrap64 ((wrap64 (bt row (i : Int))) - gs k (atB row ((i : Int) - st)) (atB prev (i : Int)) (atB prev ((i : Int) - st)))) + 256)) 256 % 256 = (bt row (i : Int) - gs k (atB row ((i : Int) - st)) (atB prev (i : Int)) (atB prev ((i : Int) - st))) % 256 := by
      generalize gs k (atB row ((i : Int) - st)) (atB prev (i : Int)) (atB prev ((i : Int) - st)) = g at hg ⊢
      generalize bt row (i : Int) = x at hx ⊢
      rw [show wrap64 x = x from by unfold wrap64; omega, show wrap64 (x - g) = x - g from by unfold wrap64; omega, show wrap64 (x - g + 256) = x - g + 256 from by unfold wrap64; omega, Int.tmod_eq_emod_of_nonneg (by omega)]
      omega
    rw [e, if_pos (by rw [str_size, str_size, fL_len]; show i + 1 ≤ _; omega), ← str_append]
    have h3 := ih (i + 1) (n + 1) (by omega) (by omega)
    have e2 : wrap64 ((i : Int) + 1) = ((i + 1 : Nat) : Int) := by unfold wrap64; omega
    rw [e2]
    exact h3
theorem unfilter_loop (k st : Int) (prev row : ByteArray) (h1 : 1 ≤ st) (h2 : st ≤ 9223372036854775807) (hrow : row.size ≤ 1000000) (m i n : Nat) (hm : i + m = row.size) (hn : m + 2 ≤ n) :
    miradorref11_Unfilter.l0 n k st prev row (strOfNums (uL k st prev row i)) (i : Int) = some (strOfNums (uL k st prev row row.size), 0) := by
  induction m generalizing i n with
  | zero =>
    obtain ⟨n, rfl⟩ : ∃ j, n = j + 1 := ⟨n - 1, by omega⟩
    have : i = row.size := by omega
    subst this
    show (if ((row.size : Nat) : Int) < (row.size : Int) then _ else _) = _
    rw [if_neg (by omega)]
  | succ m ih =>
    obtain ⟨n, rfl⟩ : ∃ j, n = j + 2 := ⟨n - 2, by omega⟩
    have hx := bt_range row (i : Int)
    have hr := uL_range k st prev row i
    have hg := gs_range k _ _ _ (atL_range (uL k st prev row i) ((i : Int) - st) hr) (atB_range prev (i : Int)) (atB_range prev ((i : Int) - st))
    unfold miradorref11_Unfilter.l0
    rw [if_pos (show (i : Int) < (row.size : Int) from by omega), sub_wrap i st h1 h2 (by omega), at_run, at_run, at_run, Option.bind_some, Option.bind_some, Option.bind_some, atB_str _ hr,
      refguess_run n k _ _ _ (atL_range _ _ hr) (atB_range _ _) (atB_range _ _), Option.bind_some, if_pos (show (0 : Int) ≤ (i : Int) from by omega), Option.bind_some]
    have e : Int.tmod (wrap64 ((wrap64 (bt row (i : Int))) + gs k (atL (uL k st prev row i) ((i : Int) - st)) (atB prev (i : Int)) (atB prev ((i : Int) - st)))) 256 % 256 = (bt row (i : Int) + gs k (atL (uL k st prev row i) ((i : Int) - st)) (atB prev (i : Int)) (atB prev ((i : Int) - st))) % 256 := by
      generalize gs k (atL (uL k st prev row i) ((i : Int) - st)) (atB prev (i : Int)) (atB prev ((i : Int) - st)) = g at hg ⊢
      generalize bt row (i : Int) = x at hx ⊢
      rw [show wrap64 x = x from by unfold wrap64; omega, show wrap64 (x + g) = x + g from by unfold wrap64; omega, Int.tmod_eq_emod_of_nonneg (by omega)]
      omega
    rw [e, if_pos (by rw [str_size, str_size, uL_len]; show i + 1 ≤ _; omega), ← str_append]
    have h3 := ih (i + 1) (n + 1) (by omega) (by omega)
    have e2 : wrap64 ((i : Int) + 1) = ((i + 1 : Nat) : Int) := by unfold wrap64; omega
    rw [e2]
    exact h3
theorem reffilter_run (n : Nat) (k st : Int) (prev row : ByteArray) (h2 : st ≤ 9223372036854775807) (hrow : row.size ≤ 1000000) (hn : row.size + 2 ≤ n) : miradorref11_Filter.f n k st prev row = some (flt k st prev row) := by
  unfold miradorref11_Filter.f flt
  rw [refright_run, Option.bind_some]
  by_cases h : rightB k st prev row = true
  · rw [if_pos h, if_pos h]
    exact filter_loop k st prev row (right_fits h).1 h2 hrow row.size 0 n (by omega) (by omega)
  · rw [if_neg h, if_neg h]
theorem refunfilter_run (n : Nat) (k st : Int) (prev row : ByteArray) (h2 : st ≤ 9223372036854775807) (hrow : row.size ≤ 1000000) (hn : row.size + 2 ≤ n) : miradorref11_Unfilter.f n k st prev row = some (unf k st prev row) := by
  unfold miradorref11_Unfilter.f unf
  rw [refright_run, Option.bind_some]
  by_cases h : rightB k st prev row = true
  · rw [if_pos h, if_pos h]
    exact unfilter_loop k st prev row (right_fits h).1 h2 hrow row.size 0 n (by omega) (by omega)
  · rw [if_neg h, if_neg h]
theorem reffilter_calls (k st : Int) (prev row : ByteArray) (w : World) (h2 : st ≤ 9223372036854775807) (hrow : row.size ≤ 1000000) :
    Calls Try.prog 13 #[.int .i64 k, .int .i64 st, .string prev, .string row] w fun e w' => e = .returned (.tuple #[.string (flt k st prev row).1, .int .i64 (flt k st prev row).2]) ∧ Below w.heap.size w w' :=
  miradorref11_Filter.calls (row.size + 2) k st prev row _ _ w (reffilter_run _ k st prev row h2 hrow (Nat.le_refl _))
theorem refunfilter_calls (k st : Int) (prev row : ByteArray) (w : World) (h2 : st ≤ 9223372036854775807) (hrow : row.size ≤ 1000000) :
    Calls Try.prog 15 #[.int .i64 k, .int .i64 st, .string prev, .string row] w fun e w' => e = .returned (.tuple #[.string (unf k st prev row).1, .int .i64 (unf k st prev row).2]) ∧ Below w.heap.size w w' :=
  miradorref11_Unfilter.calls (row.size + 2) k st prev row _ _ w (refunfilter_run _ k st prev row h2 hrow (Nat.le_refl _))

/-- The weight of a byte, and of the first n bytes. -/
def wt (b : Int) : Int := mn b (256 - b)
def wS (s : ByteArray) : Nat → Int
  | 0 => 0
  | n + 1 => wS s n + wt (bt s (n : Int))
theorem wt_range (b : Int) (h : 0 ≤ b ∧ b ≤ 255) : 0 ≤ wt b ∧ wt b ≤ 128 := by
  unfold wt mn
  split <;> omega
theorem wS_range (s : ByteArray) (n : Nat) : 0 ≤ wS s n ∧ wS s n ≤ 128 * n := by
  induction n with
  | zero => exact ⟨Int.le_refl _, by simp [wS]⟩
  | succ n ih =>
    have h := wt_range _ (bt_range s (n : Int))
    rw [wS]
    omega
def wgt (s : ByteArray) : Int := wS s s.size
theorem weight_loop (s : ByteArray) (hs : s.size ≤ 1000000) (m i n : Nat) (hm : i + m = s.size) (hn : m + 1 ≤ n) : miradorref11_Weight.l0 n s (wS s i) (i : Int) = some (wgt s) := by
  induction m generalizing i n with
  | zero =>
    obtain ⟨n, rfl⟩ : ∃ j, n = j + 1 := ⟨n - 1, by omega⟩
    have : i = s.size := by omega
    subst this
    show (if ((s.size : Nat) : Int) < (s.size : Int) then _ else _) = _
    rw [if_neg (by omega)]
    rfl
  | succ m ih =>
    obtain ⟨n, rfl⟩ : ∃ j, n = j + 1 := ⟨n - 1, by omega⟩
    have hx := bt_range s (i : Int)
    have hw := wS_range s i
    have ht := wt_range _ hx
    unfold miradorref11_Weight.l0
    rw [if_pos (show (i : Int) < (s.size : Int) from by omega), if_pos (show (0 : Int) ≤ (i : Int) from by omega)]
    have e : wrap64 (wS s i + (mn (wrap64 (bt s (i : Int))) (wrap64 (256 - (wrap64 (bt s (i : Int))))))) = wS s (i + 1) := by
      rw [wS]
      unfold wt at ht ⊢
      generalize bt s (i : Int) = x at hx ht ⊢
      rw [show wrap64 x = x from by unfold wrap64; omega, show wrap64 (256 - x) = 256 - x from by unfold wrap64; omega]
      generalize mn x (256 - x) = y at ht ⊢
      unfold wrap64
      omega
    have e2 : wrap64 ((i : Int) + 1) = ((i + 1 : Nat) : Int) := by unfold wrap64; omega
    rw [e, e2]
    exact ih (i + 1) n (by omega) (by omega)
theorem refweight_run (n : Nat) (s : ByteArray) (hs : s.size ≤ 1000000) (hn : s.size + 1 ≤ n) : miradorref11_Weight.f n s = some (wgt s) := weight_loop s hs s.size 0 n (by omega) hn
theorem refweight_calls (s : ByteArray) (w : World) (hs : s.size ≤ 1000000) : Calls Try.prog 18 #[.string s] w fun e w' => e = .returned (.int .i64 (wgt s)) ∧ Below w.heap.size w w' :=
  miradorref11_Weight.calls (s.size + 1) s _ w (refweight_run _ s hs (Nat.le_refl _))

theorem flt_size (k st : Int) (prev row : ByteArray) : (flt k st prev row).1.size ≤ row.size := by
  unfold flt
  split
  · show (strOfNums _).size ≤ _
    rw [str_size, fL_len]
    exact Nat.le_refl _
  · show 0 ≤ row.size
    omega
/-- Choose behind its first n kinds: the best one, and its weight. -/
def chS (b : Int × Int) (k : Int) (r : ByteArray × Int) : Int × Int := if r.2 = 0 ∧ (b.2 < 0 ∨ wgt r.1 < b.2) then (k, wgt r.1) else b
def ch (st : Int) (prev row : ByteArray) : Nat → Int × Int
  | 0 => (0, -1)
  | n + 1 => chS (ch st prev row n) (n : Int) (flt (n : Int) st prev row)
theorem choose_loop (st : Int) (prev row : ByteArray) (h2 : st ≤ 9223372036854775807) (hrow : row.size ≤ 1000000) (m i n : Nat) (hm : i + m = 5) (hn : m + row.size + 3 ≤ n) :
    miradorref11_Choose.l0 n st prev row (ch st prev row i).1 (ch st prev row i).2 (i : Int) = some (ch st prev row 5).1 := by
  induction m generalizing i n with
  | zero =>
    obtain ⟨n, rfl⟩ : ∃ j, n = j + 1 := ⟨n - 1, by omega⟩
    have : i = 5 := by omega
    subst this
    show (if ((5 : Nat) : Int) < 5 then _ else _) = _
    rw [if_neg (by omega)]
  | succ m ih =>
    obtain ⟨n, rfl⟩ : ∃ j, n = j + 1 := ⟨n - 1, by omega⟩
    have hsz := flt_size (i : Int) st prev row
    have hw := refweight_run n (flt (i : Int) st prev row).1 (by omega) (by omega)
    have e2 : wrap64 ((i : Int) + 1) = ((i + 1 : Nat) : Int) := by unfold wrap64; omega
    have h := ih (i + 1) n (by omega) (by omega)
    unfold miradorref11_Choose.l0
    rw [if_pos (show (i : Int) < 5 from by omega), reffilter_run n (i : Int) st prev row h2 hrow (by omega), Option.bind_some, hw, e2]
    rw [ch, chS] at h
    generalize flt (i : Int) st prev row = r at *
    generalize ch st prev row i = b at *
    by_cases c1 : r.2 = 0
    · rw [if_pos c1]
      by_cases c3 : b.2 < 0
      · rw [if_pos c3]
        rw [if_pos ⟨c1, Or.inl c3⟩] at h
        exact h
      · rw [if_neg c3, Option.bind_some]
        by_cases c4 : wgt r.1 < b.2
        · rw [if_pos c4]
          rw [if_pos ⟨c1, Or.inr c4⟩] at h
          exact h
        · rw [if_neg c4]
          rw [if_neg (by rintro ⟨_, h5 | h5⟩; exact c3 h5; exact c4 h5)] at h
          exact h
    · rw [if_neg c1]
      rw [if_neg (fun h5 => c1 h5.1)] at h
      exact h
theorem refchoose_calls (st : Int) (prev row : ByteArray) (w : World) (h2 : st ≤ 9223372036854775807) (hrow : row.size ≤ 1000000) :
    Calls Try.prog 17 #[.int .i64 st, .string prev, .string row] w fun e w' => e = .returned (.int .i64 (ch st prev row 5).1) ∧ Below w.heap.size w w' :=
  miradorref11_Choose.calls (row.size + 8) st prev row _ w (choose_loop st prev row h2 hrow 5 0 _ (by omega) (by omega))
end Go.Proofs.Ytflkcempeehilaa.Refs
