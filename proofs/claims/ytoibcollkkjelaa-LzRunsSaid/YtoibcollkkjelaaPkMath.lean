/- What lz.Pack makes of a text, as plain functions: the places with the same beginning, the longest piece, the tokens; and their laws. -/
import Derived.Test.YtoibcollkkjelaaGlueLaw
namespace Go.Proofs.Ytoibcollkkjelaa.PkMath
open Go.RowKit Go.Proofs.Ytoibcollkkjelaa.PLzGlue Go.Proofs.YtoibcollkkjelaaW.PrintWords Go.Proofs.YtoibcollkkjelaaW.PrintLast Go.Proofs.YtoibcollkkjelaaW.PrintMore Go.Proofs.Ytoibcollkkjelaa.Spec Go.Proofs.Ytoibcollkkjelaa.GlueLaw

/-- How many bytes from two places on are the same. -/
def alF (T : ByteArray) (a b : Nat) : Nat → Nat → Nat
  | 0, n => n
  | f + 1, n => if b + n < T.size ∧ bt T ((a + n : Nat) : Int) = bt T ((b + n : Nat) : Int) then alF T a b f (n + 1) else n
def al (T : ByteArray) (a b : Nat) : Nat := alF T a b 258 0
theorem alF_spec (T : ByteArray) (a b f n : Nat) : n ≤ alF T a b f n ∧ alF T a b f n ≤ n + f ∧ (∀ j, n ≤ j → j < alF T a b f n → b + j < T.size ∧ bt T ((a + j : Nat) : Int) = bt T ((b + j : Nat) : Int)) := by
  induction f generalizing n with
  | zero => exact ⟨Nat.le_refl _, Nat.le_refl _, fun j h1 h2 => by unfold alF at h2; omega⟩
  | succ f ih =>
    rw [alF]
    by_cases h : b + n < T.size ∧ bt T ((a + n : Nat) : Int) = bt T ((b + n : Nat) : Int)
    · rw [if_pos h]
      obtain ⟨h1, h2, h3⟩ := ih (n + 1)
      refine ⟨by omega, by omega, fun j hj hj2 => ?_⟩
      by_cases hjn : j = n
      · subst hjn; exact h
      · exact h3 j (by omega) hj2
    · rw [if_neg h]
      exact ⟨Nat.le_refl _, by omega, fun j h1 h2 => by omega⟩
theorem alF_ge (T : ByteArray) (a b k f n : Nat) (hk : k ≤ n + f) (h : ∀ j, n ≤ j → j < k → b + j < T.size ∧ bt T ((a + j : Nat) : Int) = bt T ((b + j : Nat) : Int)) : k ≤ alF T a b f n := by
  induction f generalizing n with
  | zero => unfold alF; omega
  | succ f ih =>
    rw [alF]
    by_cases hn : n < k
    · rw [if_pos (h n (Nat.le_refl _) hn)]
      exact ih (n + 1) (by omega) (fun j h1 h2 => h j (by omega) h2)
    · split
      · have := (alF_spec T a b f (n + 1)).1
        omega
      · omega
theorem al_le (T : ByteArray) (a b : Nat) : al T a b ≤ 258 := by have := (alF_spec T a b 258 0).2.1; unfold al; omega
theorem al_same (T : ByteArray) (a b j : Nat) (h : j < al T a b) : b + j < T.size ∧ bt T ((a + j : Nat) : Int) = bt T ((b + j : Nat) : Int) := (alF_spec T a b 258 0).2.2 j (Nat.zero_le _) h
theorem al_room (T : ByteArray) (a b : Nat) (hb : b ≤ T.size) : b + al T a b ≤ T.size := by
  by_cases h : al T a b = 0
  · omega
  · have := (al_same T a b (al T a b - 1) (by omega)).1
    omega
theorem al_ge (T : ByteArray) (a b k : Nat) (hk : k ≤ 258) (h : ∀ j, j < k → b + j < T.size ∧ bt T ((a + j : Nat) : Int) = bt T ((b + j : Nat) : Int)) : k ≤ al T a b := alF_ge T a b k 258 0 (by omega) (fun j _ h2 => h j h2)

/-- The last place, among the first n ones, with a beginning. -/
def lastK (T : ByteArray) : Nat → ByteArray → Option Nat
  | 0, _ => none
  | n + 1, key => if n + 3 ≤ T.size ∧ T.extract n (n + 3) = key then some n else lastK T n key
theorem lastK_some (T : ByteArray) (n : Nat) (key : ByteArray) (p : Nat) (h : lastK T n key = some p) : p < n ∧ p + 3 ≤ T.size ∧ T.extract p (p + 3) = key := by
  induction n with
  | zero => cases h
  | succ n ih =>
    rw [lastK] at h
    split at h
    · rename_i h2
      cases h
      exact ⟨by omega, h2.1, h2.2⟩
    · obtain ⟨h1, h2⟩ := ih h
      exact ⟨by omega, h2⟩
theorem lastK_ge (T : ByteArray) (n q : Nat) (key : ByteArray) (hq : q < n) (h3 : q + 3 ≤ T.size) (hk : T.extract q (q + 3) = key) : ∃ p, lastK T n key = some p ∧ q ≤ p := by
  induction n with
  | zero => omega
  | succ n ih =>
    rw [lastK]
    by_cases h : n + 3 ≤ T.size ∧ T.extract n (n + 3) = key
    · exact ⟨n, if_pos h, by omega⟩
    · rw [if_neg h]
      by_cases hqn : q = n
      · subst hqn
        exact absurd ⟨h3, hk⟩ h
      · exact ih (by omega)
/-- The place ahead of a place. -/
def bef (T : ByteArray) (q : Nat) : Int := if q + 3 ≤ T.size then (match lastK T q (T.extract q (q + 3)) with | some p => (p : Int) | none => -1) else -1
theorem bef_range (T : ByteArray) (q : Nat) : -1 ≤ bef T q ∧ bef T q < q := by
  unfold bef
  split
  · split
    · rename_i p h
      have := (lastK_some T q _ p h).1
      omega
    · omega
  · omega
def aheadL (T : ByteArray) (n : Nat) : List Int := (List.range n).map (bef T)
theorem aheadL_len (T : ByteArray) (n : Nat) : (aheadL T n).length = n := by unfold aheadL; rw [List.length_map, List.length_range]
theorem aheadL_succ (T : ByteArray) (n : Nat) : aheadL T (n + 1) = aheadL T n ++ [bef T n] := by unfold aheadL; rw [List.range_succ, List.map_append]; rfl
theorem aheadL_rd (T : ByteArray) (n p : Nat) (h : p < n) : rd (aheadL T n) (p : Int) = bef T p := by
  unfold rd aheadL
  rw [Int.toNat_natCast, List.getD_eq_getElem?_getD, List.getElem?_map, List.getElem?_range h]
  rfl

/-- The longest piece, from a place on, by so many tries: its length and how far back it lies. -/
def bL (T : ByteArray) (b : Nat) : Nat → Int → Int × Int → Int × Int
  | 0, _, t => t
  | f + 1, p, t => if 0 ≤ p ∧ (b : Int) - p ≤ 32768 then bL T b f (bef T p.toNat) (if (al T p.toNat b : Int) > t.1 then ((al T p.toNat b : Int), (b : Int) - p) else t) else t
/-- A piece that may be told: of no byte, or of bytes that came ahead. -/
def Piece (T : ByteArray) (b : Nat) (t : Int × Int) : Prop := t = (0, 0) ∨ ∃ p : Nat, p < b ∧ t = ((al T p b : Int), (b : Int) - p) ∧ (b : Int) - p ≤ 32768
theorem bL_piece (T : ByteArray) (b : Nat) (f : Nat) (p : Int) (t : Int × Int) (hp : p < b) (ht : Piece T b t) : Piece T b (bL T b f p t) := by
  induction f generalizing p t with
  | zero => exact ht
  | succ f ih =>
    rw [bL]
    split
    · rename_i h
      have hb := bef_range T p.toNat
      refine ih _ _ (by omega) ?_
      split
      · exact Or.inr ⟨p.toNat, by omega, by rw [Int.toNat_of_nonneg h.1], by rw [Int.toNat_of_nonneg h.1]; exact h.2⟩
      · exact ht
    · exact ht
theorem bL_mono (T : ByteArray) (b f : Nat) (p : Int) (t : Int × Int) : t.1 ≤ (bL T b f p t).1 := by
  induction f generalizing p t with
  | zero => exact Int.le_refl _
  | succ f ih =>
    rw [bL]
    split
    · refine Int.le_trans ?_ (ih _ _)
      split
      · rename_i h
        show t.1 ≤ (al T p.toNat b : Int)
        omega
      · exact Int.le_refl _
    · exact Int.le_refl _
/-- Each place of the same beginning is looked at. -/
theorem bL_ge (T : ByteArray) (b f p q : Nat) (t : Int × Int) (hb : b ≤ 30000) (hp : p < b) (hq : q ≤ p) (hp3 : p + 3 ≤ T.size) (hs : T.extract q (q + 3) = T.extract p (p + 3)) (hf : p - q < f) : (al T q b : Int) ≤ (bL T b f (p : Int) t).1 := by
  induction f generalizing p t with
  | zero => omega
  | succ f ih =>
    rw [bL, if_pos (by omega), Int.toNat_natCast]
    by_cases hpq : q = p
    · subst hpq
      refine Int.le_trans ?_ (bL_mono _ _ _ _ _)
      split
      · exact Int.le_refl _
      · omega
    · obtain ⟨p', hl, hge⟩ := lastK_ge T p q _ (by omega) (by omega) hs
      have hl2 := lastK_some T p _ p' hl
      have e : bef T p = (p' : Int) := by
        unfold bef
        rw [if_pos hp3, hl]
      rw [e]
      exact ih p' _ (by omega) hge hl2.2.1 (by rw [hs, hl2.2.2]) (by omega)
/-- .. at a place, and whether it is long enough. -/
def bestP (T : ByteArray) (b : Nat) : Int × Int := if T.size < b + 3 then (0, 0) else match lastK T b (T.extract b (b + 3)) with | some p => bL T b 64 (p : Int) (0, 0) | none => (0, 0)
theorem bestP_piece (T : ByteArray) (b : Nat) : Piece T b (bestP T b) := by
  unfold bestP
  split
  · exact Or.inl rfl
  · split
    · rename_i p h
      have := (lastK_some T b _ p h).1
      exact bL_piece T b 64 _ _ (by omega) (Or.inl rfl)
    · exact Or.inl rfl
theorem bestP_range (T : ByteArray) (b : Nat) (hb : b ≤ T.size) : 0 ≤ (bestP T b).1 ∧ (bestP T b).1 ≤ 258 ∧ (b : Int) + (bestP T b).1 ≤ T.size := by
  rcases bestP_piece T b with h | ⟨p, hp, h, _⟩
  · rw [h]
    simp only
    omega
  · rw [h]
    have h1 := al_le T p b
    have h2 := al_room T p b hb
    simp only
    omega
/-- The token at a place. -/
def tok (T : ByteArray) (b : Nat) : S30 := if 3 ≤ (bestP T b).1 then ⟨0, (bestP T b).1, (bestP T b).2⟩ else ⟨bt T (b : Int), 0, 0⟩
def stp (T : ByteArray) (b : Nat) : Nat := if 3 ≤ (bestP T b).1 then (bestP T b).1.toNat else 1
theorem stp_range (T : ByteArray) (b : Nat) (hb : b < T.size) : 1 ≤ stp T b ∧ stp T b ≤ 258 ∧ b + stp T b ≤ T.size := by
  have := bestP_range T b (by omega)
  unfold stp
  split <;> omega
/-- The tokens from a place on. -/
def pkL (T : ByteArray) : Nat → Nat → List S30
  | 0, _ => []
  | f + 1, b => if b < T.size then tok T b :: pkL T f (b + stp T b) else []
theorem pkL_len (T : ByteArray) (f b : Nat) (hb : b ≤ T.size) : (pkL T f b).length ≤ T.size - b := by
  induction f generalizing b with
  | zero => exact Nat.zero_le _
  | succ f ih =>
    rw [pkL]
    split
    · rename_i h
      have hs := stp_range T b h
      have := ih (b + stp T b) (by omega)
      rw [List.length_cons]
      omega
    · exact Nat.zero_le _
theorem rd_take (X : List Int) (m i : Nat) (hi : i < m) : rd (X.take m) (i : Int) = rd X (i : Int) := by
  unfold rd
  rw [Int.toNat_natCast, List.getD_eq_getElem?_getD, List.getD_eq_getElem?_getD, List.getElem?_take, if_pos hi]
theorem take_rd (X : List Int) (m : Nat) (hm : m < X.length) : X.take (m + 1) = X.take m ++ [rd X (m : Int)] := by
  rw [List.take_add_one, List.getElem?_eq_getElem hm, Option.toList_some]
  unfold rd
  rw [Int.toNat_natCast, List.getD_eq_getElem?_getD, List.getElem?_eq_getElem hm]
  rfl
theorem copy_text (X : List Int) (p b : Nat) (hp : p < b) (n m : Nat) (hbm : b ≤ m) (hm : m + n ≤ X.length) (h : ∀ j, m ≤ b + j → b + j < m + n → rd X ((p + j : Nat) : Int) = rd X ((b + j : Nat) : Int)) :
    copyN ((b : Int) - p) n (X.take m) = X.take (m + n) := by
  induction n generalizing m with
  | zero => rfl
  | succ n ih =>
    have hl : (X.take m).length = m := by rw [List.length_take]; omega
    obtain ⟨j, rfl⟩ : ∃ j, m = b + j := ⟨m - b, by omega⟩
    have e : rd (X.take (b + j)) (((X.take (b + j)).length : Int) - ((b : Int) - p)) = rd X ((b + j : Nat) : Int) := by
      rw [hl, show (((b + j : Nat) : Int) - ((b : Int) - p)) = ((p + j : Nat) : Int) from by omega, rd_take _ _ _ (by omega)]
      exact h j (Nat.le_refl _) (by omega)
    rw [copyN, e, ← take_rd X (b + j) (by omega)]
    rw [show b + j + (n + 1) = (b + j + 1) + n from by omega]
    exact ih (b + j + 1) (by omega) (by omega) (fun i h1 h2 => h i (by omega) (by omega))
theorem bt_range (s : ByteArray) (i : Int) : 0 ≤ bt s i ∧ bt s i ≤ 255 := by
  unfold bt
  split
  · have := (s[i.toNat]).toNat_lt
    omega
  · omega
theorem size_bytes (T : ByteArray) : (bytesOf T).length = T.size := bytesOf_length T
/-- What is packed is expanded again. -/
theorem pk_out (T : ByteArray) (f b : Nat) (hb : b ≤ T.size) (hf : T.size ≤ b + f) : outL (pkL T f b) ((bytesOf T).take b) = .ok (bytesOf T) := by
  induction f generalizing b with
  | zero =>
    have : b = T.size := by omega
    subst this
    show Except.ok ((bytesOf T).take T.size) = _
    rw [List.take_of_length_le (by rw [size_bytes]; exact Nat.le_refl _)]
  | succ f ih =>
    rw [pkL]
    by_cases h : b < T.size
    · rw [if_pos h]
      have hs := stp_range T b h
      have hi := ih (b + stp T b) (by omega) (by omega)
      have hl : ((bytesOf T).take b).length = b := by rw [List.length_take, size_bytes]; omega
      rw [outL_cons]
      by_cases h3 : 3 ≤ (bestP T b).1
      · have e1 : tok T b = ⟨0, (bestP T b).1, (bestP T b).2⟩ := if_pos h3
        have e2 : stp T b = (bestP T b).1.toNat := if_pos h3
        rcases bestP_piece T b with hz | ⟨p, hp, hpe, hpw⟩
        · rw [hz] at h3
          simp at h3
        · rw [e1, e2, hpe]
          rw [e2, hpe] at hi
          have ha := al_le T p b
          have hr := al_room T p b hb
          rw [hpe] at h3
          simp only at h3 hi ⊢
          have hv : validB ⟨0, (al T p b : Int), (b : Int) - p⟩ = true := by
            unfold validB
            rw [if_neg (show ¬ ((al T p b : Int) = 0) from by omega)]
            simp
            omega
          rw [if_pos hv, if_neg (show ¬ ((al T p b : Int) = 0) from by omega), hl, if_neg (by omega)]
          rw [copy_text (bytesOf T) p b hp _ b (Nat.le_refl _) (by rw [size_bytes]; omega) (fun j _ h2 => by
            have := (al_same T p b j (by omega)).2
            rw [rd_bytesOf, rd_bytesOf]
            exact this)]
          exact hi
      · have e1 : tok T b = ⟨bt T (b : Int), 0, 0⟩ := if_neg h3
        have e2 : stp T b = 1 := if_neg h3
        have hbr := bt_range T (b : Int)
        have hv : validB ⟨bt T (b : Int), 0, 0⟩ = true := by
          unfold validB
          simp
          omega
        rw [e1, e2, if_pos hv, if_pos rfl]
        simp only
        rw [Int.emod_eq_of_lt (by omega) (by omega), ← rd_bytesOf, ← take_rd _ _ (by rw [size_bytes]; exact h)]
        rw [e2] at hi
        exact hi
    · rw [if_neg h]
      show Except.ok ((bytesOf T).take b) = _
      rw [List.take_of_length_le (by rw [size_bytes]; omega)]

/-- What is packed with a window is expanded again with it. -/
theorem pk_ex (w s : ByteArray) (f : Nat) (hf : s.size ≤ f) : ex w (pkL (tail w ++ s) f (tail w).size) = (s, 0) := by
  have hl : (bytesOf (tail w)).length = (tail w).size := size_bytes _
  have e : bytesOf (tail w) = (bytesOf (tail w ++ s)).take (tail w).size := by
    rw [bytes_append, List.take_left' hl]
  have h := pk_out (tail w ++ s) f (tail w).size (by rw [ByteArray.size_append]; omega) (by rw [ByteArray.size_append]; omega)
  unfold ex
  rw [run_out, e, h]
  show (strOfNums ((bytesOf (tail w ++ s)).drop (tail w).size), (0 : Int)) = _
  rw [bytes_append, List.drop_left' hl]
  have e2 : strOfNums (bytesOf s) = s := by
    unfold strOfNums bytesOf
    rw [List.map_map]
    have e : ((fun n : Int => UInt8.ofNat n.toNat) ∘ fun b : UInt8 => (b.toNat : Int)) = id := by
      funext b
      simp
    rw [e, List.map_id]
  rw [e2]
/-- A text of one byte again and again makes few tokens. -/
theorem ext_same (T : ByteArray) (c : Int) (h : ∀ i : Nat, i < T.size → bt T (i : Int) = c) (i j : Nat) (hi : i + 3 ≤ T.size) (hj : j + 3 ≤ T.size) : T.extract i (i + 3) = T.extract j (j + 3) := by
  have hb : ∀ i : Nat, i + 3 ≤ T.size → bytesOf (T.extract i (i + 3)) = [c, c, c] := by
    intro i hi
    have hs : (T.extract i (i + 3)).size = 3 := by rw [ByteArray.size_extract]; omega
    apply List.ext_getElem
    · rw [size_bytes, hs]; rfl
    · intro n h1 h2
      rw [size_bytes, hs] at h1
      have e1 : rd (bytesOf (T.extract i (i + 3))) (n : Int) = (bytesOf (T.extract i (i + 3)))[n] := by
        unfold rd
        rw [Int.toNat_natCast, List.getD_eq_getElem?_getD, List.getElem?_eq_getElem]
        rfl
      have e2 : bt (T.extract i (i + 3)) (n : Int) = bt T ((i + n : Nat) : Int) := by
        unfold bt
        rw [dif_pos (show (n : Int).toNat < (T.extract i (i + 3)).size from by rw [hs]; omega), dif_pos (show ((i + n : Nat) : Int).toNat < T.size from by omega)]
        congr 2
        exact ByteArray.getElem_extract ..
      rw [← e1, rd_bytesOf, e2, h _ (by omega)]
      have : n = 0 ∨ n = 1 ∨ n = 2 := by omega
      rcases this with rfl | rfl | rfl <;> rfl
  have h1 : bytesOf (T.extract i (i + 3)) = bytesOf (T.extract j (j + 3)) := by rw [hb i hi, hb j hj]
  have e2 : ∀ s : ByteArray, strOfNums (bytesOf s) = s := by
    intro s
    unfold strOfNums bytesOf
    rw [List.map_map]
    have e : ((fun n : Int => UInt8.ofNat n.toNat) ∘ fun b : UInt8 => (b.toNat : Int)) = id := by
      funext b
      simp
    rw [e, List.map_id]
  rw [← e2 (T.extract i (i + 3)), h1, e2]
theorem bestP_le (T : ByteArray) (b : Nat) (hb : b ≤ T.size) : (bestP T b).1 ≤ 258 ∧ (b : Int) + (bestP T b).1 ≤ T.size := (bestP_range T b hb).2
theorem runs_best (T : ByteArray) (c : Int) (h : ∀ i : Nat, i < T.size → bt T (i : Int) = c) (b : Nat) (hb : b ≤ 29000) (h1 : 1 ≤ b) (h3 : b + 3 ≤ T.size) : (bestP T b).1 = min 258 ((T.size : Int) - b) := by
  obtain ⟨p, hl, hge⟩ := lastK_ge T b (b - 1) (T.extract b (b + 3)) (by omega) (by omega) (ext_same T c h _ _ (by omega) h3)
  have hl2 := lastK_some T b _ p hl
  have hp : p = b - 1 := by omega
  subst hp
  have e : bestP T b = bL T b 64 ((b - 1 : Nat) : Int) (0, 0) := by
    unfold bestP
    rw [if_neg (by omega), hl]
  have hr := bestP_le T b (by omega)
  have hg := bL_ge T b 64 (b - 1) (b - 1) (0, 0) (by omega) (by omega) (Nat.le_refl _) hl2.2.1 rfl (by omega)
  have ha := al_ge T (b - 1) b (min 258 (T.size - b)) (by omega) (fun j hj => ⟨by omega, by rw [h _ (by omega), h _ (by omega)]⟩)
  rw [← e] at hg
  omega
theorem runs_len (T : ByteArray) (c : Int) (h : ∀ i : Nat, i < T.size → bt T (i : Int) = c) (hT : T.size ≤ 29000) (f b : Nat) (hb1 : 1 ≤ b) (hb : b ≤ T.size) : (pkL T f b).length ≤ (T.size - b) / 258 + 2 := by
  induction f generalizing b with
  | zero => exact Nat.zero_le _
  | succ f ih =>
    by_cases h3 : b + 3 ≤ T.size
    · have he := runs_best T c h b (by omega) hb1 h3
      have hs : stp T b = min 258 (T.size - b) := by
        unfold stp
        rw [if_pos (by omega), he]
        omega
      rw [pkL, if_pos (by omega), List.length_cons, hs]
      by_cases hr : T.size - b ≤ 258
      · have h2 := pkL_len T f (b + min 258 (T.size - b)) (by omega)
        omega
      · have h2 := ih (b + min 258 (T.size - b)) (by omega) (by omega)
        omega
    · have := pkL_len T (f + 1) b hb
      omega
theorem runs_all (T : ByteArray) (c : Int) (h : ∀ i : Nat, i < T.size → bt T (i : Int) = c) (hT : T.size ≤ 29000) (f : Nat) : (pkL T f 0).length ≤ 4 + T.size / 258 := by
  cases f with
  | zero => exact Nat.zero_le _
  | succ f =>
    rw [pkL]
    split
    · rename_i h0
      have hs := stp_range T 0 h0
      have := runs_len T c h hT f (0 + stp T 0) (by omega) (by omega)
      rw [List.length_cons]
      have : (T.size - (0 + stp T 0)) / 258 ≤ T.size / 258 := Nat.div_le_div_right (by omega)
      omega
    · exact Nat.zero_le _
/-- What comes a second time makes few tokens. -/
theorem ext_twice (s : ByteArray) (i : Nat) (hi : i + 3 ≤ s.size) : (s ++ s).extract i (i + 3) = (s ++ s).extract (s.size + i) (s.size + i + 3) := by
  have hl : s.data.toList.length = s.size := by simp
  have key : ∀ l : List UInt8, i + 3 ≤ l.length → ((l ++ l).drop i).take 3 = ((l ++ l).drop (l.length + i)).take 3 := by
    intro l h
    rw [List.drop_append_of_le_length (by omega), List.take_append_of_le_length (by rw [List.length_drop]; omega), ← List.drop_drop, List.drop_left]
  apply ByteArray.ext
  apply Array.ext'
  rw [ByteArray.data_extract, ByteArray.data_extract, Array.toList_extract, Array.toList_extract, ByteArray.data_append, Array.toList_append, List.extract_eq_take_drop, List.extract_eq_take_drop]
  rw [show i + 3 - i = 3 from by omega, show s.size + i + 3 - (s.size + i) = 3 from by omega, ← hl]
  exact key _ (by omega)
theorem bt_twice (s : ByteArray) (i : Nat) (hi : i < s.size) : bt (s ++ s) ((s.size + i : Nat) : Int) = bt (s ++ s) (i : Int) := by
  rw [← rd_bytesOf, ← rd_bytesOf, bytes_append]
  have hl : (bytesOf s).length = s.size := size_bytes s
  unfold rd
  rw [Int.toNat_natCast, Int.toNat_natCast, List.getD_eq_getElem?_getD, List.getD_eq_getElem?_getD, List.getElem?_append_right (by omega), List.getElem?_append_left (by omega), hl, show s.size + i - s.size = i from by omega]
theorem twice_best (s : ByteArray) (hs : s.size ≤ 30) (b : Nat) (hb : s.size ≤ b) (h3 : b + 3 ≤ 2 * s.size) : (bestP (s ++ s) b).1 = 2 * s.size - b := by
  have hT : (s ++ s).size = 2 * s.size := by rw [ByteArray.size_append]; omega
  obtain ⟨q, rfl⟩ : ∃ q, b = s.size + q := ⟨b - s.size, by omega⟩
  have hk := ext_twice s q (by omega)
  obtain ⟨p, hl, hge⟩ := lastK_ge (s ++ s) (s.size + q) q _ (by omega) (by omega) hk
  have hl2 := lastK_some (s ++ s) (s.size + q) _ p hl
  have e : bestP (s ++ s) (s.size + q) = bL (s ++ s) (s.size + q) 64 (p : Int) (0, 0) := by
    unfold bestP
    rw [if_neg (by omega), hl]
  have hr := bestP_le (s ++ s) (s.size + q) (by omega)
  have hg := bL_ge (s ++ s) (s.size + q) 64 p q (0, 0) (by omega) hl2.1 hge hl2.2.1 (by rw [hk, hl2.2.2]) (by omega)
  have ha := al_ge (s ++ s) q (s.size + q) (s.size - q) (by omega) (fun j hj => ⟨by omega, by
    rw [show s.size + q + j = s.size + (q + j) from by omega]
    exact (bt_twice s (q + j) (by omega)).symm⟩)
  rw [← e] at hg
  omega
theorem twice_len2 (s : ByteArray) (hs : s.size ≤ 30) (f b : Nat) (hb : s.size ≤ b) (hb2 : b ≤ 2 * s.size) : (pkL (s ++ s) f b).length ≤ 2 := by
  have hT : (s ++ s).size = 2 * s.size := by rw [ByteArray.size_append]; omega
  by_cases h3 : b + 3 ≤ 2 * s.size
  · cases f with
    | zero => exact Nat.zero_le _
    | succ f =>
      have he := twice_best s hs b hb h3
      have hst : stp (s ++ s) b = 2 * s.size - b := by
        unfold stp
        rw [if_pos (by omega), he]
        omega
      rw [pkL, if_pos (by omega), List.length_cons, hst]
      have := pkL_len (s ++ s) f (b + (2 * s.size - b)) (by omega)
      omega
  · have := pkL_len (s ++ s) f b (by omega)
    omega
theorem twice_len (s : ByteArray) (hs : s.size ≤ 30) (f b : Nat) (hb : b ≤ 2 * s.size) : (pkL (s ++ s) f b).length ≤ 2 + (s.size - b) := by
  have hT : (s ++ s).size = 2 * s.size := by rw [ByteArray.size_append]; omega
  induction f generalizing b with
  | zero => exact Nat.zero_le _
  | succ f ih =>
    by_cases hbs : s.size ≤ b
    · have := twice_len2 s hs (f + 1) b hbs hb
      omega
    · rw [pkL, if_pos (by omega), List.length_cons]
      have hst := stp_range (s ++ s) b (by omega)
      have := ih (b + stp (s ++ s) b) (by omega)
      omega
end Go.Proofs.Ytoibcollkkjelaa.PkMath
