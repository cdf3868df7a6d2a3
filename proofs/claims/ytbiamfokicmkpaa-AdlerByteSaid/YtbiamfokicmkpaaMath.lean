/- The sums that adler's More and Sum make are folds over the bytes, for every text. -/
import Derived.Test.YtbiamfokicmkpaaPAdlerSumsx1
import Derived.Laws.BitsLemmas
namespace Go.Proofs.Ytbiamfokicmkpaa.AdMath
open Go.RowKit Go.Proofs.Ytbiamfokicmkpaa.PAdlerSums Go.Proofs.YtbiamfokicmkpaaW.PrintWords

theorem and16 (a : Int) : Go.bits .and .i64 a 65535 = a % 65536 := by
  have e : Go.bits .and .i64 a 65535 = IntKind.i64.wrap (((BitVec.ofInt 64 a).toNat &&& 65535 : Nat) : Int) := rfl
  rw [e, show (65535 : Nat) = 2 ^ 16 - 1 from rfl, Nat.and_two_pow_sub_one_eq_mod, IntKind.wrap_i64, BitVec.toNat_ofInt]
  omega

theorem wraps64 (n : Int) (h₀ : 0 ≤ n) (h₁ : n < 2 ^ 63) : IntKind.i64.wrap n = n := by rw [IntKind.wrap_i64]; omega

theorem or16 (b a : Int) (h0 : 0 ≤ b) (h1 : b ≤ 65535) (h2 : 0 ≤ a) (h3 : a ≤ 65535) : Go.bits .or .i64 (wrap64 (b * 65536)) a = b * 65536 + a := by
  have e : wrap64 (b * 65536) = b * 65536 := by unfold wrap64; omega
  rw [e]
  exact bits_join .i64 63 (by decide) wraps64 16 (b * 65536) a (by omega) (by omega) (by omega) h2 (by omega) (by omega)

/-- The two sums, not counted by anything. -/
def G : List UInt8 → Int → Int → Int × Int
  | [], a, b => (a, b)
  | c :: l, a, b => G l (a + (c.toNat : Int)) (b + (a + (c.toNat : Int)))

/-- The two sums by 65521. -/
def F : List UInt8 → Int → Int → Int × Int
  | [], a, b => (a, b)
  | c :: l, a, b => F l ((a + (c.toNat : Int)) % 65521) ((b + (a + (c.toNat : Int))) % 65521)

theorem F_nil (a b : Int) : F [] a b = (a, b) := rfl
theorem F_cons (c : UInt8) (l : List UInt8) (a b : Int) : F (c :: l) a b = F l ((a + (c.toNat : Int)) % 65521) ((b + (a + (c.toNat : Int))) % 65521) := rfl

theorem F_append (l m : List UInt8) (a b : Int) : F (l ++ m) a b = F m (F l a b).1 (F l a b).2 := by
  induction l generalizing a b with
  | nil => rfl
  | cons c l ih => rw [List.cons_append, F_cons, F_cons, ih]

theorem F_mod (l : List UInt8) (a b : Int) : F l (a % 65521) (b % 65521) = ((G l a b).1 % 65521, (G l a b).2 % 65521) := by
  induction l generalizing a b with
  | nil => rfl
  | cons c l ih =>
    have e1 : (a % 65521 + (c.toNat : Int)) % 65521 = (a + (c.toNat : Int)) % 65521 := by omega
    have e2 : (b % 65521 + (a % 65521 + (c.toNat : Int))) % 65521 = (b + (a + (c.toNat : Int))) % 65521 := by omega
    rw [F_cons, e1, e2, ih]; rfl

theorem F_ne (l : List UInt8) (a b : Int) (h : l ≠ []) : F l a b = ((G l a b).1 % 65521, (G l a b).2 % 65521) := by
  cases l with
  | nil => exact absurd rfl h
  | cons c l => rw [F_cons, F_mod]; rfl

theorem F_bound (l : List UInt8) (a b : Int) (h0 : 0 ≤ a) (h1 : a ≤ 65535) (h2 : 0 ≤ b) (h3 : b ≤ 65535) :
    0 ≤ (F l a b).1 ∧ (F l a b).1 ≤ 65535 ∧ 0 ≤ (F l a b).2 ∧ (F l a b).2 ≤ 65535 := by
  induction l generalizing a b with
  | nil => exact ⟨h0, h1, h2, h3⟩
  | cons c l ih => rw [F_cons]; exact ih _ _ (by omega) (by omega) (by omega) (by omega)

/-- From sums below 65521 on they stay there. -/
theorem F_low (l : List UInt8) (a b : Int) (h0 : 0 ≤ a) (h1 : a < 65521) (h2 : 0 ≤ b) (h3 : b < 65521) :
    0 ≤ (F l a b).1 ∧ (F l a b).1 < 65521 ∧ 0 ≤ (F l a b).2 ∧ (F l a b).2 < 65521 := by
  induction l generalizing a b with
  | nil => exact ⟨h0, h1, h2, h3⟩
  | cons c l ih => rw [F_cons]; exact ih _ _ (by omega) (by omega) (by omega) (by omega)

theorem G_nonneg (l : List UInt8) (a b : Int) (h0 : 0 ≤ a) (h2 : 0 ≤ b) : 0 ≤ (G l a b).1 ∧ 0 ≤ (G l a b).2 := by
  induction l generalizing a b with
  | nil => exact ⟨h0, h2⟩
  | cons c l ih => exact ih _ _ (by omega) (by omega)

theorem bt_eq (x : ByteArray) (i : Nat) (h : i < x.size) : bt x (i : Int) = ((x.data.toList[i]'(by simpa using h)).toNat : Int) := by
  unfold bt
  simp only [Int.toNat_natCast]
  rw [dif_pos h]
  rfl

theorem byte_le (c : UInt8) : (c.toNat : Int) ≤ 255 := by have := c.toNat_lt; omega

theorem take_drop_cons (l : List UInt8) (n i : Nat) (h : i < n) (hn : n ≤ l.length) :
    (l.take n).drop i = l[i]'(by omega) :: (l.take n).drop (i + 1) := by
  have hl : i < (l.take n).length := by rw [List.length_take]; omega
  rw [List.drop_eq_getElem_cons hl, List.getElem_take]

theorem size_eq (x : ByteArray) : x.data.toList.length = x.size := by simp

theorem l1_run (x : ByteArray) (n : Nat) (hn : n ≤ x.size) (hn4 : n ≤ 4096) : ∀ (d i : Nat) (a b : Int) (k : Nat), i + d = n → 0 ≤ a → a ≤ 65535 + 255 * (i : Int) → 0 ≤ b → b ≤ 65535 + 1200000 * (i : Int) →
    adler_More.l1 (k + d + 1) x a b n n i = adler_More.l0 k (x.extract n x.size) ((G ((x.data.toList.take n).drop i) a b).1 % 65521) ((G ((x.data.toList.take n).drop i) a b).2 % 65521) := by
  intro d
  induction d with
  | zero =>
    intro i a b k hi h0 h1 h2 h3
    have e : (x.data.toList.take n).drop i = [] := List.drop_eq_nil_of_le (by rw [List.length_take]; omega)
    simp only [adler_More.l1]
    rw [if_neg (by omega), if_pos (by omega), if_pos (by omega), e, Int.tmod_eq_emod_of_nonneg h0, Int.tmod_eq_emod_of_nonneg h2]
    rfl
  | succ d ih =>
    intro i a b k hi h0 h1 h2 h3
    have hlt : i < x.size := by omega
    have hb := byte_le (x.data.toList[i]'(by simpa using hlt))
    have hb0 : (0 : Int) ≤ ((x.data.toList[i]'(by simpa using hlt)).toNat : Int) := by omega
    rw [show k + (d + 1) + 1 = (k + d + 1) + 1 from by omega]
    rw [adler_More.l1]
    rw [if_pos (by omega), if_pos (by omega), if_pos (by omega), bt_eq x i hlt, take_drop_cons _ n i (by omega) (by rw [size_eq]; exact hn)]
    generalize hc : (x.data.toList[i]'(by simpa using hlt)).toNat = c at *
    have hi' := ih (i + 1) (a + c) (b + (a + c)) k (by omega) (by omega) (by omega) (by omega) (by omega)
    have w1 : wrap64 (c : Int) = c := by unfold wrap64; omega
    have w2 : wrap64 (a + (c : Int)) = a + c := by clear w1; unfold wrap64; omega
    have w3 : wrap64 (b + (a + (c : Int))) = b + (a + c) := by clear w1 w2; unfold wrap64; omega
    have w4 : wrap64 ((i : Int) + 1) = ((i + 1 : Nat) : Int) := by clear w1 w2 w3; unfold wrap64; omega
    rw [w1, w2, w3, w4, hi']
    simp only [G, hc]

theorem extract_list (x : ByteArray) (n : Nat) : (x.extract n x.size).data.toList = x.data.toList.drop n := by
  rw [ByteArray.data_extract, Array.toList_extract, List.extract_eq_take_drop, List.take_of_length_le (by rw [List.length_drop]; simp)]

theorem extract_size (x : ByteArray) (n : Nat) : (x.extract n x.size).size = x.size - n := by
  rw [← size_eq, extract_list, List.length_drop, size_eq]

theorem l0_run : ∀ (N : Nat) (x : ByteArray) (a b : Int), x.size ≤ N → 0 ≤ a → a ≤ 65535 → 0 ≤ b → b ≤ 65535 →
    ∃ k, adler_More.l0 k x a b = some ((F x.data.toList a b).2 * 65536 + (F x.data.toList a b).1) := by
  intro N
  induction N with
  | zero =>
    intro x a b hN h0 h1 h2 h3
    have e : x.data.toList = [] := List.eq_nil_of_length_eq_zero (by rw [size_eq]; omega)
    refine ⟨1, ?_⟩
    simp only [adler_More.l0]
    rw [if_neg (by omega), or16 b a h2 h3 h0 h1, e]
    rfl
  | succ N ih =>
    intro x a b hN h0 h1 h2 h3
    by_cases hp : x.size = 0
    · exact ih x a b (by omega) h0 h1 h2 h3
    · have hm : ∃ n : Nat, mn (x.size : Int) 4096 = n ∧ n ≤ x.size ∧ n ≤ 4096 ∧ 0 < n := by
        unfold mn
        by_cases h : (4096 : Int) < x.size
        · exact ⟨4096, by rw [if_pos h]; rfl, by omega, by omega, by omega⟩
        · exact ⟨x.size, by rw [if_neg h], by omega, by omega, by omega⟩
      obtain ⟨n, e, g1, g2, g3⟩ := hm
      have hne : x.data.toList.take n ≠ [] := by
        intro h
        have : (x.data.toList.take n).length = 0 := by rw [h]; rfl
        rw [List.length_take, size_eq] at this
        omega
      have hF := F_ne (x.data.toList.take n) a b hne
      have hbd := F_bound (x.data.toList.take n) a b h0 h1 h2 h3
      obtain ⟨k, hk⟩ := ih (x.extract n x.size) (F (x.data.toList.take n) a b).1 (F (x.data.toList.take n) a b).2 (by rw [extract_size]; omega) hbd.1 hbd.2.1 hbd.2.2.1 hbd.2.2.2
      refine ⟨k + n + 1 + 1, ?_⟩
      rw [adler_More.l0, if_pos (by omega), e]
      have := l1_run x n g1 g2 n 0 a b k (by omega) h0 (by omega) h2 (by omega)
      rw [Int.natCast_zero] at this
      rw [this, List.drop_zero]
      rw [hF] at hk
      rw [hk, extract_list, ← hF]
      have happ : F x.data.toList a b = F (x.data.toList.drop n) (F (x.data.toList.take n) a b).1 (F (x.data.toList.take n) a b).2 := by
        rw [← F_append, List.take_append_drop]
      rw [happ]

/-- The sum behind more bytes. -/
def A (sum : Int) (l : List UInt8) : Int := (F l (sum % 65536) (sum / 65536 % 65536)).2 * 65536 + (F l (sum % 65536) (sum / 65536 % 65536)).1

theorem more_run (sum : Int) (x : ByteArray) : ∃ k, adler_More.f k sum x = some (A sum x.data.toList) := by
  obtain ⟨k, hk⟩ := l0_run x.size x (sum % 65536) (sum / 65536 % 65536) (Nat.le_refl _) (by omega) (by omega) (by omega) (by omega)
  refine ⟨k, ?_⟩
  unfold adler_More.f adler_parts.f
  rw [Option.bind_some, and16, and16, hk]
  rfl

theorem A_bound (sum : Int) (l : List UInt8) : 0 ≤ A sum l ∧ A sum l < 4294967296 := by
  have h := F_bound l (sum % 65536) (sum / 65536 % 65536) (by omega) (by omega) (by omega) (by omega)
  unfold A
  omega

theorem A_parts (sum : Int) (l : List UInt8) : A sum l % 65536 = (F l (sum % 65536) (sum / 65536 % 65536)).1 ∧ A sum l / 65536 % 65536 = (F l (sum % 65536) (sum / 65536 % 65536)).2 := by
  have h := F_bound l (sum % 65536) (sum / 65536 % 65536) (by omega) (by omega) (by omega) (by omega)
  unfold A
  omega

theorem A_append (sum : Int) (l m : List UInt8) : A (A sum l) m = A sum (l ++ m) := by
  have h := A_parts sum l
  show (F m (A sum l % 65536) (A sum l / 65536 % 65536)).2 * 65536 + (F m (A sum l % 65536) (A sum l / 65536 % 65536)).1 = _
  rw [h.1, h.2, ← F_append]
  rfl

/-- The sum of all parts, from a sum on. -/
def S (acc : Int) (ls : List ByteArray) : Int := ls.foldl (fun acc s => A acc s.data.toList) acc

theorem sum_run (l : List ByteArray) (hl : l.length < 9223372036854775807) : ∀ (d i : Nat) (acc : Int), i + d = l.length →
    ∃ k, adler_Sum.l0 k acc l l.length i = some (S acc (l.drop i)) := by
  intro d
  induction d with
  | zero =>
    intro i acc h
    refine ⟨1, ?_⟩
    simp only [adler_Sum.l0]
    rw [if_neg (by omega), List.drop_eq_nil_of_le (by omega)]
    rfl
  | succ d ih =>
    intro i acc h
    have hi : i < l.length := by omega
    obtain ⟨k1, h1⟩ := more_run acc (l[i]'hi)
    obtain ⟨k2, h2⟩ := ih (i + 1) (A acc (l[i]'hi).data.toList) (by omega)
    refine ⟨max k1 k2 + 1, ?_⟩
    have w4 : wrap64 ((i : Int) + 1) = ((i + 1 : Nat) : Int) := by unfold wrap64; omega
    have er : rdOf ByteArray.empty l (i : Int) = l[i]'hi := by
      unfold rdOf
      rw [Int.toNat_natCast, List.getD_eq_getElem?_getD, List.getElem?_eq_getElem hi]
      rfl
    rw [adler_Sum.l0, if_pos (by omega), if_pos (by omega), if_pos (by omega), er, w4]
    rw [at_rounds (fun k => adler_More.mono acc (l[i]'hi) k) (Nat.le_max_left k1 k2) h1, Option.bind_some]
    rw [at_rounds (fun k => adler_Sum.mono_l k _ _ _ _) (Nat.le_max_right k1 k2) h2, List.drop_eq_getElem_cons hi]
    rfl

theorem Sum_run (l : List ByteArray) (hl : l.length < 9223372036854775807) : ∃ k, adler_Sum.f k l = some (S 1 l) := by
  obtain ⟨k, hk⟩ := sum_run l hl l.length 0 1 (by omega)
  exact ⟨k, by unfold adler_Sum.f; rw [show (0 : Int) = ((0 : Nat) : Int) from rfl, hk, List.drop_zero]⟩

theorem works_run : ∃ k, miradorlaw03_works.f k = some true := by
  obtain ⟨k1, h1⟩ := Sum_run [] (by simp)
  obtain ⟨k2, h2⟩ := Sum_run [(⟨#[87, 105, 107, 105]⟩ : ByteArray), (⟨#[112, 101, 100, 105, 97]⟩ : ByteArray)] (by simp)
  refine ⟨max k1 k2, ?_⟩
  unfold miradorlaw03_works.f
  rw [at_rounds (fun k => adler_Sum.mono _ k) (Nat.le_max_left k1 k2) h1, Option.bind_some, if_pos (by decide)]
  rw [at_rounds (fun k => adler_Sum.mono _ k) (Nat.le_max_right k1 k2) h2, Option.bind_some]
  decide

end Go.Proofs.Ytbiamfokicmkpaa.AdMath
