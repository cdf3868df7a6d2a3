/- CRC-32 as a plain function on lists of bytes, and its laws: parts, harm, exclusive-or. -/
import Derived.Laws.BitsLemmas
namespace Go.Proofs.Ytdphbfohjgmkaaa.Math

/-- One step of what comes of a byte. -/
def stepB (c : Nat) : Nat := if c % 2 = 1 then (c / 2) ^^^ 3988292384 else c / 2
def steps : Nat → Nat → Nat
  | 0, c => c
  | n + 1, c => steps n (stepB c)
/-- What comes of a byte. -/
def byteN (c : Nat) : Nat := steps 8 c

theorem steps_succ (n c : Nat) : steps (n + 1) c = stepB (steps n c) := by
  induction n generalizing c with
  | zero => rfl
  | succ n ih => rw [steps, ih, ← steps]

theorem stepB_lt (c : Nat) (h : c < 4294967296) : stepB c < 4294967296 := by
  unfold stepB
  split
  · exact Nat.xor_lt_two_pow (n := 32) (by omega) (by omega)
  · omega
theorem steps_lt (n c : Nat) (h : c < 4294967296) : steps n c < 4294967296 := by
  induction n generalizing c with
  | zero => exact h
  | succ n ih => exact ih _ (stepB_lt c h)
theorem byteN_lt (c : Nat) (h : c < 4294967296) : byteN c < 4294967296 := steps_lt 8 c h

theorem xor_div (a b k : Nat) : (a ^^^ b) / 2 ^ k = (a / 2 ^ k) ^^^ (b / 2 ^ k) := by
  rw [← Nat.shiftRight_eq_div_pow, ← Nat.shiftRight_eq_div_pow, ← Nat.shiftRight_eq_div_pow, Nat.shiftRight_xor_distrib]
theorem xor_mod (a b k : Nat) : (a ^^^ b) % 2 ^ k = (a % 2 ^ k) ^^^ (b % 2 ^ k) := Nat.xor_mod_two_pow ..

theorem stepB_xor (a b : Nat) : stepB (a ^^^ b) = stepB a ^^^ stepB b := by
  have hd := xor_div a b 1
  have hm := xor_mod a b 1
  simp only [Nat.pow_one] at hd hm
  unfold stepB
  have ha : a % 2 = 0 ∨ a % 2 = 1 := by omega
  have hb : b % 2 = 0 ∨ b % 2 = 1 := by omega
  rw [hd, hm]
  generalize a / 2 = x
  generalize b / 2 = y
  rcases ha with ha | ha <;> rcases hb with hb | hb <;> rw [ha, hb]
  · rfl
  · show (x ^^^ y) ^^^ 3988292384 = x ^^^ (y ^^^ 3988292384)
    rw [Nat.xor_assoc]
  · show (x ^^^ y) ^^^ 3988292384 = (x ^^^ 3988292384) ^^^ y
    rw [Nat.xor_assoc, Nat.xor_assoc, Nat.xor_comm y]
  · show x ^^^ y = (x ^^^ 3988292384) ^^^ (y ^^^ 3988292384)
    rw [Nat.xor_assoc, ← Nat.xor_assoc 3988292384, Nat.xor_comm 3988292384, Nat.xor_assoc y, Nat.xor_self, Nat.xor_zero]

theorem steps_xor (n a b : Nat) : steps n (a ^^^ b) = steps n a ^^^ steps n b := by
  induction n generalizing a b with
  | zero => rfl
  | succ n ih => rw [steps, stepB_xor, ih, steps, steps]
theorem byteN_xor (a b : Nat) : byteN (a ^^^ b) = byteN a ^^^ byteN b := steps_xor 8 a b

/-- Behind one more byte of nought. -/
def Z (c : Nat) : Nat := byteN (c % 256) ^^^ (c / 256)
/-- Behind one more byte. -/
def next (c x : Nat) : Nat := byteN ((c ^^^ x) % 256) ^^^ (c / 256)

theorem Z_xor (a b : Nat) : Z (a ^^^ b) = Z a ^^^ Z b := by
  have hd := xor_div a b 8
  have hm := xor_mod a b 8
  simp only [show (2 : Nat) ^ 8 = 256 from rfl] at hd hm
  unfold Z
  rw [hd, hm, byteN_xor]
  simp only [Nat.xor_assoc]
  congr 1
  rw [← Nat.xor_assoc, Nat.xor_comm (byteN (b % 256)), Nat.xor_assoc]

theorem next_Z (c x : Nat) (h : x < 256) : next c x = Z (c ^^^ x) := by
  have hd := xor_div c x 8
  simp only [show (2 : Nat) ^ 8 = 256 from rfl] at hd
  unfold next Z
  rw [hd, Nat.div_eq_of_lt h, Nat.xor_zero]

theorem Z_lt (c : Nat) (h : c < 4294967296) : Z c < 4294967296 := by
  unfold Z
  exact Nat.xor_lt_two_pow (n := 32) (byteN_lt _ (by omega)) (by omega)
theorem next_lt (c x : Nat) (h : c < 4294967296) : next c x < 4294967296 := by
  unfold next
  exact Nat.xor_lt_two_pow (n := 32) (byteN_lt _ (by omega)) (by omega)

/-- The sum behind bytes. -/
def run (c : Nat) (l : List UInt8) : Nat := l.foldl (fun c x => next c x.toNat) c
theorem run_cons (c : Nat) (x : UInt8) (l : List UInt8) : run c (x :: l) = run (next c x.toNat) l := rfl
theorem run_append (c : Nat) (l m : List UInt8) : run c (l ++ m) = run (run c l) m := List.foldl_append ..
theorem run_lt (c : Nat) (l : List UInt8) (h : c < 4294967296) : run c l < 4294967296 := by
  induction l generalizing c with
  | nil => exact h
  | cons x l ih => exact ih _ (next_lt c _ h)

/-- The table. -/
def table : List Nat := (List.range 256).map byteN

theorem top_nodup : (table.map (· / 16777216)).Nodup := by decide +kernel

theorem byteN_inj (a b : Nat) (ha : a < 256) (hb : b < 256) (h : byteN a / 16777216 = byteN b / 16777216) : a = b := by
  have hn := top_nodup
  unfold table at hn
  rw [List.map_map] at hn
  have := List.pairwise_iff_getElem.1 hn
  rcases Nat.lt_trichotomy a b with hlt | he | hgt
  · have h2 := this a b (by simpa using ha) (by simpa using hb) hlt
    simp at h2
    exact absurd h h2
  · exact he
  · have h2 := this b a (by simpa using hb) (by simpa using ha) hgt
    simp at h2
    exact absurd h.symm h2

theorem Z_inj (a b : Nat) (ha : a < 4294967296) (hb : b < 4294967296) (h : Z a = Z b) : a = b := by
  have top : ∀ c, c < 4294967296 → Z c / 16777216 = byteN (c % 256) / 16777216 := by
    intro c hc
    have hd := xor_div (byteN (c % 256)) (c / 256) 24
    simp only [show (2 : Nat) ^ 24 = 16777216 from rfl] at hd
    unfold Z
    rw [hd, show c / 256 / 16777216 = 0 from by omega, Nat.xor_zero]
  have e1 : a % 256 = b % 256 := byteN_inj _ _ (by omega) (by omega) (by rw [← top a ha, ← top b hb, h])
  have e2 : a / 256 = b / 256 := by
    unfold Z at h
    rw [e1] at h
    have h2 := congrArg (fun x => byteN (b % 256) ^^^ x) h
    simpa [← Nat.xor_assoc] using h2
  omega

theorem xor_cancel (a b c : Nat) (h : a ^^^ c = b ^^^ c) : a = b := by
  have h2 := congrArg (fun x => x ^^^ c) h
  simpa [Nat.xor_assoc] using h2
theorem xor_cancel_left (a b c : Nat) (h : c ^^^ a = c ^^^ b) : a = b := by
  have h2 := congrArg (fun x => c ^^^ x) h
  simpa [← Nat.xor_assoc] using h2

theorem next_inj (a b x : Nat) (hx : x < 256) (ha : a < 4294967296) (hb : b < 4294967296) (h : next a x = next b x) : a = b := by
  rw [next_Z a x hx, next_Z b x hx] at h
  exact xor_cancel _ _ x (Z_inj _ _ (Nat.xor_lt_two_pow (n := 32) ha (by omega)) (Nat.xor_lt_two_pow (n := 32) hb (by omega)) h)

theorem run_inj (l : List UInt8) (a b : Nat) (ha : a < 4294967296) (hb : b < 4294967296) (h : run a l = run b l) : a = b := by
  induction l generalizing a b with
  | nil => exact h
  | cons x l ih => exact next_inj a b x.toNat x.toNat_lt ha hb (ih _ _ (next_lt a _ ha) (next_lt b _ hb) h)

/-- Bytes as a number, the first one lowest. -/
def word : List UInt8 → Nat
  | [] => 0
  | x :: l => x.toNat + 256 * word l
theorem word_lt (l : List UInt8) : word l < 256 ^ l.length := by
  induction l with
  | nil => simp [word]
  | cons x l ih =>
    have := x.toNat_lt
    rw [word, List.length_cons, Nat.pow_succ]
    omega
theorem word_inj (l m : List UInt8) (hl : l.length = m.length) (h : word l = word m) : l = m := by
  induction l generalizing m with
  | nil =>
    cases m with
    | nil => rfl
    | cons y m => simp at hl
  | cons x l ih =>
    cases m with
    | nil => simp at hl
    | cons y m =>
      rw [word, word] at h
      have h1 := x.toNat_lt
      have h2 := y.toNat_lt
      have e1 : x.toNat = y.toNat := by omega
      have e2 : word l = word m := by omega
      rw [ih m (by simpa using hl) e2, UInt8.toNat_inj.mp e1]
def Zn : Nat → Nat → Nat
  | 0, c => c
  | n + 1, c => Zn n (Z c)
theorem Zn_lt (n c : Nat) (h : c < 4294967296) : Zn n c < 4294967296 := by
  induction n generalizing c with
  | zero => exact h
  | succ n ih => exact ih _ (Z_lt c h)
theorem Zn_inj (n a b : Nat) (ha : a < 4294967296) (hb : b < 4294967296) (h : Zn n a = Zn n b) : a = b := by
  induction n generalizing a b with
  | zero => exact h
  | succ n ih => exact Z_inj a b ha hb (ih _ _ (Z_lt a ha) (Z_lt b hb) h)

theorem xor_add (x y : Nat) (h : x < 256) : x + 256 * y = x ^^^ (256 * y) := by
  apply Nat.eq_of_testBit_eq
  intro i
  have e : x + 256 * y = 2 ^ 8 * y + x := by omega
  rw [e, Nat.testBit_two_pow_mul_add y (show x < 2 ^ 8 from h), Nat.testBit_xor]
  have e2 : 256 * y = 2 ^ 8 * y := by omega
  rw [e2, Nat.testBit_two_pow_mul]
  split
  · rename_i hi
    simp [show ¬ (8 ≤ i) from by omega]
  · rename_i hi
    have : x.testBit i = false := Nat.testBit_lt_two_pow (Nat.lt_of_lt_of_le h (by rw [show (256 : Nat) = 2 ^ 8 from rfl]; exact Nat.pow_le_pow_right (by decide) (by omega)))
    simp [this, show 8 ≤ i from by omega]

theorem Z_shift (c y : Nat) : Z (c ^^^ (256 * y)) = Z c ^^^ y := by
  rw [Z_xor]
  congr 1
  unfold Z
  have e1 : 256 * y % 256 = 0 := by omega
  have e2 : 256 * y / 256 = y := by omega
  rw [e1, e2]
  have e3 : byteN 0 = 0 := by decide
  rw [e3, Nat.zero_xor]

theorem run_word (c : Nat) (l : List UInt8) : run c l = Zn l.length (c ^^^ word l) := by
  induction l generalizing c with
  | nil => simp [run, Zn, word]
  | cons x l ih =>
    have hx := x.toNat_lt
    rw [run_cons, ih, next_Z c _ hx, List.length_cons, Zn, word, xor_add _ _ hx, ← Nat.xor_assoc, Z_shift]

/-- Four bytes side by side that are other ones make another sum. -/
theorem harm (c : Nat) (hc : c < 4294967296) (l m r p : List UInt8) (hl : m.length = r.length) (h4 : m.length ≤ 4) (h : run c (l ++ m ++ p) = run c (l ++ r ++ p)) : m = r := by
  rw [run_append, run_append, run_append, run_append] at h
  have hl1 := run_lt c l hc
  have h2 := run_inj p _ _ (run_lt _ m hl1) (run_lt _ r hl1) h
  rw [run_word (run c l) m, run_word (run c l) r, hl] at h2
  have hw : ∀ q : List UInt8, q.length ≤ 4 → word q < 4294967296 := by
    intro q hq
    have h1 := word_lt q
    have h2 : (256 : Nat) ^ q.length ≤ 256 ^ 4 := Nat.pow_le_pow_right (by decide) hq
    have e : (256 : Nat) ^ 4 = 4294967296 := by decide
    omega
  have h3 := Zn_inj _ _ _ (Nat.xor_lt_two_pow (n := 32) hl1 (hw m h4)) (Nat.xor_lt_two_pow (n := 32) hl1 (hw r (by omega))) h2
  exact word_inj m r hl (xor_cancel_left _ _ _ h3)

/-- Byte by byte exclusive-or of three texts. -/
def xor3 : List UInt8 → List UInt8 → List UInt8 → List UInt8
  | x :: l, y :: m, z :: r => (x ^^^ y ^^^ z) :: xor3 l m r
  | _, _, _ => []
theorem next_xor (a b c : Nat) (x y z : UInt8) : next (a ^^^ b ^^^ c) (x ^^^ y ^^^ z).toNat = next a x.toNat ^^^ next b y.toNat ^^^ next c z.toNat := by
  rw [next_Z _ _ (UInt8.toNat_lt _), next_Z _ _ x.toNat_lt, next_Z _ _ y.toNat_lt, next_Z _ _ z.toNat_lt, ← Z_xor, ← Z_xor]
  congr 1
  rw [UInt8.toNat_xor, UInt8.toNat_xor]
  generalize x.toNat = x
  generalize y.toNat = y
  generalize z.toNat = z
  apply Nat.eq_of_testBit_eq
  intro i
  simp only [Nat.testBit_xor]
  cases a.testBit i <;> cases b.testBit i <;> cases c.testBit i <;> cases x.testBit i <;> cases y.testBit i <;> cases z.testBit i <;> rfl
theorem run_xor (l m r : List UInt8) (h1 : l.length = m.length) (h2 : l.length = r.length) (a b c : Nat) : run (a ^^^ b ^^^ c) (xor3 l m r) = run a l ^^^ run b m ^^^ run c r := by
  induction l generalizing m r a b c with
  | nil =>
    cases m with
    | nil =>
      cases r with
      | nil => rfl
      | cons z r => simp at h2
    | cons y m => simp at h1
  | cons x l ih =>
    cases m with
    | nil => simp at h1
    | cons y m =>
      cases r with
      | nil => simp at h2
      | cons z r =>
        rw [xor3, run_cons, run_cons, run_cons, run_cons, next_xor, ih m r (by simpa using h1) (by simpa using h2)]

end Go.Proofs.Ytdphbfohjgmkaaa.Math
