/- AdlerSums holds: for every text of any length up to 3000 bytes and every number, adler's More, Sum and Join answer what the document's reference answers. It is stated for all arguments, without a condition. -/
import Derived.Test.YtbiamfokicmkpaaMath
namespace Go.Proofs.Ytbiamfokicmkpaa.Pure
open Go.RowKit Go.Proofs.Ytbiamfokicmkpaa.PAdlerSums Go.Proofs.YtbiamfokicmkpaaW.PrintWords Go.Proofs.YtbiamfokicmkpaaW.PrintLast Go.Proofs.Ytbiamfokicmkpaa.AdMath

theorem ref_run (x : ByteArray) (hx : x.size ≤ 140737488351232) : ∀ (d i : Nat) (a b : Int), i + d = x.size → 0 ≤ a → a ≤ 65535 → 0 ≤ b → b ≤ 65535 →
    ∃ k, miradorref03_More.l0 k x a b i = some ((F (x.data.toList.drop i) a b).2 * 65536 + (F (x.data.toList.drop i) a b).1) := by
  intro d
  induction d with
  | zero =>
    intro i a b hi h0 h1 h2 h3
    have e : x.data.toList.drop i = [] := List.drop_eq_nil_of_le (by rw [size_eq]; omega)
    refine ⟨1, ?_⟩
    simp only [miradorref03_More.l0]
    rw [if_neg (by omega), e]
    have w : wrap64 ((wrap64 (b * 65536)) + a) = b * 65536 + a := by unfold wrap64; omega
    rw [w]
    rfl
  | succ d ih =>
    intro i a b hi h0 h1 h2 h3
    have hlt : i < x.size := by omega
    have hll : i < x.data.toList.length := by rw [size_eq]; exact hlt
    have hb := byte_le (x.data.toList[i]'hll)
    obtain ⟨k, hk⟩ := ih (i + 1) ((a + ((x.data.toList[i]'hll).toNat : Int)) % 65521) ((b + (a + ((x.data.toList[i]'hll).toNat : Int))) % 65521) (by omega) (by omega) (by omega) (by omega) (by omega)
    refine ⟨k + 1, ?_⟩
    rw [miradorref03_More.l0, if_pos (by omega), if_pos (by omega), bt_eq x i hlt, List.drop_eq_getElem_cons hll, F_cons]
    generalize (x.data.toList[i]'hll).toNat = c at *
    have w1 : wrap64 (c : Int) = c := by unfold wrap64; omega
    have w2 : wrap64 (a + (c : Int)) = a + c := by clear w1; unfold wrap64; omega
    have w3 : wrap64 (b + (a + (c : Int)) % 65521) = b + (a + (c : Int)) % 65521 := by clear w1 w2; unfold wrap64; omega
    have w4 : wrap64 ((i : Int) + 1) = ((i + 1 : Nat) : Int) := by clear w1 w2 w3; unfold wrap64; omega
    have w5 : (b + (a + (c : Int)) % 65521) % 65521 = (b + (a + (c : Int))) % 65521 := by omega
    rw [w1, w2, Int.tmod_eq_emod_of_nonneg (by omega), w3, Int.tmod_eq_emod_of_nonneg (by omega), w4, w5]
    exact hk

theorem ref_more (sum : Int) (x : ByteArray) (hx : x.size ≤ 140737488351232) : ∃ k, miradorref03_More.f k sum x = some (A sum x.data.toList) := by
  obtain ⟨k, hk⟩ := ref_run x hx x.size 0 (sum % 65536) (sum / 65536 % 65536) (by omega) (by omega) (by omega) (by omega) (by omega)
  refine ⟨k, ?_⟩
  unfold miradorref03_More.f miradorref03_Low.f miradorref03_High.f
  rw [Option.bind_some, Option.bind_some, and16, and16, show (0 : Int) = ((0 : Nat) : Int) from rfl, hk, List.drop_zero]
  rfl

theorem mx_nonneg (n : Int) : 0 ≤ mx n 0 := by
  unfold mx
  split <;> omega

theorem join_eq (a b n : Int) : adler_Join.f a b n = miradorref03_Join.f a b n := by
  unfold adler_Join.f miradorref03_Join.f adler_parts.f miradorref03_Low.f miradorref03_High.f
  simp only [Option.bind_some, and16]
  have hn := mx_nonneg n
  generalize mx n 0 = m at *
  have hla : 0 ≤ a % 65536 ∧ a % 65536 ≤ 65535 := by omega
  have hlb : 0 ≤ b % 65536 ∧ b % 65536 ≤ 65535 := by omega
  have hha : 0 ≤ a / 65536 % 65536 ∧ a / 65536 % 65536 ≤ 65535 := by omega
  have hhb : 0 ≤ b / 65536 % 65536 ∧ b / 65536 % 65536 ≤ 65535 := by omega
  generalize a % 65536 = la at *
  generalize b % 65536 = lb at *
  generalize a / 65536 % 65536 = ha at *
  generalize b / 65536 % 65536 = hb at *
  have hm : 0 ≤ m % 65521 ∧ m % 65521 ≤ 65520 := by omega
  generalize m % 65521 = q at *
  have e1 : wrap64 (wrap64 (la + 65521) - 1) = la + 65520 := by unfold wrap64; omega
  have hp : 0 ≤ q * (la + 65520) ∧ q * (la + 65520) ≤ 65520 * 131055 := ⟨Int.mul_nonneg hm.1 (by omega), Int.mul_le_mul hm.2 (by omega) (by omega) (by omega)⟩
  rw [e1]
  generalize q * (la + 65520) = p at *
  clear e1
  have e2 : wrap64 (wrap64 (ha + hb) + wrap64 p) = ha + hb + p := by unfold wrap64; omega
  have e3 : wrap64 ((la + 65520) + lb) = la + 65520 + lb := by clear e2; unfold wrap64; omega
  have e4 : wrap64 (wrap64 (wrap64 (la + lb) + 65521) - 1) = la + 65520 + lb := by clear e2 e3; unfold wrap64; omega
  rw [e2, e3, e4, Int.tmod_eq_emod_of_nonneg (by omega), Int.tmod_eq_emod_of_nonneg (by omega)]
  clear e2 e3 e4
  have e5 : wrap64 (wrap64 ((ha + hb + p) % 65521 * 65536) + (la + 65520 + lb) % 65521) = (ha + hb + p) % 65521 * 65536 + (la + 65520 + lb) % 65521 := by unfold wrap64; omega
  rw [e5, or16 _ _ (by omega) (by omega) (by omega) (by omega)]

theorem join_some (a b n : Int) : ∃ r, adler_Join.f a b n = some r := by
  unfold adler_Join.f adler_parts.f
  exact ⟨_, rfl⟩

theorem AdlerSums : miradorlaw03_AdlerSums.Pure := by
  intro a0 a1 a2 a3 a4 _ h1 _ _ _
  obtain ⟨k1, g1⟩ := works_run
  obtain ⟨k2, g2⟩ := more_run a0 a1
  obtain ⟨k3, g3⟩ := ref_more a0 a1 h1
  obtain ⟨k4, g4⟩ := Sum_run [a1] (by simp)
  obtain ⟨k5, g5⟩ := ref_more 1 a1 h1
  obtain ⟨r, g6⟩ := join_some a2 a3 a4
  have g7 := g6
  rw [join_eq] at g7
  refine ⟨k1 + k2 + k3 + k4 + k5, ?_⟩
  unfold miradorlaw03_AdlerSums.f
  rw [at_rounds (fun k => miradorlaw03_works.mono k) (show k1 ≤ _ by omega) g1, Option.bind_some, if_pos rfl]
  by_cases hb : (a1.size : Int) > 3000
  · rw [if_pos hb]
  · rw [if_neg hb, at_rounds (fun k => adler_More.mono _ _ k) (show k2 ≤ _ by omega) g2, Option.bind_some]
    rw [at_rounds (fun k => miradorref03_More.mono _ _ k) (show k3 ≤ _ by omega) g3, Option.bind_some, if_pos rfl]
    rw [at_rounds (fun k => adler_Sum.mono _ k) (show k4 ≤ _ by omega) g4, Option.bind_some]
    rw [at_rounds (fun k => miradorref03_More.mono _ _ k) (show k5 ≤ _ by omega) g5, Option.bind_some, if_pos (show S 1 [a1] = A 1 a1.data.toList from rfl)]
    rw [g6, g7, Option.bind_some, Option.bind_some]
    simp

end Go.Proofs.Ytbiamfokicmkpaa.Pure
