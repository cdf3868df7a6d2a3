/- What tokens make, as a plain function on lists: used for lz's Expand and for the document's. -/
import Derived.Test.YtoibcollkkjelaaPLzGluex1
namespace Go.Proofs.Ytoibcollkkjelaa.Spec
open Go.RowKit Go.Proofs.Ytoibcollkkjelaa.PLzGlue Go.Proofs.YtoibcollkkjelaaW.PrintWords Go.Proofs.YtoibcollkkjelaaW.PrintLast Go.Proofs.YtoibcollkkjelaaW.PrintMore

/-- May a token be? -/
def validB (t : S30) : Bool :=
  if t.f1 = 0 then decide (t.f2 = 0) && (decide (0 ≤ t.f0) && decide (t.f0 ≤ 255))
  else decide (t.f0 = 0) && ((decide (3 ≤ t.f1) && decide (t.f1 ≤ 258)) && (decide (1 ≤ t.f2) && decide (t.f2 ≤ 32768)))

theorem valid_eq (t : S30) : lz_Valid.f t.f0 t.f1 t.f2 = some (validB t) := by
  unfold lz_Valid.f lz_within.f validB
  by_cases h1 : t.f1 = 0
  · by_cases h2 : t.f2 = 0
    · by_cases h3 : 0 ≤ t.f0 <;> simp [h1, h2, h3]
    · simp [h1, h2]
  · by_cases h2 : t.f0 = 0
    · by_cases h3 : 3 ≤ t.f1
      · by_cases h4 : t.f1 ≤ 258
        · by_cases h5 : 1 ≤ t.f2 <;> simp [h1, h2, h3, h4, h5]
        · simp [h1, h2, h3, h4]
      · simp [h1, h2, h3]
    · simp [h1, h2]

theorem valid_plain (t : S30) (h : validB t = true) (h1 : t.f1 = 0) : t.f2 = 0 ∧ 0 ≤ t.f0 ∧ t.f0 ≤ 255 := by
  unfold validB at h
  rw [if_pos h1] at h
  simpa using h
theorem valid_piece (t : S30) (h : validB t = true) (h1 : t.f1 ≠ 0) : t.f0 = 0 ∧ 3 ≤ t.f1 ∧ t.f1 ≤ 258 ∧ 1 ≤ t.f2 ∧ t.f2 ≤ 32768 := by
  unfold validB at h
  rw [if_neg h1] at h
  simp at h
  exact ⟨h.1, h.2.1.1, h.2.1.2, h.2.2.1, h.2.2.2⟩

/-- A piece of what came ahead, byte by byte. -/
def copyN (d : Int) : Nat → List Int → List Int
  | 0, o => o
  | n + 1, o => copyN d n (o ++ [rd o ((o.length : Int) - d)])

theorem copyN_length (d : Int) (n : Nat) (o : List Int) : (copyN d n o).length = o.length + n := by
  induction n generalizing o with
  | zero => rfl
  | succ n ih => rw [copyN, ih]; simp; omega

/-- What tokens make behind what is there, or what is wrong. -/
def runL (fr : Nat) : List S30 → List Int → ByteArray × Int
  | [], o => (strOfNums (o.drop fr), 0)
  | t :: l, o =>
    if validB t = true then
      (if t.f1 = 0 then runL fr l (o ++ [t.f0 % 256])
       else if (o.length : Int) < t.f2 then ((⟨#[]⟩ : ByteArray), 60)
       else runL fr l (copyN t.f2 t.f1.toNat o))
    else ((⟨#[]⟩ : ByteArray), 1)

/-- A text's end. -/
def tail (s : ByteArray) : ByteArray := s.extract (s.size - 32768) s.size

theorem tail_size (s : ByteArray) : (tail s).size = min s.size 32768 := by
  unfold tail
  rw [ByteArray.size_extract]
  omega

theorem tail_short (s : ByteArray) (h : s.size ≤ 32768) : tail s = s := by
  have e : s.size - 32768 = 0 := by omega
  unfold tail
  rw [e]
  exact ByteArray.extract_zero_size

def ex (w : ByteArray) (l : List S30) : ByteArray × Int := runL (tail w).size l (bytesOf (tail w))

theorem tail_eq (s : ByteArray) (hs : s.size ≤ 140737488355328) : lz_Tail.f s = some (tail s) := by
  unfold lz_Tail.f tail
  have e : mx (wrap64 ((s.size : Int) - 32768)) 0 = ((s.size - 32768 : Nat) : Int) := by
    have w1 : wrap64 ((s.size : Int) - 32768) = (s.size : Int) - 32768 := by unfold wrap64; omega
    rw [w1]
    unfold mx
    split <;> omega
  rw [e, if_pos (by omega), if_pos (by omega), Int.toNat_natCast]

end Go.Proofs.Ytoibcollkkjelaa.Spec
