/- Laws of what tokens make: in two steps, and at a window's end. -/
import Derived.Test.YtoibcollkkjelaaSpec
namespace Go.Proofs.Ytoibcollkkjelaa.GlueLaw
open Go.RowKit Go.Proofs.Ytoibcollkkjelaa.PLzGlue Go.Proofs.YtoibcollkkjelaaW.PrintWords Go.Proofs.Ytoibcollkkjelaa.Spec

/-- All that is there behind the tokens, or what is wrong. -/
def outL : List S30 → List Int → Except Int (List Int)
  | [], o => .ok o
  | t :: l, o =>
    if validB t = true then
      (if t.f1 = 0 then outL l (o ++ [t.f0 % 256])
       else if (o.length : Int) < t.f2 then .error 60
       else outL l (copyN t.f2 t.f1.toNat o))
    else .error 1

theorem outL_cons (t : S30) (l : List S30) (o : List Int) : outL (t :: l) o = if validB t = true then
      (if t.f1 = 0 then outL l (o ++ [t.f0 % 256])
       else if (o.length : Int) < t.f2 then .error 60
       else outL l (copyN t.f2 t.f1.toNat o))
    else .error 1 := rfl

def told (fr : Nat) : Except Int (List Int) → ByteArray × Int
  | .ok o => (strOfNums (o.drop fr), 0)
  | .error e => ((⟨#[]⟩ : ByteArray), e)

theorem run_out (fr : Nat) (l : List S30) (o : List Int) : runL fr l o = told fr (outL l o) := by
  induction l generalizing o with
  | nil => rfl
  | cons t l ih =>
    unfold runL outL
    split
    · split
      · exact ih _
      · split
        · rfl
        · exact ih _
    · rfl

theorem out_error (l : List S30) (o : List Int) (e : Int) (h : outL l o = .error e) : e ≠ 0 := by
  induction l generalizing o with
  | nil => cases h
  | cons t l ih =>
    unfold outL at h
    split at h
    · split at h
      · exact ih _ h
      · split at h
        · cases h; decide
        · exact ih _ h
    · cases h; decide

theorem out_append (a b : List S30) (o : List Int) : outL (a ++ b) o = match outL a o with | .ok o' => outL b o' | .error e => .error e := by
  induction a generalizing o with
  | nil => rfl
  | cons t a ih =>
    rw [List.cons_append, outL_cons, outL_cons]
    by_cases hv : validB t = true
    · rw [if_pos hv, if_pos hv]
      by_cases h1 : t.f1 = 0
      · rw [if_pos h1, if_pos h1]
        exact ih _
      · rw [if_neg h1, if_neg h1]
        by_cases h2 : (o.length : Int) < t.f2
        · rw [if_pos h2, if_pos h2]
        · rw [if_neg h2, if_neg h2]
          exact ih _
    · rw [if_neg hv, if_neg hv]

def InRange (o : List Int) : Prop := ∀ x ∈ o, 0 ≤ x ∧ x ≤ 255

theorem rd_range (o : List Int) (h : InRange o) (i : Int) : 0 ≤ rd o i ∧ rd o i ≤ 255 := by
  unfold rd
  rw [List.getD_eq_getElem?_getD]
  rcases Nat.lt_or_ge i.toNat o.length with hl | hl
  · rw [List.getElem?_eq_getElem hl]
    exact h _ (List.getElem_mem hl)
  · rw [List.getElem?_eq_none hl]
    exact ⟨by decide, by decide⟩

theorem range_snoc (o : List Int) (x : Int) (h : InRange o) (hx : 0 ≤ x ∧ x ≤ 255) : InRange (o ++ [x]) := by
  intro y hy
  rcases List.mem_append.1 hy with hy | hy
  · exact h y hy
  · rw [List.mem_singleton.1 hy]
    exact hx

theorem copy_more (d : Int) (n : Nat) (o : List Int) (h : InRange o) : ∃ p, copyN d n o = o ++ p ∧ p.length = n ∧ InRange (copyN d n o) := by
  induction n generalizing o with
  | zero => exact ⟨[], by simp [copyN], rfl, h⟩
  | succ n ih =>
    obtain ⟨p, hp, hl, hr⟩ := ih (o ++ [rd o ((o.length : Int) - d)]) (range_snoc _ _ h (rd_range o h _))
    refine ⟨rd o ((o.length : Int) - d) :: p, ?_, by simp [hl], ?_⟩
    · rw [copyN, hp, List.append_assoc]
      rfl
    · rw [copyN]
      exact hr

theorem out_more (l : List S30) (o o' : List Int) (h : outL l o = .ok o') (hr : InRange o) : ∃ p, o' = o ++ p ∧ p.length ≤ 258 * l.length ∧ InRange o' := by
  induction l generalizing o with
  | nil =>
    cases h
    exact ⟨[], by simp, by simp, hr⟩
  | cons t l ih =>
    unfold outL at h
    split at h
    · rename_i hv
      split at h
      · rename_i h1
        obtain ⟨p, e, hp, hr'⟩ := ih _ h (range_snoc _ _ hr (by omega))
        exact ⟨t.f0 % 256 :: p, by rw [e, List.append_assoc]; rfl, by simp; omega, hr'⟩
      · rename_i h1
        split at h
        · cases h
        · have hv2 := valid_piece t hv h1
          obtain ⟨q, eq, hq, hrq⟩ := copy_more t.f2 t.f1.toNat o hr
          obtain ⟨p, e, hp, hr'⟩ := ih _ h hrq
          refine ⟨q ++ p, by rw [e, eq, List.append_assoc], ?_, hr'⟩
          rw [List.length_append, hq, List.length_cons]
          omega
    · cases h

theorem bytes_range (s : ByteArray) : InRange (bytesOf s) := by
  intro x hx
  unfold bytesOf at hx
  obtain ⟨c, _, rfl⟩ := List.mem_map.1 hx
  have := c.toNat_lt
  omega

theorem bytes_str (o : List Int) (h : InRange o) : bytesOf (strOfNums o) = o := by
  unfold strOfNums bytesOf
  rw [List.map_map]
  have e : ∀ x ∈ o, ((fun b : UInt8 => (b.toNat : Int)) ∘ fun n : Int => UInt8.ofNat n.toNat) x = x := by
    intro x hx
    have := h x hx
    simp
    omega
  rw [List.map_congr_left e]
  simp

theorem bytes_append (a b : ByteArray) : bytesOf (a ++ b) = bytesOf a ++ bytesOf b := by
  unfold bytesOf
  rw [ByteArray.data_append, Array.toList_append, List.map_append]

theorem str_append (a b : List Int) : strOfNums (a ++ b) = strOfNums a ++ strOfNums b := by
  apply ByteArray.ext
  rw [ByteArray.data_append]
  unfold strOfNums
  rw [List.map_append]
  apply Array.toList_inj.mp
  simp

theorem ex_short (w : ByteArray) (hw : w.size ≤ 32768) (l : List S30) : ex w l = told w.size (outL l (bytesOf w)) := by
  unfold ex
  rw [tail_short w hw, run_out]

/-- What is wrong makes nothing. -/
theorem ex_wrong (w : ByteArray) (l : List S30) (h : (ex w l).2 ≠ 0) : (ex w l).1 = ⟨#[]⟩ := by
  unfold ex at h ⊢
  rw [run_out] at h ⊢
  cases e : outL l (bytesOf (tail w)) with
  | ok o => rw [e] at h; exact absurd rfl h
  | error e' => rfl

/-- How long it may be. -/
theorem ex_size (w : ByteArray) (l : List S30) : (ex w l).1.size ≤ 258 * l.length := by
  unfold ex
  rw [run_out]
  cases e : outL l (bytesOf (tail w)) with
  | ok o =>
    obtain ⟨p, ep, hp, _⟩ := out_more l _ _ e (bytes_range _)
    show (strOfNums (o.drop (tail w).size)).size ≤ _
    rw [strOfNums_size, ep, ← bytesOf_length (tail w), List.drop_left]
    exact hp
  | error e' => exact Nat.zero_le _

/-- In two steps. -/
theorem ex_glue (w : ByteArray) (a b : List S30) (hw : w.size ≤ 1000) (ha : a.length ≤ 60) (h : (ex w a).2 = 0) :
    ex w (a ++ b) = if (ex (w ++ (ex w a).1) b).2 = 0 then ((ex w a).1 ++ (ex (w ++ (ex w a).1) b).1, 0) else ((⟨#[]⟩ : ByteArray), (ex (w ++ (ex w a).1) b).2) := by
  have hx := ex_size w a
  rw [ex_short w (by omega)] at h hx ⊢
  rw [ex_short w (by omega) a, out_append]
  cases e : outL a (bytesOf w) with
  | error e' =>
    rw [e] at h
    exact absurd h (out_error _ _ _ e)
  | ok o =>
    rw [e] at hx
    obtain ⟨p, ep, hp, hr⟩ := out_more a _ _ e (bytes_range _)
    have e1 : (told w.size (.ok o)).1 = strOfNums p := by
      show strOfNums (o.drop w.size) = _
      rw [ep, ← bytesOf_length w, List.drop_left]
    have hp2 : InRange p := fun x hx => hr x (by rw [ep]; exact List.mem_append_right _ hx)
    have hsz : (w ++ strOfNums p).size = o.length := by
      rw [ByteArray.size_append, strOfNums_size, ep, List.length_append, bytesOf_length]
    have hol : o.length = w.size + p.length := by rw [ep, List.length_append, bytesOf_length]
    rw [e1, ex_short _ (by rw [hsz]; omega), hsz, bytes_append, bytes_str p hp2, ← ep]
    show told w.size (outL b o) = _
    cases e2 : outL b o with
    | error e' =>
      have := out_error _ _ _ e2
      show ((⟨#[]⟩ : ByteArray), e') = if e' = 0 then _ else (⟨#[]⟩, e')
      rw [if_neg this]
    | ok o2 =>
      obtain ⟨q, eq, hq, hrq⟩ := out_more b _ _ e2 hr
      show (strOfNums (o2.drop w.size), (0 : Int)) = if (0 : Int) = 0 then (strOfNums p ++ strOfNums (o2.drop o.length), 0) else _
      rw [if_pos rfl, eq, List.drop_left, ep, List.append_assoc, ← bytesOf_length w, List.drop_left, str_append]

/-- The end of a text with something ahead, and the end of an end. -/
theorem tail_tail (w : ByteArray) : tail (tail w) = tail w := tail_short _ (by rw [tail_size]; omega)
theorem ex_tail (w : ByteArray) (l : List S30) : ex (tail w) l = ex w l := by
  unfold ex
  rw [tail_tail]
theorem tail_list (s : ByteArray) : (tail s).data.toList = s.data.toList.drop (s.size - 32768) := by
  unfold tail
  rw [ByteArray.data_extract, Array.toList_extract, List.extract_eq_take_drop, List.take_of_length_le (by rw [List.length_drop]; simp)]
theorem tail_ahead (a w : ByteArray) (h : 32768 ≤ w.size) : tail (a ++ w) = tail w := by
  apply ByteArray.ext
  apply Array.toList_inj.mp
  have ha : a.data.toList.length = a.size := by simp
  have e : (a ++ w).size - 32768 = a.data.toList.length + (w.size - 32768) := by rw [ByteArray.size_append, ha]; omega
  rw [tail_list, tail_list, e, ByteArray.data_append, Array.toList_append, ← List.drop_drop, List.drop_left]
theorem ex_ahead (a w : ByteArray) (h : 32768 ≤ w.size) (l : List S30) : ex (a ++ w) l = ex w l := by
  unfold ex
  rw [tail_ahead a w h]

end Go.Proofs.Ytoibcollkkjelaa.GlueLaw
