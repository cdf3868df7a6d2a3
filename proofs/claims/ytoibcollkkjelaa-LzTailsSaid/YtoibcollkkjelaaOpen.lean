/- A slice of tokens that comes in, read as a list of tokens. -/
import Derived.Test.YtoibcollkkjelaaPLzGluex1
import Derived.Deep.Slices
import Derived.Deep.Strs
import Derived.ChangeArms
import Derived.WideShapes
namespace Go.Proofs.Ytoibcollkkjelaa.Open
open Go.RowKit Go.ChangeShapes Go.WideShapes Go.Deep Go.Proofs.Ytoibcollkkjelaa.PLzGlue Go.Proofs.YtoibcollkkjelaaW.PrintWords

theorem open_tokens {H : Type} {enc : TypeId × Value → H} {w : World} {a : Option Addr} {len cap : Nat} {d : DataW H} {ps : List MemPlace}
    (h : DataW.Trod enc Try.prog w 0 (fun _ => true) true 22 (.slice a len cap) d ps) :
    ∃ l : List S30, len = l.length ∧ l.length ≤ cap ∧ Kd.C k30 w a l.length l := by
  obtain ⟨fuel, hf⟩ := h
  rcases open_slice Try.underlying22 hf with ⟨hcs, _⟩ | ⟨ad, l, c, m, n, D, Pl, hcs, _, hlc, hcm, hm, _, hi⟩
  · simp [Value.cells] at hcs
    obtain ⟨rfl, rfl, rfl⟩ := hcs
    exact ⟨[], rfl, Nat.le_refl _, Kd.C_nil _ _⟩
  · simp [Value.cells] at hcs
    obtain ⟨rfl, rfl, rfl⟩ := hcs
    simp only [if_true] at hm
    subst hm
    have key : ∀ i, i < len → ∃ t : S30, w.cell? (ad.add (i * 3 + 0)) = some (.int .i64 t.f0) ∧ w.cell? (ad.add (i * 3 + 1)) = some (.int .i64 t.f1) ∧ w.cell? (ad.add (i * 3 + 2)) = some (.int .i64 t.f2) := by
      intro i hil
      obtain ⟨cs', hc, ht'⟩ := hi i (by omega)
      have hC : Try.prog.cellsOf 30 = 3 := by kernel_rfl
      rw [hC] at hc
      obtain ⟨y0, y1, y2, k, _, hl3, h0, h1, h2⟩ := trod_struct3 Try.underlying30 ht'
      rw [hC] at hl3
      obtain ⟨_, hcl, hat⟩ := World.cells?_some hc
      have hc3 : Try.prog.cellsOf 3 = 1 := by kernel_rfl
      simp only [hc3] at h0 h1 h2
      match cs', hl3 with
      | [v0, v1, v2], _ =>
        simp only [List.drop_zero, List.take_succ_cons, List.take_zero, List.drop_succ_cons] at h0 h1 h2
        obtain ⟨n0, e0, _⟩ := DataW.trod_int Try.underlying3 h0
        obtain ⟨n1, e1, _⟩ := DataW.trod_int Try.underlying3 h1
        obtain ⟨n2, e2, _⟩ := DataW.trod_int Try.underlying3 h2
        refine ⟨⟨n0, n1, n2⟩, ?_, ?_, ?_⟩
        · have := hat 0 (by omega)
          rw [Go.Deep.add_add] at this
          rw [this]
          simpa using e0
        · have := hat 1 (by omega)
          rw [Go.Deep.add_add] at this
          rw [this]
          simpa using e1
        · have := hat 2 (by omega)
          rw [Go.Deep.add_add] at this
          rw [this]
          simpa using e2
    have hlist : ∀ m, m ≤ len → ∃ l : List S30, l.length = m ∧ ∀ j p, l[j]? = some p → w.cell? (ad.add (j * 3 + 0)) = some (.int .i64 p.f0) ∧ w.cell? (ad.add (j * 3 + 1)) = some (.int .i64 p.f1) ∧ w.cell? (ad.add (j * 3 + 2)) = some (.int .i64 p.f2) := by
      intro m
      induction m with
      | zero => exact fun _ => ⟨[], rfl, fun j p hj => by simp at hj⟩
      | succ m ih =>
        intro hm
        obtain ⟨l, hl, hp⟩ := ih (by omega)
        obtain ⟨t, ht⟩ := key m (by omega)
        refine ⟨l ++ [t], by simp [hl], fun j p hj => ?_⟩
        rcases Nat.lt_or_ge j l.length with hlt | hge
        · rw [List.getElem?_append_left hlt] at hj
          exact hp j p hj
        · rw [List.getElem?_append_right hge] at hj
          have hj0 : j - l.length = 0 := by
            have := (List.getElem?_eq_some_iff.1 hj).1
            simp at this
            omega
          rw [hj0] at hj
          have e : t = p := by simpa using hj
          have ej : j = m := by omega
          rw [ej, ← e]
          exact ht
    obtain ⟨l, hl, hp⟩ := hlist len (Nat.le_refl _)
    refine ⟨l, hl.symm, by omega, rfl, by have : maxLen = 9223372036854775807 := rfl; omega, fun _ => ⟨ad, rfl, fun j p hj => ?_⟩⟩
    obtain ⟨c0, c1, c2⟩ := hp j p hj
    refine ⟨[.int .i64 p.f0, .int .i64 p.f1, .int .i64 p.f2], rfl, k30_mk w p, fun i u hu => ?_⟩
    show w.cell? (ad.add (j * 3 + i)) = some u
    match i with
    | 0 => rw [c0]; simpa using hu
    | 1 => rw [c1]; simpa using hu
    | 2 => rw [c2]; simpa using hu
    | n + 3 => simp at hu

end Go.Proofs.Ytoibcollkkjelaa.Open
