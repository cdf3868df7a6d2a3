/- What a slice of bytes is that began as a string's bytes and is appended to: laws for its walk. -/
import Derived.Test.YtoibcollkkjelaaPLzGluex1
import Derived.ArgAppend
namespace Go.Proofs.Ytoibcollkkjelaa.Outs
open Go.RowKit Go.Proofs.YtoibcollkkjelaaW.PrintWords Go.Proofs.YtoibcollkkjelaaW.PrintLast Go.Proofs.YtoibcollkkjelaaW.PrintMore

/-- The value is a slice of a block of the call's own that holds the bytes xs; the block may bear a conversion's mark behind its cells. -/
def OutAt (n0 : Nat) (w : World) (v : Value) (xs : List Int) : Prop :=
  ∃ g cap cur fr, v = .slice (some ⟨g, 0, none⟩) xs.length cap ∧ n0 ≤ g ∧ w.heap[g]? = some (.cells cur 5 fr) ∧ xs.length ≤ cap ∧ cap ≤ maxLen ∧ cur.size = cap ∧ cur.toList.take xs.length = nums .u8 xs ∧ (fr = (0, 0) ∨ cap ≤ fr.1)

/-- .. or it is nil, and there are none. -/
def Out (n0 : Nat) (w : World) (v : Value) (xs : List Int) : Prop := (v = .slice none 0 0 ∧ xs = []) ∨ OutAt n0 w v xs

theorem nums_length (k : IntKind) (xs : List Int) : (nums k xs).length = xs.length := by simp [nums]

theorem heap_lt {w : World} {g : Nat} {o : Obj} (h : w.heap[g]? = some o) : g < w.heap.size := by
  rcases Nat.lt_or_ge g w.heap.size with h' | h'
  · exact h'
  · rw [Array.getElem?_eq_none h'] at h
    cases h

theorem Out.step {n0 : Nat} {w w2 : World} {v : Value} {xs : List Int} (h : Out n0 w v xs) (hb : ∀ k, k < w.heap.size → w2.heap[k]? = w.heap[k]?) : Out n0 w2 v xs := by
  rcases h with h | ⟨g, cap, cur, fr, h1, h2, h3, h4⟩
  · exact Or.inl h
  · exact Or.inr ⟨g, cap, cur, fr, h1, h2, (hb g (heap_lt h3)).trans h3, h4⟩
theorem Out.below {n0 : Nat} {w w2 : World} {v : Value} {xs : List Int} (h : Out n0 w v xs) (hb : Below w.heap.size w w2) : Out n0 w2 v xs := h.step (fun k hk => hb.block k hk)
theorem Out.alloc {n0 : Nat} {w : World} {v : Value} {xs : List Int} (h : Out n0 w v xs) (o : Obj) : Out n0 (w.alloc o) v xs := h.step (fun k hk => Below.heap_alloc w o k hk)
theorem Out.drew {n0 : Nat} {w : World} {v : Value} {xs : List Int} (h : Out n0 w v xs) : Out n0 w.drew v xs := h
theorem Out.drewN {n0 : Nat} {w : World} {v : Value} {xs : List Int} (h : Out n0 w v xs) (m : Nat) : Out n0 (w.drewN m) v xs := h

theorem Out.slice {n0 : Nat} {w : World} {v : Value} {xs : List Int} (h : Out n0 w v xs) : ∃ A c, v = .slice A xs.length c := by
  rcases h with ⟨rfl, rfl⟩ | ⟨g, cap, cur, fr, h1, _⟩
  · exact ⟨none, 0, rfl⟩
  · exact ⟨_, _, h1⟩

/-- It is another block than one of another type. -/
theorem Out.ne {n0 : Nat} {w : World} {v : Value} {xs : List Int} (h : Out n0 w v xs) {b : Nat} {cs : Array Value} {t : TypeId} {fr : Nat × Nat} (hb : w.heap[b]? = some (.cells cs t fr)) (ht : t ≠ 5) : some b ≠ v.ownBlock := by
  rcases h with ⟨rfl, _⟩ | ⟨g, cap, cur, fr', rfl, _, h3, _⟩
  · simp [Value.ownBlock]
  intro he
  have : b = g := by simpa [Value.ownBlock] using he
  subst this
  rw [h3] at hb
  injection hb with hb
  injection hb with _ e _
  exact ht e.symm

/-- Its cells, read. -/
theorem Out.cell {n0 : Nat} {w : World} {A : Option Addr} {n c : Nat} {xs : List Int} (h : Out n0 w (.slice A n c) xs) (i : Int) (h0 : 0 ≤ i) (h1 : i < xs.length) :
    ∃ ad : Addr, A = some ad ∧ w.cell? (ad.add i.toNat) = some (.int .u8 (rd xs i)) := by
  rcases h with ⟨_, rfl⟩ | ⟨g, cap, cur, fr, h2, h3, h4, h5, h6, h7, h8, h9⟩
  · simp at h1
    omega
  injection h2 with e1 e2 e3
  subst e1
  refine ⟨_, rfl, ?_⟩
  obtain ⟨j, rfl⟩ := Int.eq_ofNat_of_zero_le h0
  have hj : j < xs.length := by omega
  have hc : cur.toList[j]? = some (.int .u8 (rd xs j)) := by
    have := congrArg (fun l => l[j]?) h8
    simp only [List.getElem?_take, hj, if_true] at this
    rw [this]
    unfold rd nums
    rw [List.getElem?_map, Int.toNat_natCast, List.getD_eq_getElem?_getD, List.getElem?_eq_getElem hj]
    rfl
  rw [Addr.add_lit, Int.toNat_natCast]
  unfold World.cell?
  simp only [h4]
  simp
  rw [← Array.getElem?_toList]
  exact hc

theorem Out.reads {n0 : Nat} {w : World} {A : Option Addr} {n c : Nat} {xs : List Int} (h : Out n0 w (.slice A n c) xs) : n = xs.length ∧ n ≤ c := by
  rcases h with ⟨h1, rfl⟩ | ⟨g, cap, cur, fr, h2, h3, h4, h5, _⟩
  · injection h1 with e1 e2 e3
    subst e2
    exact ⟨rfl, Nat.zero_le _⟩
  injection h2 with e1 e2 e3
  subst e2; subst e3
  exact ⟨rfl, h5⟩

theorem Out.readsInt {n0 : Nat} {w : World} {A : Option Addr} {n c : Nat} {xs : List Int} (h : Out n0 w (.slice A n c) xs) : ReadsInt w .u8 A xs.length xs := by
  have hl : xs.length ≤ 9223372036854775807 := by
    rcases h with ⟨_, rfl⟩ | ⟨g, cap, cur, fr, h2, h3, h4, h5, h6, _⟩
    · simp
    unfold maxLen at h6
    omega
  refine ⟨rfl, hl, fun hp => ?_⟩
  obtain ⟨ad, e, _⟩ := h.cell 0 (by omega) (by omega)
  refine ⟨ad, e, fun j hj => ?_⟩
  obtain ⟨ad2, e2, hc⟩ := h.cell (j : Int) (by omega) (by omega)
  rw [e] at e2
  injection e2 with e2
  subst e2
  rw [Int.toNat_natCast] at hc
  rw [hc]
  unfold rd
  rw [Int.toNat_natCast]

/-- It begins as a string's bytes. -/
theorem Out.start (W : World) (s : ByteArray) (hs : s.size ≤ maxLen) (n0 : Nat) (h0 : n0 ≤ W.heap.size) : Out n0 (Lib.bytesWorld W 5 s) (.slice (some ⟨W.heap.size, 0, none⟩) s.size (grownCap W s.size 0 5)) (bytesOf s) := by
  have hge := grownCap_ge W s.size 0 5
  have hle := grownCap_le_maxLen W s.size 0 5 hs
  have hsz : (Lib.bytesCells W 5 s).size = grownCap W s.size 0 5 := by
    unfold Lib.bytesCells
    rw [Array.size_append, Array.size_map, Array.size_replicate]
    show s.size + _ = _
    omega
  refine Or.inr ⟨W.heap.size, grownCap W s.size 0 5, Lib.bytesCells W 5 s, _, by rw [bytesOf_length], h0, Lib.bytesWorld_at_new W 5 s, by rw [bytesOf_length]; exact hge, hle, hsz, ?_, Or.inr (by rw [hsz]; exact Nat.le_refl _)⟩
  rw [bytesOf_length]
  unfold Lib.bytesCells
  have hl : (s.data.map fun b => Value.int .u8 b.toNat).toList.length = s.size := by simp
  rw [Array.toList_append, ← hl, List.take_left]
  unfold nums bytesOf
  simp

theorem heap_setCell_self (W : World) (g j : Nat) (u : Value) {cur : Array Value} {t : TypeId} {fr : Nat × Nat} (h : W.heap[g]? = some (.cells cur t fr)) : (W.setCell ⟨g, j, none⟩ u).heap[g]? = some (.cells (cur.setIfInBounds j u) t fr) := by
  unfold World.setCell
  simp [Array.getElem?_modify, h]

theorem ownsRow.mono_ {w : World} {base base' : Nat} {e : TypeId} {size : Nat} {v : Value} {n : Nat} {xs : List Value} (h : w.ownsRow base e size v n xs) (hb : base' ≤ base) : w.ownsRow base' e size v n xs :=
  ⟨h.1, h.2.imp id fun ⟨g, cap, cur, h1, h2, h3⟩ => ⟨g, cap, cur, h1, Nat.le_trans hb h2, h3⟩⟩

/-- A row of the call's own is one. -/
theorem Out.of_own {n0 : Nat} {w : World} {v : Value} {xs : List Int} (h : w.ownsRow n0 5 1 v xs.length (nums .u8 xs)) : Out n0 w v xs := by
  rcases h.2 with ⟨h0, h1⟩ | ⟨g', cap', cur', hv, hb', hp', hn', hm', hs', ht'⟩
  · exact Or.inl ⟨h0, List.eq_nil_of_length_eq_zero h1⟩
  · rw [Nat.mul_one] at ht' hs'
    exact Or.inr ⟨g', cap', cur', (0, 0), hv, hb', hp', hn', hm', hs', ht', Or.inl rfl⟩

theorem Out.append {w0 W : World} {ops : Array Oper} {rest : List Oper} {o : Oper} {a : Act} {Q : Exit → Act → World → Prop} (hgd : o.guard = none) (s x : Operand)
    (ho : o.op = .call { callee := .builtin .append, args := #[s, x], argTypes := #[38, 38] }) (v : Value) (xs : List Int) (n : Int)
    (hs : a.eval s = v) (hx : a.eval x = .slice (some ⟨W.heap.size, 0, none⟩) 1 1) (HO : Out w0.heap.size W v xs) (HB : Below w0.heap.size w0 W) (hl : xs.length + 1 ≤ 140737488351232)
    (h : ∀ v1 w1, Out w0.heap.size w1 v1 (xs ++ [n]) → Below w0.heap.size w0 w1 → (∀ (b : Nat) (cs : Array Value) (t : TypeId) (fr : Nat × Nat), t ≠ 5 → W.heap[b]? = some (Obj.cells cs t fr) → w1.heap[b]? = some (Obj.cells cs t fr)) → wpList Try.prog ops Q rest (a.put o.dst v1) w1) :
    wpList Try.prog ops Q (o :: rest) a (W.alloc (.cells #[.int .u8 n] 5)) := by
  have info5 : (Try.prog.info? 5).map (fun i => (i.zero, i.size, i.bytes)) = some (some (.int .u8 0), 1, 1) := by kernel_rfl
  obtain ⟨i0, hi, hz0, hz1, hz2⟩ := info_parts info5
  have HO2 := HO
  rcases HO with ⟨rfl, rfl⟩ | ⟨g, cap, cur, fr, rfl, h2, h3, h4, h5, h6, h7, h8⟩
  · have hsz : W.heap.size ≤ (W.alloc (.cells #[.int .u8 n] 5)).heap.size := by simp [World.alloc, -World.alloc_eq]
    have hb1 : Below w0.heap.size w0 (W.alloc (.cells #[.int .u8 n] 5)) := HB.alloc HB.size _
    refine wpList_append_own _ hgd s x 38 ho W.heap.size 5 i0 (.int .u8 0) 1 1 Try.underlying38 hi hz0 hz1 hz2 rfl (by decide) (.slice none 0 0) 0 [] hs (World.ownsRow_nil _ _ _ _) ⟨W.heap.size, 0, none⟩ 1 1 [.int .u8 n] hx rfl ?_ (by simp [Value.oneCell']) (by unfold maxLen; omega) (by omega) hsz ?_
    · intro j u hj
      have hj0 : j = 0 := by
        have := (List.getElem?_eq_some_iff.1 hj).1
        simp at this
        exact this
      subst hj0
      have hu : u = .int .u8 n := by simpa using hj.symm
      subst hu
      simp [World.cell?, World.alloc, Addr.add, -World.alloc_eq]
    · intro v' w' hown hgr _
      refine h _ _ (Out.of_own (by have := HB.size; exact ownsRow.mono_ hown this)) ?_ ?_
      · refine hb1.trans ⟨hgr.os, hgr.tape, hgr.output, hgr.size, fun k hk => hgr.block k ?_ (by simp [Value.ownBlock])⟩
        have := HB.size
        omega
      · intro b cs t fr' ht hb
        have hlt := heap_lt hb
        rw [hgr.block b (by omega) (by simp [Value.ownBlock]), Below.heap_alloc W _ b hlt]
        exact hb
  have hg := heap_lt h3
  have h3' : (W.alloc (.cells #[.int .u8 n] 5)).heap[g]? = some (.cells cur 5 fr) := (Below.heap_alloc W _ g hg).trans h3
  have hcell : ∀ j, j < cap → (W.alloc (.cells #[.int .u8 n] 5)).cell? ⟨g, j, none⟩ = cur[j]? := by
    intro j hj
    unfold World.cell?
    simp only [h3']
    simp
  have hne : ∀ b cs t fr', t ≠ 5 → W.heap[b]? = some (.cells cs t fr') → b ≠ g := by
    intro b cs t fr' ht hb he
    exact HO2.ne hb ht (by simp [Value.ownBlock, he])
  refine wpList_append_arg _ hgd s x 38 ho 5 i0 (.int .u8 0) 1 1 Try.underlying38 hi hz0 hz1 hz2 rfl (by decide) g 0 xs.length cap (nums .u8 xs) hs (by rw [nums_length, Nat.mul_one]) ?_ ⟨W.heap.size, 0, none⟩ 1 1 [.int .u8 n] hx rfl ?_ (by simp [Value.oneCell']) ?_ (by unfold maxLen; omega) (by omega) ?_ ?_
  · intro j u hj
    have hjl : j < xs.length := by have := (List.getElem?_eq_some_iff.1 hj).1; rwa [nums_length] at this
    rw [Nat.zero_add, hcell j (by omega)]
    rw [← h7, List.getElem?_take, if_pos hjl, Array.getElem?_toList] at hj
    exact hj
  · intro j u hj
    have hj0 : j = 0 := by
      have := (List.getElem?_eq_some_iff.1 hj).1
      simp at this
      exact this
    subst hj0
    have hu : u = .int .u8 n := by simpa using hj.symm
    subst hu
    simp [World.cell?, World.alloc, Addr.add, -World.alloc_eq]
  · intro hr j hj
    have hj0 : j = 0 := by simpa using hj
    subst hj0
    rw [Nat.zero_add, Nat.mul_one, Nat.add_zero]
    constructor
    · rw [hcell _ (by omega)]
      rw [Array.getElem?_eq_getElem (by omega)]
      rfl
    · unfold World.frozen?
      simp only [h3']
      rcases h8 with h8 | h8
      · subst h8
        simp
      · simp
        omega
  · intro hr
    rw [Nat.zero_add, Nat.mul_one]
    have e : (xs ++ [n]).length = xs.length + 1 := by simp
    refine h _ _ (Or.inr ⟨g, cap, cur.setIfInBounds xs.length (.int .u8 n), fr, by rw [e], h2, heap_setCell_self _ g xs.length _ h3', by omega, h5, by simp [h6], ?_, h8⟩) ?_ ?_
    · rw [e, Array.toList_setIfInBounds, List.take_set, List.take_add_one, h7]
      have hlt : xs.length < cur.size := by omega
      rw [show cur.toList[xs.length]? = some (cur.toList[xs.length]'(by simpa using hlt)) from List.getElem?_eq_getElem _]
      have : (nums .u8 xs).length = xs.length := nums_length _ _
      rw [Option.toList_some, List.set_append_right _ _ (by omega), this, Nat.sub_self]
      simp [nums]
    · exact (HB.alloc HB.size _).setCell h2 _
    · intro b cs t fr' ht hb
      have hbg := hne b cs t fr' ht hb
      rw [show (World.setCells (W.alloc (.cells #[.int .u8 n] 5)) g xs.length [.int .u8 n]) = (W.alloc (.cells #[.int .u8 n] 5)).setCell ⟨g, xs.length, none⟩ (.int .u8 n) from rfl]
      rw [Below.heap_setCell _ _ _ _ hbg, Below.heap_alloc W _ b (heap_lt hb)]
      exact hb
  · intro hr v' w' hown hgr
    have e : (xs ++ [n]).length = xs.length + 1 := by simp
    have en : nums .u8 xs ++ [.int .u8 n] = nums .u8 (xs ++ [n]) := by simp [nums]
    rw [en] at hown
    have hsz : W.heap.size ≤ (W.alloc (.cells #[.int .u8 n] 5)).heap.size := by simp [World.alloc, -World.alloc_eq]
    refine h _ _ ?_ ?_ ?_
    · rw [← e] at hown
      refine Out.of_own (ownsRow.mono_ hown ?_)
      have := HB.size
      omega
    · have hb1 : Below w0.heap.size w0 (W.alloc (.cells #[.int .u8 n] 5)) := HB.alloc HB.size _
      refine hb1.trans ⟨hgr.os, hgr.tape, hgr.output, hgr.size, fun k hk => hgr.block k ?_ (by simp)⟩
      have := HB.size
      omega
    · intro b cs t fr' ht hb
      have hlt := heap_lt hb
      rw [hgr.block b (by omega) (by simp), Below.heap_alloc W _ b hlt]
      exact hb

end Go.Proofs.Ytoibcollkkjelaa.Outs
