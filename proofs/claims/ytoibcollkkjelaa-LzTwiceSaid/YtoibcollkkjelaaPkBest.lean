/- lz.chains' best: the longest piece at a place. -/
import Derived.Test.YtoibcollkkjelaaPkAdd
import Derived.Laws.ResultCell
namespace Go.Proofs.Ytoibcollkkjelaa.PkBest
open Go.RowKit Go.Proofs.Ytoibcollkkjelaa.PLzGlue Go.Proofs.YtoibcollkkjelaaW.PrintWords Go.Proofs.YtoibcollkkjelaaW.PrintLast Go.Proofs.YtoibcollkkjelaaW.PrintMore Go.Proofs.Ytoibcollkkjelaa.PkMath Go.Proofs.Ytoibcollkkjelaa.PkMap Go.Proofs.Ytoibcollkkjelaa.PkAlike Go.Proofs.Ytoibcollkkjelaa.PkAdd
set_option linter.unusedVariables false
set_option linter.unusedSimpArgs false

theorem info30 : (Try.prog.info? 30).map (·.size) = some 3 := by kernel_rfl
/-- Block g holds a token. -/
def Tok (w : World) (g : Nat) (x y z : Int) : Prop := w.heap[g]? = some (.cells #[.int .i64 x, .int .i64 y, .int .i64 z] 30 (0, 0))
theorem Tok.cells {w : World} {g : Nat} {x y z : Int} (h : Tok w g x y z) : w.cell? ⟨g, 0, none⟩ = some (.int .i64 x) ∧ w.cell? ⟨g, 1, none⟩ = some (.int .i64 y) ∧ w.cell? ⟨g, 2, none⟩ = some (.int .i64 z) := ⟨blk_cell h 0, blk_cell h 1, blk_cell h 2⟩
theorem Tok.below {w w1 : World} {g : Nat} {x y z : Int} (h : Tok w g x y z) (hb : Below w.heap.size w w1) : Tok w1 g x y z := blk_below h hb
theorem Tok.far {w w1 : World} {g k : Nat} {x y z : Int} (h : Tok w g x y z) (hf : ∀ j, j ≠ k → w1.heap[j]? = w.heap[j]?) (hne : g ≠ k) : Tok w1 g x y z := (hf g hne).trans h
theorem tok_run {w : World} {g : Nat} {x y z x1 y1 z1 : Int} (h : Tok w g x y z) :
    (Instr.storeAt 30 (.pointer (some ⟨g, 0, none⟩)) (.agg #[.int .i64 x1, .int .i64 y1, .int .i64 z1])).run Try.prog w = .ok () (w.setCells g 0 [.int .i64 x1, .int .i64 y1, .int .i64 z1]) :=
  run_store_run 30 _ _ h rfl info30 (by show 0 + 3 ≤ 3; omega) (by intro q hq; rcases List.mem_cons.1 hq with rfl | hq; rfl; rcases List.mem_cons.1 hq with rfl | hq; rfl; rcases List.mem_cons.1 hq with rfl | hq; rfl; cases hq)
theorem tok_set {w : World} {g : Nat} {x y z x1 y1 z1 : Int} (h : Tok w g x y z) : Tok (w.setCells g 0 [.int .i64 x1, .int .i64 y1, .int .i64 z1]) g x1 y1 z1 := by
  have h1 := blk_set h 0 (.int .i64 x1)
  have h2 := blk_set h1 1 (.int .i64 y1)
  have h3 := blk_set h2 2 (.int .i64 z1)
  exact h3
theorem tok_store {ops : Array Oper} {rest : List Oper} {o : Oper} {a : Act} {Q : Exit → Act → World → Prop} {W : World} (hgd : o.guard = none) (p x : Operand) (ho : o.op = .store 30 p x) (hN : o.dst = none) {g : Nat} (hp : a.eval p = .pointer (some ⟨g, 0, none⟩)) {x1 y1 z1 : Int} (hx : a.eval x = .agg #[.int .i64 x1, .int .i64 y1, .int .i64 z1])
    {x0 y0 z0 : Int} (hh : Tok W g x0 y0 z0) (h : ∀ w1, Tok w1 g x1 y1 z1 → (∀ j, j ≠ g → w1.heap[j]? = W.heap[j]?) → (∀ B, B ≤ g → Below B W w1) → wpList Try.prog ops Q rest a w1) : wpList Try.prog ops Q (o :: rest) a W := by
  refine wpList_plain hgd fun K hK => ?_
  have hrun : (execOp a.eval o).run Try.prog W = .ok .skip (W.setCells g 0 [.int .i64 x1, .int .i64 y1, .int .i64 z1]) := by
    unfold execOp
    simp [ho, hp, hx, tok_run hh]
  obtain ⟨s1, s2, s3, s4⟩ := setCells_same g [.int .i64 x1, .int .i64 y1, .int .i64 z1] 0 W
  unfold Oper.wp
  rw [hrun]
  show K (a.put o.dst undef) _
  rw [hN]
  exact hK _ _ (h _ (tok_set hh) (fun j hj => setCells_far _ _ j hj) (fun B hB => ⟨s1, s2, s3, by rw [s4]; exact Nat.le_refl _, fun k hk => setCells_far _ _ k (by omega)⟩))
theorem tok_step {ops : Array Oper} {o : Oper} {a : Act} {Q : Exit → Act → World → Prop} {K : Act → World → Prop} {W : World} (hw : Region.wanted o (yielded ops a.tmps) = true) (p x : Operand) (ho : o.op = .store 30 p x) (hN : o.dst = none) {g : Nat} (hp : a.eval p = .pointer (some ⟨g, 0, none⟩)) {x1 y1 z1 : Int} (hx : a.eval x = .agg #[.int .i64 x1, .int .i64 y1, .int .i64 z1])
    {x0 y0 z0 : Int} (hh : Tok W g x0 y0 z0) (h : ∀ w1, Tok w1 g x1 y1 z1 → (∀ j, j ≠ g → w1.heap[j]? = W.heap[j]?) → (∀ B, B ≤ g → Below B W w1) → K a w1) : if Region.wanted o (yielded ops a.tmps) = true then Oper.wp Try.prog o a W K Q else K (a.put none undef) W := by
  have hrun : (execOp a.eval o).run Try.prog W = .ok .skip (W.setCells g 0 [.int .i64 x1, .int .i64 y1, .int .i64 z1]) := by
    unfold execOp
    simp [ho, hp, hx, tok_run hh]
  obtain ⟨s1, s2, s3, s4⟩ := setCells_same g [.int .i64 x1, .int .i64 y1, .int .i64 z1] 0 W
  exact skip_ hw hN hrun (h _ (tok_set hh) (fun j hj => setCells_far _ _ j hj) (fun B hB => ⟨s1, s2, s3, by rw [s4]; exact Nat.le_refl _, fun k hk => setCells_far _ _ k (by omega)⟩))
theorem tok_ret {tmps : Array Value} {w : World} {g : Nat} {x y z : Int} {u : Value} (h4 : tmps.getD 4 undef = .pointer (some ⟨g, 0, none⟩)) (h5 : tmps.getD 5 undef = u) (h : Tok w g x y z) :
    (results Try.f22 tmps).run Try.prog w = .ok (.tuple #[.agg #[.int .i64 x, .int .i64 y, .int .i64 z], u]) w := by
  have hl := run_loadVar_row (P := Try.prog) w g 30 30 #[.int .i64 x, .int .i64 y, .int .i64 z] (0, 0) _ h Try.underlying30 rfl info30
  rw [results_cell_tmp (p := 4) (u := 5) (ty := 30) rfl, h4, h5]
  simp [asAddr, hl, Result.andThen]

def best4.T : Bool × List (List Nat × List Nat) := (true, [([], []), ([0], [0]), ([1], [1]), ([2], [2]), ([], []), ([4], [4]), ([5], [5]), ([6], [6]), ([], []), ([], []), ([9], [9]), ([7, 8, 10], [7, 8, 10]), ([3, 11], [3, 11]), ([12], [12]), ([13], [13]), ([13], [13]), ([14, 0, 1, 2, 3, 4, 5, 6, 7, 8, 9, 10, 11, 12, 13, 14], [14]), ([15, 16, 0, 1, 2, 3, 4, 5, 6, 7, 8, 9, 10, 11, 12, 13, 14, 15, 16], [15])])
def best4.B : List Nat := [0, 1, 3, 7, 0, 16, 48, 112, 0, 0, 512, 2032, 4095, 8191, 16383, 16383, 32767, 131071]
theorem best4.tab : rtab .any (opsOf Try.f22 4) = best4.T := by kernel_rfl
theorem best4.bits : waitsOk best4.T.2 best4.B = true := by kernel_rfl

def best12.T : Bool × List (List Nat × List Nat) := (true, [([], []), ([], []), ([1], [1]), ([2], [2]), ([0, 0], [0]), ([3, 4, 0, 1, 2, 3, 4], [3])])
def best12.B : List Nat := [0, 0, 2, 6, 1, 31]
theorem best12.tab : rtab .any (opsOf Try.f22 12) = best12.T := by kernel_rfl
theorem best12.bits : waitsOk best12.T.2 best12.B = true := by kernel_rfl

set_option maxHeartbeats 8000000 in
set_option maxRecDepth 100000 in
theorem best_calls (T : ByteArray) (n0 c bm b : Nat) (w : World) (hch : Chain w n0 c bm T b) (hb : b ≤ T.size) (hT : T.size ≤ 1000000) :
    Calls Try.prog 22 #[.pointer (some ⟨c, 0, none⟩), .int .i64 (b : Int)] w fun e w' => e = .returned (.tuple #[.agg #[.int .i64 0, .int .i64 (bestP T b).1, .int .i64 (bestP T b).2], .bool (decide (3 ≤ (bestP T b).1))]) ∧ Below w.heap.size w w' := by
  have hu30 := Try.underlying30
  obtain ⟨v, h1, h2, h3, h4, h5⟩ := hch
  obtain ⟨A, cp, e⟩ := Kd.R_slice h3
  subst e
  rw [aheadL_len] at h1 h3
  have wb3 : wrap64 ((b : Int) + 3) = ((b + 3 : Nat) : Int) := by unfold wrap64; omega
  obtain ⟨b3, hb3⟩ : ∃ b3, b + 3 = b3 := ⟨_, rfl⟩
  rw [hb3] at wb3
  have HN := Aside0.mk (And.intro hb (And.intro hT hb3))
  have HM := Aside0.mk h2
  have HV := Aside0.mk (Kd.reads_of_C (enc := Value.int .i64) (d := (0 : Int)) (h1 := fun _ => rfl) (Kd.R_reads' h3).2.2)
  have HH := Aside0.mk h1
  clear h1 h2 h3 h4 h5 hb hT
  by_cases c3 : T.size < b3
  · have d1 : decide ((T.size : Int) < (b3 : Int)) = true := decide_eq_true (by omega)
    have d2 : decide (T.size < b3) = true := decide_eq_true c3
    have e : bestP T b = (0, 0) := by unfold bestP; rw [if_pos (by omega)]
    rw [e]
    clear e hb3 c3
    go_enter Try.func22, Try.ntmps22
    go_wp2_with (first | ((with_reducible refine gate_dst (N := 4) rfl ?_); refine box_event rfl (N := 4) rfl (cs := #[.int .i64 0, .int .i64 0, .int .i64 0]) (t := 30) ?hr ?_; (case hr => first | (go_simp; done) | (go_simp; rfl)); intro g4 hg4 w1 hx4 hb; have T4 := Aside0.mk (show Tok w1 g4 0 0 0 from hx4); have HB := Aside0.mk hb; have G4 := Aside0.mk (show w.heap.size ≤ g4 by omega); clear hx4 hb hg4) | ((with_reducible refine gate_dst (N := 6) rfl ?_); refine box_event rfl (N := 6) rfl (cs := #[.int .i64 0, .int .i64 0, .int .i64 0]) (t := 30) ?hr ?_; (case hr => first | (go_simp; done) | (go_simp; rfl)); intro g6 hg6 w2 hx6 hb; have T6 := Aside0.mk (show Tok w2 g6 0 0 0 from hx6); have N46 := Aside0.mk (show g4 ≠ g6 by have := blk_lt T4.out; omega); have n4_ := Aside0.mk (T4.out.below hb); have nb_ := Aside0.mk (below_step HB.out hb); have G6 := Aside0.mk (show w.heap.size ≤ g6 by have := HB.out.size; omega); clear hx6 hb hg6 T4 HB; have T4 := n4_; have HB := nb_; clear n4_ nb_; obtain ⟨c0, c1, c2⟩ := box3 ((HB.out.block c (heap_lt HH.out)).trans HH.out); obtain ⟨bx0, bx1, bx2⟩ := T6.out.cells) | ((with_reducible refine gate_store (t := 30) (p := 4) rfl ?_); refine tok_store rfl (.tmp 4) (.tmp 19) rfl rfl rfl rfl T4.out ?_; intro w3 h4_ hf_ hb_; have n4_ := Aside0.mk h4_; have n6_ := Aside0.mk (T6.out.far hf_ (Ne.symm N46.out)); have nb_ := Aside0.mk (HB.out.trans (hb_ _ G4.out)); clear c0 c1 c2 bx0 bx1 bx2 T4 T6 HB h4_ hf_ hb_; have T4 := n4_; have T6 := n6_; have HB := nb_; clear n4_ n6_ nb_; obtain ⟨rx0, rx1, rx2⟩ := T4.out.cells))
    refine bodyPost_ret (tok_ret rfl rfl T4.out) rfl ⟨rfl, HB.out⟩
  · have d1 : decide ((T.size : Int) < (b3 : Int)) = false := decide_eq_false (by omega)
    have d2 : decide (T.size < b3) = false := decide_eq_false c3
    have e1 : (0 ≤ (b : Int)) = True := eq_true (by omega)
    have e2 : ((b : Int) ≤ (b3 : Int)) = True := eq_true (by omega)
    have e3 : ((b3 : Int) ≤ (T.size : Int)) = True := eq_true (by omega)
    have e4 : (b ≤ b3) = True := eq_true (by omega)
    have e5 : (b3 ≤ T.size) = True := eq_true (by omega)
    cases hf : lastK T b (T.extract b b3) with
    | none =>
      have e : bestP T b = (0, 0) := by unfold bestP; rw [if_neg (by omega), hb3, hf]
      rw [e]
      have HF := Aside0.mk hf
      clear e hb3 hf c3
      go_enter Try.func22, Try.ntmps22
      go_wp2_with (first | ((with_reducible refine gate_dst (N := 4) rfl ?_); refine box_event rfl (N := 4) rfl (cs := #[.int .i64 0, .int .i64 0, .int .i64 0]) (t := 30) ?hr ?_; (case hr => first | (go_simp; done) | (go_simp; rfl)); intro g4 hg4 w1 hx4 hb; have T4 := Aside0.mk (show Tok w1 g4 0 0 0 from hx4); have HB := Aside0.mk hb; have G4 := Aside0.mk (show w.heap.size ≤ g4 by omega); clear hx4 hb hg4) | ((with_reducible refine gate_dst (N := 6) rfl ?_); refine box_event rfl (N := 6) rfl (cs := #[.int .i64 0, .int .i64 0, .int .i64 0]) (t := 30) ?hr ?_; (case hr => first | (go_simp; done) | (go_simp; rfl)); intro g6 hg6 w2 hx6 hb; have T6 := Aside0.mk (show Tok w2 g6 0 0 0 from hx6); have N46 := Aside0.mk (show g4 ≠ g6 by have := blk_lt T4.out; omega); have n4_ := Aside0.mk (T4.out.below hb); have nb_ := Aside0.mk (below_step HB.out hb); have G6 := Aside0.mk (show w.heap.size ≤ g6 by have := HB.out.size; omega); clear hx6 hb hg6 T4 HB; have T4 := n4_; have HB := nb_; clear n4_ nb_; obtain ⟨c0, c1, c2⟩ := box3 ((HB.out.block c (heap_lt HH.out)).trans HH.out); obtain ⟨bx0, bx1, bx2⟩ := T6.out.cells))
      have hlk : (Instr.lookup 43 (.map (some bm)) (.string (T.extract b b3)) true).run Try.prog w2.drew = .ok (.tuple #[.int .i64 0, .bool false]) w2.drew := by
        obtain ⟨es_, ck_, hob_⟩ := HM.out.obj
        have h := (HM.out.move (w1 := w2.drew) (HB.out.block bm (heap_lt hob_))).look (T.extract b b3) (by rw [ByteArray.size_extract]; unfold maxLen; have := HN.out; omega)
        rw [HF.out] at h
        exact h
      refine start_ (n := 18) (S := fun w' => w'.cell? ⟨c, 0, none⟩ = some (.string T) ∧ w'.cell? ⟨c, 1, none⟩ = some (.map (some bm)) ∧ (Instr.lookup 43 (.map (some bm)) (.string (T.extract b b3)) true).run Try.prog w' = .ok (.tuple #[.int .i64 0, .bool false]) w' ∧ Tok w' g4 0 0 0 ∧ Tok w' g6 0 0 0 ∧ Below w.heap.size w w') (ds := []) #[false, false, false, false, false, false, false, false, false, false, false, false, false, false, false, false, false, false] (by kernel_rfl) rfl rfl ⟨c0, c1, hlk, T4.out, T6.out, below_drew1 HB.out⟩ (fun hHeld => ?_); refine with_tabW best4.tab best4.bits (fun HT_ HW_ => ?_)
      refine pure_ (i := 0) (N := some 21) (v := ?_) (a' := ?_) #[true, false, false, false, false, false, false, false, false, false, false, false, false, false, false, false, false, false] rfl rfl (any_of HT_.out (by kernel_rfl)) (fun _ _ _ h => h) (Or.inl ⟨by rfl, ?_⟩) ?_ ?_
      rotate_left
      · intro w'
        go_simp
        with_reducible rfl
      rotate_left
      · simp only [Act.put, List.setIfInBounds_toArray, List.set_cons_zero, List.set_cons_succ, i64_w, i32_w]
        rfl
      refine pure_ (i := 1) (N := some 22) (v := ?_) (a' := ?_) #[true, true, false, false, false, false, false, false, false, false, false, false, false, false, false, false, false, false] rfl rfl (any_of HT_.out (by kernel_rfl)) (fun _ _ _ h => h) (Or.inl ⟨by rfl, ?_⟩) ?_ ?_
      rotate_left
      · intro w'
        go_simp
        with_reducible rfl
      rotate_left
      · simp only [Act.put, List.setIfInBounds_toArray, List.set_cons_zero, List.set_cons_succ, i64_w, i32_w]
        rfl
      refine pure_ (i := 2) (N := some 23) (v := ?_) (a' := ?_) #[true, true, true, false, false, false, false, false, false, false, false, false, false, false, false, false, false, false] rfl rfl (any_of HT_.out (by kernel_rfl)) (fun _ _ _ h => h) (Or.inl ⟨by rfl, ?_⟩) ?_ ?_
      rotate_left
      · intro w'
        go_simp
        with_reducible rfl
      rotate_left
      · simp only [Act.put, List.setIfInBounds_toArray, List.set_cons_zero, List.set_cons_succ, i64_w, i32_w]
        rfl
      refine pure_ (i := 4) (N := some 25) (v := ?_) (a' := ?_) #[true, true, true, false, true, false, false, false, false, false, false, false, false, false, false, false, false, false] rfl rfl (any_of HT_.out (by kernel_rfl)) (fun _ _ _ h => h) (Or.inl ⟨by rfl, ?_⟩) ?_ ?_
      rotate_left
      · intro w'
        go_simp
        with_reducible rfl
      rotate_left
      · simp only [Act.put, List.setIfInBounds_toArray, List.set_cons_zero, List.set_cons_succ, i64_w, i32_w]
        rfl
      refine pure_ (i := 5) (N := some 26) (v := ?_) (a' := ?_) #[true, true, true, false, true, true, false, false, false, false, false, false, false, false, false, false, false, false] rfl rfl (any_of HT_.out (by kernel_rfl)) (fun _ _ _ h => h) (Or.inl ⟨by rfl, ?_⟩) ?_ ?_
      rotate_left
      · intro w'
        go_simp
        with_reducible rfl
      rotate_left
      · simp only [Act.put, List.setIfInBounds_toArray, List.set_cons_zero, List.set_cons_succ, i64_w, i32_w]
        rfl
      refine pure_ (i := 6) (N := some 27) (v := ?_) (a' := ?_) #[true, true, true, false, true, true, true, false, false, false, false, false, false, false, false, false, false, false] rfl rfl (any_of HT_.out (by kernel_rfl)) (fun _ _ _ h => h) (Or.inl ⟨by rfl, ?_⟩) ?_ ?_
      rotate_left
      · intro w'
        go_simp
        with_reducible rfl
      rotate_left
      · simp only [Act.put, List.setIfInBounds_toArray, List.set_cons_zero, List.set_cons_succ, i64_w, i32_w]
        rfl
      refine pure_ (i := 8) (N := some 29) (v := ?_) (a' := ?_) #[true, true, true, false, true, true, true, false, true, false, false, false, false, false, false, false, false, false] rfl rfl (any_of HT_.out (by kernel_rfl)) (fun _ _ _ h => h) (Or.inl ⟨by rfl, ?_⟩) ?_ ?_
      rotate_left
      · intro w'
        go_simp
        with_reducible rfl
      rotate_left
      · simp only [Act.put, List.setIfInBounds_toArray, List.set_cons_zero, List.set_cons_succ, i64_w, i32_w]
        rfl
      refine pure_ (i := 9) (N := some 30) (v := ?_) (a' := ?_) #[true, true, true, false, true, true, true, false, true, true, false, false, false, false, false, false, false, false] rfl rfl (any_of HT_.out (by kernel_rfl)) (fun _ _ _ h => h) (Or.inl ⟨by rfl, ?_⟩) ?_ ?_
      rotate_left
      · intro w'
        go_simp
        with_reducible rfl
      rotate_left
      · simp only [Act.put, List.setIfInBounds_toArray, List.set_cons_zero, List.set_cons_succ, i64_w, i32_w]
        rfl
      refine pure_ (i := 10) (N := some 31) (v := ?_) (a' := ?_) #[true, true, true, false, true, true, true, false, true, true, true, false, false, false, false, false, false, false] rfl rfl (any_of HT_.out (by kernel_rfl)) (fun _ _ _ h => h) (Or.inl ⟨by rfl, ?_⟩) ?_ ?_
      rotate_left
      · intro w'
        go_simp
        with_reducible rfl
      rotate_left
      · simp only [Act.put, List.setIfInBounds_toArray, List.set_cons_zero, List.set_cons_succ, i64_w, i32_w]
        rfl
      refine take_ (i := 3) (N := some 24) (v := ?_) (a' := ?_) #[true, true, true, true, true, true, true, false, true, true, true, false, false, false, false, false, false, false] rfl rfl (take_ofW HT_.out HW_.out (by kernel_rfl)) (fun _ _ _ h => h) (Or.inl ⟨by rfl, ?_⟩) hHeld ?_ ?_
      rotate_left
      · rintro w' ⟨s0, s1, s2, s3, s4, s5⟩
        go_simp
        with_reducible rfl
      rotate_left
      · simp only [Act.put, List.setIfInBounds_toArray, List.set_cons_zero, List.set_cons_succ, i64_w, i32_w]
        rfl
      refine take_ (i := 7) (N := some 28) (v := ?_) (a' := ?_) #[true, true, true, true, true, true, true, true, true, true, true, false, false, false, false, false, false, false] rfl rfl (take_ofW HT_.out HW_.out (by kernel_rfl)) (fun _ _ _ h => h) (Or.inl ⟨by rfl, ?_⟩) hHeld ?_ ?_
      rotate_left
      · rintro w' ⟨s0, s1, s2, s3, s4, s5⟩
        go_simp
        with_reducible rfl
      rotate_left
      · simp only [Act.put, List.setIfInBounds_toArray, List.set_cons_zero, List.set_cons_succ, i64_w, i32_w]
        rfl
      refine pure_ (i := 11) (N := some 32) (v := ?_) (a' := ?_) #[true, true, true, true, true, true, true, true, true, true, true, true, false, false, false, false, false, false] rfl rfl (any_of HT_.out (by kernel_rfl)) (fun _ _ _ h => h) (Or.inl ⟨by rfl, ?_⟩) ?_ ?_
      rotate_left
      · intro w'
        go_simp
        with_reducible rfl
      rotate_left
      · simp only [Act.put, List.setIfInBounds_toArray, List.set_cons_zero, List.set_cons_succ, i64_w, i32_w]
        rfl
      refine take_ (i := 12) (N := some 33) (v := ?_) (a' := ?_) #[true, true, true, true, true, true, true, true, true, true, true, true, true, false, false, false, false, false] rfl rfl (take_ofW HT_.out HW_.out (by kernel_rfl)) (fun _ _ _ h => h) (Or.inl ⟨by rfl, ?_⟩) hHeld ?_ ?_
      rotate_left
      · rintro w' ⟨s0, s1, s2, s3, s4, s5⟩
        go_simp
        with_reducible rfl
      rotate_left
      · simp only [Act.put, List.setIfInBounds_toArray, List.set_cons_zero, List.set_cons_succ, i64_w, i32_w]
        rfl
      refine pure_ (i := 13) (N := some 20) (v := ?_) (a' := ?_) #[true, true, true, true, true, true, true, true, true, true, true, true, true, true, false, false, false, false] rfl rfl (any_of HT_.out (by kernel_rfl)) (fun _ _ _ h => h) (Or.inl ⟨by rfl, ?_⟩) ?_ ?_
      rotate_left
      · intro w'
        go_simp
        with_reducible rfl
      rotate_left
      · simp only [Act.put, List.setIfInBounds_toArray, List.set_cons_zero, List.set_cons_succ, i64_w, i32_w]
        rfl
      refine pure_ (i := 14) (N := some 34) (v := ?_) (a' := ?_) #[true, true, true, true, true, true, true, true, true, true, true, true, true, true, true, false, false, false] rfl rfl (any_of HT_.out (by kernel_rfl)) (fun _ _ _ h => h) (Or.inl ⟨by rfl, ?_⟩) ?_ ?_
      rotate_left
      · intro w'
        go_simp
        with_reducible rfl
      rotate_left
      · simp only [Act.put, List.setIfInBounds_toArray, List.set_cons_zero, List.set_cons_succ, i64_w, i32_w]
        rfl
      refine pure_ (i := 15) (N := some 35) (v := ?_) (a' := ?_) #[true, true, true, true, true, true, true, true, true, true, true, true, true, true, true, true, false, false] rfl rfl (any_of HT_.out (by kernel_rfl)) (fun _ _ _ h => h) (Or.inl ⟨by rfl, ?_⟩) ?_ ?_
      rotate_left
      · intro w'
        go_simp
        with_reducible rfl
      rotate_left
      · simp only [Act.put, List.setIfInBounds_toArray, List.set_cons_zero, List.set_cons_succ, i64_w, i32_w]
        rfl
      refine pure_ (i := 16) (N := some 7) (v := ?_) (a' := ?_) #[true, true, true, true, true, true, true, true, true, true, true, true, true, true, true, true, true, false] rfl rfl (any_of HT_.out (by kernel_rfl)) (fun _ _ _ h => h) (Or.inl ⟨by rfl, ?_⟩) ?_ ?_
      rotate_left
      · intro w'
        go_simp
        with_reducible rfl
      rotate_left
      · simp only [Act.put, List.setIfInBounds_toArray, List.set_cons_zero, List.set_cons_succ, i64_w, i32_w]
        rfl
      refine pure_ (i := 17) (N := some 8) (v := ?_) (a' := ?_) #[true, true, true, true, true, true, true, true, true, true, true, true, true, true, true, true, true, true] rfl rfl (any_of HT_.out (by kernel_rfl)) (fun _ _ _ h => h) (Or.inl ⟨by rfl, ?_⟩) ?_ ?_
      rotate_left
      · intro w'
        go_simp
        with_reducible rfl
      rotate_left
      · simp only [Act.put, List.setIfInBounds_toArray, List.set_cons_zero, List.set_cons_succ, i64_w, i32_w]
        rfl
      refine done_ (done_of HT_.out (by kernel_rfl)) ?_
      clear hlk c0 c1 c2 bx0 bx1 bx2 T4 T6 HB
      generalize w2.drew = w3 at hHeld ⊢
      have T4 := Aside0.mk hHeld.2.2.2.1
      have T6 := Aside0.mk hHeld.2.2.2.2.1
      have HB := Aside0.mk hHeld.2.2.2.2.2
      clear hHeld
      go_wp2
      refine wp_loop_rounds 1 ?_
      rw [rounds_succ]
      go_wp2
      refine start_ (n := 6) (S := fun w' => w'.cell? ⟨g6, 0, none⟩ = some (.int .i64 0) ∧ w'.cell? ⟨g6, 1, none⟩ = some (.int .i64 0) ∧ w'.cell? ⟨g6, 2, none⟩ = some (.int .i64 0) ∧ (∃ x y z, Tok w' g4 x y z) ∧ Tok w' g6 0 0 0 ∧ Below w.heap.size w w') (ds := []) #[false, false, false, false, false, false] (by kernel_rfl) rfl rfl ⟨T6.out.cells.1, T6.out.cells.2.1, T6.out.cells.2.2, ⟨_, _, _, T4.out⟩, T6.out, below_drew1 HB.out⟩ (fun hHeld => ?_); refine with_tabW best12.tab best12.bits (fun HT_ HW_ => ?_)
      refine pure_ (i := 1) (N := some 74) (v := ?_) (a' := ?_) #[false, true, false, false, false, false] rfl rfl (any_of HT_.out (by kernel_rfl)) (fun _ _ _ h => h) (Or.inl ⟨by rfl, ?_⟩) ?_ ?_
      rotate_left
      · intro w'
        go_simp
        with_reducible rfl
      rotate_left
      · simp only [Act.put, List.setIfInBounds_toArray, List.set_cons_zero, List.set_cons_succ, i64_w, i32_w]
        rfl
      refine take_ (i := 0) (N := some 73) (v := ?_) (a' := ?_) #[true, true, false, false, false, false] rfl rfl (take_ofW HT_.out HW_.out (by kernel_rfl)) (fun _ _ _ h => h) (Or.inl ⟨by rfl, ?_⟩) hHeld ?_ ?_
      rotate_left
      · rintro w' ⟨s0, s1, s2, s3, s4, s5⟩
        go_simp
        with_reducible rfl
      rotate_left
      · simp only [Act.put, List.setIfInBounds_toArray, List.set_cons_zero, List.set_cons_succ, i64_w, i32_w]
        rfl
      refine take_ (i := 2) (N := some 75) (v := ?_) (a' := ?_) #[true, true, true, false, false, false] rfl rfl (take_ofW HT_.out HW_.out (by kernel_rfl)) (fun _ _ _ h => h) (Or.inl ⟨by rfl, ?_⟩) hHeld ?_ ?_
      rotate_left
      · rintro w' ⟨s0, s1, s2, s3, s4, s5⟩
        go_simp
        with_reducible rfl
      rotate_left
      · simp only [Act.put, List.setIfInBounds_toArray, List.set_cons_zero, List.set_cons_succ, i64_w, i32_w]
        rfl
      refine pure_ (i := 3) (N := some 76) (v := ?_) (a' := ?_) #[true, true, true, true, false, false] rfl rfl (any_of HT_.out (by kernel_rfl)) (fun _ _ _ h => h) (Or.inl ⟨by rfl, ?_⟩) ?_ ?_
      rotate_left
      · intro w'
        go_simp
        with_reducible rfl
      rotate_left
      · simp only [Act.put, List.setIfInBounds_toArray, List.set_cons_zero, List.set_cons_succ, i64_w, i32_w]
        rfl
      refine one_ (i := 4) (N := none) #[true, true, true, true, true, false] rfl rfl (one_of HT_.out (by kernel_rfl)) (by decide) (fun K hK => ?_)
      obtain ⟨s0, s1, s2, ⟨x0_, y0_, z0_, s3⟩, s4, s5⟩ := hHeld
      refine tok_step (by rfl) (.tmp 4) (.tmp 73) rfl rfl rfl rfl s3 ?_
      intro w9 h4_ hf_ hb_
      have h6_ := s4.far hf_ (Ne.symm N46.out)
      have hbb_ := s5.trans (hb_ _ G4.out)
      refine hK.out _ _ ⟨h6_.cells.1, h6_.cells.2.1, h6_.cells.2.2, ⟨_, _, _, h4_⟩, h6_, hbb_⟩ (fun hHeld => ?_)
      clear hK K
      refine pure_ (i := 5) (N := some 5) (v := ?_) (a' := ?_) #[true, true, true, true, true, true] rfl rfl (any_of HT_.out (by kernel_rfl)) (fun _ _ _ h => h) (Or.inl ⟨by rfl, ?_⟩) ?_ ?_
      rotate_left
      · intro w'
        go_simp
        with_reducible rfl
      rotate_left
      · simp only [Act.put, List.setIfInBounds_toArray, List.set_cons_zero, List.set_cons_succ, i64_w, i32_w]
        rfl
      refine done_ (done_of HT_.out (by kernel_rfl)) ?_
      go_wp2
      refine bodyPost_ret (tok_ret rfl rfl h4_) rfl ⟨rfl, hbb_⟩
    | some p =>
      obtain ⟨R, hR⟩ : ∃ R, bestP T b = R := ⟨_, rfl⟩
      have HX0 := Aside0.mk (show bL T b (64 - 0) (p : Int) (0, 0) = R by rw [← hR]; unfold bestP; rw [if_neg (by omega), hb3, hf])
      have HP0 := Aside0.mk (show (p : Int) < b by have := (lastK_some T b _ p hf).1; omega)
      rw [hR]
      have HF := Aside0.mk hf
      clear hR hb3 hf c3
      go_enter Try.func22, Try.ntmps22
      go_wp2_with (first | ((with_reducible refine gate_dst (N := 4) rfl ?_); refine box_event rfl (N := 4) rfl (cs := #[.int .i64 0, .int .i64 0, .int .i64 0]) (t := 30) ?hr ?_; (case hr => first | (go_simp; done) | (go_simp; rfl)); intro g4 hg4 w1 hx4 hb; have T4 := Aside0.mk (show Tok w1 g4 0 0 0 from hx4); have HB := Aside0.mk hb; have G4 := Aside0.mk (show w.heap.size ≤ g4 by omega); clear hx4 hb hg4) | ((with_reducible refine gate_dst (N := 6) rfl ?_); refine box_event rfl (N := 6) rfl (cs := #[.int .i64 0, .int .i64 0, .int .i64 0]) (t := 30) ?hr ?_; (case hr => first | (go_simp; done) | (go_simp; rfl)); intro g6 hg6 w2 hx6 hb; have T6 := Aside0.mk (show Tok w2 g6 0 0 0 from hx6); have N46 := Aside0.mk (show g4 ≠ g6 by have := blk_lt T4.out; omega); have n4_ := Aside0.mk (T4.out.below hb); have nb_ := Aside0.mk (below_step HB.out hb); have G6 := Aside0.mk (show w.heap.size ≤ g6 by have := HB.out.size; omega); clear hx6 hb hg6 T4 HB; have T4 := n4_; have HB := nb_; clear n4_ nb_; obtain ⟨c0, c1, c2⟩ := box3 ((HB.out.block c (heap_lt HH.out)).trans HH.out); obtain ⟨bx0, bx1, bx2⟩ := T6.out.cells))
      have hlk : (Instr.lookup 43 (.map (some bm)) (.string (T.extract b b3)) true).run Try.prog w2.drew = .ok (.tuple #[.int .i64 (p : Int), .bool true]) w2.drew := by
        obtain ⟨es_, ck_, hob_⟩ := HM.out.obj
        have h := (HM.out.move (w1 := w2.drew) (HB.out.block bm (heap_lt hob_))).look (T.extract b b3) (by rw [ByteArray.size_extract]; unfold maxLen; have := HN.out; omega)
        rw [HF.out] at h
        exact h
      refine start_ (n := 18) (S := fun w' => w'.cell? ⟨c, 0, none⟩ = some (.string T) ∧ w'.cell? ⟨c, 1, none⟩ = some (.map (some bm)) ∧ (Instr.lookup 43 (.map (some bm)) (.string (T.extract b b3)) true).run Try.prog w' = .ok (.tuple #[.int .i64 (p : Int), .bool true]) w' ∧ Tok w' g4 0 0 0 ∧ Tok w' g6 0 0 0 ∧ Below w.heap.size w w') (ds := []) #[false, false, false, false, false, false, false, false, false, false, false, false, false, false, false, false, false, false] (by kernel_rfl) rfl rfl ⟨c0, c1, hlk, T4.out, T6.out, below_drew1 HB.out⟩ (fun hHeld => ?_); refine with_tabW best4.tab best4.bits (fun HT_ HW_ => ?_)
      refine pure_ (i := 0) (N := some 21) (v := ?_) (a' := ?_) #[true, false, false, false, false, false, false, false, false, false, false, false, false, false, false, false, false, false] rfl rfl (any_of HT_.out (by kernel_rfl)) (fun _ _ _ h => h) (Or.inl ⟨by rfl, ?_⟩) ?_ ?_
      rotate_left
      · intro w'
        go_simp
        with_reducible rfl
      rotate_left
      · simp only [Act.put, List.setIfInBounds_toArray, List.set_cons_zero, List.set_cons_succ, i64_w, i32_w]
        rfl
      refine pure_ (i := 1) (N := some 22) (v := ?_) (a' := ?_) #[true, true, false, false, false, false, false, false, false, false, false, false, false, false, false, false, false, false] rfl rfl (any_of HT_.out (by kernel_rfl)) (fun _ _ _ h => h) (Or.inl ⟨by rfl, ?_⟩) ?_ ?_
      rotate_left
      · intro w'
        go_simp
        with_reducible rfl
      rotate_left
      · simp only [Act.put, List.setIfInBounds_toArray, List.set_cons_zero, List.set_cons_succ, i64_w, i32_w]
        rfl
      refine pure_ (i := 2) (N := some 23) (v := ?_) (a' := ?_) #[true, true, true, false, false, false, false, false, false, false, false, false, false, false, false, false, false, false] rfl rfl (any_of HT_.out (by kernel_rfl)) (fun _ _ _ h => h) (Or.inl ⟨by rfl, ?_⟩) ?_ ?_
      rotate_left
      · intro w'
        go_simp
        with_reducible rfl
      rotate_left
      · simp only [Act.put, List.setIfInBounds_toArray, List.set_cons_zero, List.set_cons_succ, i64_w, i32_w]
        rfl
      refine pure_ (i := 4) (N := some 25) (v := ?_) (a' := ?_) #[true, true, true, false, true, false, false, false, false, false, false, false, false, false, false, false, false, false] rfl rfl (any_of HT_.out (by kernel_rfl)) (fun _ _ _ h => h) (Or.inl ⟨by rfl, ?_⟩) ?_ ?_
      rotate_left
      · intro w'
        go_simp
        with_reducible rfl
      rotate_left
      · simp only [Act.put, List.setIfInBounds_toArray, List.set_cons_zero, List.set_cons_succ, i64_w, i32_w]
        rfl
      refine pure_ (i := 5) (N := some 26) (v := ?_) (a' := ?_) #[true, true, true, false, true, true, false, false, false, false, false, false, false, false, false, false, false, false] rfl rfl (any_of HT_.out (by kernel_rfl)) (fun _ _ _ h => h) (Or.inl ⟨by rfl, ?_⟩) ?_ ?_
      rotate_left
      · intro w'
        go_simp
        with_reducible rfl
      rotate_left
      · simp only [Act.put, List.setIfInBounds_toArray, List.set_cons_zero, List.set_cons_succ, i64_w, i32_w]
        rfl
      refine pure_ (i := 6) (N := some 27) (v := ?_) (a' := ?_) #[true, true, true, false, true, true, true, false, false, false, false, false, false, false, false, false, false, false] rfl rfl (any_of HT_.out (by kernel_rfl)) (fun _ _ _ h => h) (Or.inl ⟨by rfl, ?_⟩) ?_ ?_
      rotate_left
      · intro w'
        go_simp
        with_reducible rfl
      rotate_left
      · simp only [Act.put, List.setIfInBounds_toArray, List.set_cons_zero, List.set_cons_succ, i64_w, i32_w]
        rfl
      refine pure_ (i := 8) (N := some 29) (v := ?_) (a' := ?_) #[true, true, true, false, true, true, true, false, true, false, false, false, false, false, false, false, false, false] rfl rfl (any_of HT_.out (by kernel_rfl)) (fun _ _ _ h => h) (Or.inl ⟨by rfl, ?_⟩) ?_ ?_
      rotate_left
      · intro w'
        go_simp
        with_reducible rfl
      rotate_left
      · simp only [Act.put, List.setIfInBounds_toArray, List.set_cons_zero, List.set_cons_succ, i64_w, i32_w]
        rfl
      refine pure_ (i := 9) (N := some 30) (v := ?_) (a' := ?_) #[true, true, true, false, true, true, true, false, true, true, false, false, false, false, false, false, false, false] rfl rfl (any_of HT_.out (by kernel_rfl)) (fun _ _ _ h => h) (Or.inl ⟨by rfl, ?_⟩) ?_ ?_
      rotate_left
      · intro w'
        go_simp
        with_reducible rfl
      rotate_left
      · simp only [Act.put, List.setIfInBounds_toArray, List.set_cons_zero, List.set_cons_succ, i64_w, i32_w]
        rfl
      refine pure_ (i := 10) (N := some 31) (v := ?_) (a' := ?_) #[true, true, true, false, true, true, true, false, true, true, true, false, false, false, false, false, false, false] rfl rfl (any_of HT_.out (by kernel_rfl)) (fun _ _ _ h => h) (Or.inl ⟨by rfl, ?_⟩) ?_ ?_
      rotate_left
      · intro w'
        go_simp
        with_reducible rfl
      rotate_left
      · simp only [Act.put, List.setIfInBounds_toArray, List.set_cons_zero, List.set_cons_succ, i64_w, i32_w]
        rfl
      refine take_ (i := 3) (N := some 24) (v := ?_) (a' := ?_) #[true, true, true, true, true, true, true, false, true, true, true, false, false, false, false, false, false, false] rfl rfl (take_ofW HT_.out HW_.out (by kernel_rfl)) (fun _ _ _ h => h) (Or.inl ⟨by rfl, ?_⟩) hHeld ?_ ?_
      rotate_left
      · rintro w' ⟨s0, s1, s2, s3, s4, s5⟩
        go_simp
        with_reducible rfl
      rotate_left
      · simp only [Act.put, List.setIfInBounds_toArray, List.set_cons_zero, List.set_cons_succ, i64_w, i32_w]
        rfl
      refine take_ (i := 7) (N := some 28) (v := ?_) (a' := ?_) #[true, true, true, true, true, true, true, true, true, true, true, false, false, false, false, false, false, false] rfl rfl (take_ofW HT_.out HW_.out (by kernel_rfl)) (fun _ _ _ h => h) (Or.inl ⟨by rfl, ?_⟩) hHeld ?_ ?_
      rotate_left
      · rintro w' ⟨s0, s1, s2, s3, s4, s5⟩
        go_simp
        with_reducible rfl
      rotate_left
      · simp only [Act.put, List.setIfInBounds_toArray, List.set_cons_zero, List.set_cons_succ, i64_w, i32_w]
        rfl
      refine pure_ (i := 11) (N := some 32) (v := ?_) (a' := ?_) #[true, true, true, true, true, true, true, true, true, true, true, true, false, false, false, false, false, false] rfl rfl (any_of HT_.out (by kernel_rfl)) (fun _ _ _ h => h) (Or.inl ⟨by rfl, ?_⟩) ?_ ?_
      rotate_left
      · intro w'
        go_simp
        with_reducible rfl
      rotate_left
      · simp only [Act.put, List.setIfInBounds_toArray, List.set_cons_zero, List.set_cons_succ, i64_w, i32_w]
        rfl
      refine take_ (i := 12) (N := some 33) (v := ?_) (a' := ?_) #[true, true, true, true, true, true, true, true, true, true, true, true, true, false, false, false, false, false] rfl rfl (take_ofW HT_.out HW_.out (by kernel_rfl)) (fun _ _ _ h => h) (Or.inl ⟨by rfl, ?_⟩) hHeld ?_ ?_
      rotate_left
      · rintro w' ⟨s0, s1, s2, s3, s4, s5⟩
        go_simp
        with_reducible rfl
      rotate_left
      · simp only [Act.put, List.setIfInBounds_toArray, List.set_cons_zero, List.set_cons_succ, i64_w, i32_w]
        rfl
      refine pure_ (i := 13) (N := some 20) (v := ?_) (a' := ?_) #[true, true, true, true, true, true, true, true, true, true, true, true, true, true, false, false, false, false] rfl rfl (any_of HT_.out (by kernel_rfl)) (fun _ _ _ h => h) (Or.inl ⟨by rfl, ?_⟩) ?_ ?_
      rotate_left
      · intro w'
        go_simp
        with_reducible rfl
      rotate_left
      · simp only [Act.put, List.setIfInBounds_toArray, List.set_cons_zero, List.set_cons_succ, i64_w, i32_w]
        rfl
      refine pure_ (i := 14) (N := some 34) (v := ?_) (a' := ?_) #[true, true, true, true, true, true, true, true, true, true, true, true, true, true, true, false, false, false] rfl rfl (any_of HT_.out (by kernel_rfl)) (fun _ _ _ h => h) (Or.inl ⟨by rfl, ?_⟩) ?_ ?_
      rotate_left
      · intro w'
        go_simp
        with_reducible rfl
      rotate_left
      · simp only [Act.put, List.setIfInBounds_toArray, List.set_cons_zero, List.set_cons_succ, i64_w, i32_w]
        rfl
      refine pure_ (i := 15) (N := some 35) (v := ?_) (a' := ?_) #[true, true, true, true, true, true, true, true, true, true, true, true, true, true, true, true, false, false] rfl rfl (any_of HT_.out (by kernel_rfl)) (fun _ _ _ h => h) (Or.inl ⟨by rfl, ?_⟩) ?_ ?_
      rotate_left
      · intro w'
        go_simp
        with_reducible rfl
      rotate_left
      · simp only [Act.put, List.setIfInBounds_toArray, List.set_cons_zero, List.set_cons_succ, i64_w, i32_w]
        rfl
      refine pure_ (i := 16) (N := some 7) (v := ?_) (a' := ?_) #[true, true, true, true, true, true, true, true, true, true, true, true, true, true, true, true, true, false] rfl rfl (any_of HT_.out (by kernel_rfl)) (fun _ _ _ h => h) (Or.inl ⟨by rfl, ?_⟩) ?_ ?_
      rotate_left
      · intro w'
        go_simp
        with_reducible rfl
      rotate_left
      · simp only [Act.put, List.setIfInBounds_toArray, List.set_cons_zero, List.set_cons_succ, i64_w, i32_w]
        rfl
      refine pure_ (i := 17) (N := some 8) (v := ?_) (a' := ?_) #[true, true, true, true, true, true, true, true, true, true, true, true, true, true, true, true, true, true] rfl rfl (any_of HT_.out (by kernel_rfl)) (fun _ _ _ h => h) (Or.inl ⟨by rfl, ?_⟩) ?_ ?_
      rotate_left
      · intro w'
        go_simp
        with_reducible rfl
      rotate_left
      · simp only [Act.put, List.setIfInBounds_toArray, List.set_cons_zero, List.set_cons_succ, i64_w, i32_w]
        rfl
      refine done_ (done_of HT_.out (by kernel_rfl)) ?_
      clear hlk c0 c1 c2 bx0 bx1 bx2 T4 T6 HB
      generalize w2.drew = w3 at hHeld ⊢
      have T4 := Aside0.mk hHeld.2.2.2.1
      have T6 := Aside0.mk hHeld.2.2.2.2.1
      have HB := Aside0.mk hHeld.2.2.2.2.2
      clear hHeld
      go_wp2
      rw [wb3]
      go_loopg [7, 9] 64 (fun g v7 v9 wr => ∃ (k : Nat) (q t1 t2 : Int), v9 = .int .i64 (k : Int) ∧ v7 = .int .i64 q ∧ Aside0 (g = 64 - k ∧ k ≤ 64) ∧ Aside0 (bL T b (64 - k) q (t1, t2) = R) ∧ Aside0 (-1 ≤ q ∧ q < b) ∧ Aside0 (Tok wr g6 0 t1 t2) ∧ Aside0 (Tok wr g4 0 0 0) ∧ Aside0 (Below w.heap.size w wr))
      case atStart => exact ⟨0, (p : Int), 0, 0, rfl, rfl, ⟨by omega, by omega⟩, HX0, ⟨by have := HP0.out; omega⟩, T6, T4, HB⟩
      case round =>
        clear T4 T6 HB HX0 HP0
        obtain ⟨k, q, t1, t2, rfl, rfl, HG, HX, HQ, T6, T4, HB⟩ := hrel
        obtain ⟨D, hD⟩ : ∃ D, (b : Int) - q = D := ⟨_, rfl⟩
        have wD : wrap64 ((b : Int) - q) = D := by have := HQ.out; have := HN.out; unfold wrap64; omega
        by_cases k1 : k < 64
        · have f1 : decide ((k : Int) < 64) = true := decide_eq_true (by omega)
          have f2 : decide (k < 64) = true := decide_eq_true k1
          by_cases k2 : 0 ≤ q
          · have f3 : decide (0 ≤ q) = true := decide_eq_true k2
            by_cases k3 : D ≤ 32768
            · have f4 : decide (D ≤ 32768) = true := decide_eq_true k3
              obtain ⟨q, rfl⟩ := Int.eq_ofNat_of_zero_le k2
              obtain ⟨AL, hAL⟩ : ∃ AL, al T q b = AL := ⟨_, rfl⟩
              obtain ⟨NB, hNB⟩ : ∃ NB, bef T q = NB := ⟨_, rfl⟩
              have hnb := bef_range T q
              have hx := HX.out
              rw [show 64 - k = (64 - (k + 1)) + 1 from by omega, bL, if_pos ⟨by omega, by omega⟩, Int.toNat_natCast, hAL, hNB, hD] at hx
              rw [hNB] at hnb
              obtain ⟨ad, ead, hcell⟩ := ReadsInt.at_ HV.out (q : Int) (by omega) (by rw [aheadL_len]; have := HQ.out; omega)
              cases ead
              rw [aheadL_rd _ _ _ (by have := HQ.out; omega), hNB, Int.toNat_natCast] at hcell
              have HAL := Aside0.mk hAL
              have HCELL := Aside0.mk hcell
              have HQB := Aside0.mk (show q < b by have := HQ.out; omega)
              have HNB := Aside0.mk (show -1 ≤ NB ∧ NB < b by have := HQ.out; omega)
              have HK := Aside0.mk k1
              have i1 : (0 ≤ (q : Int)) = True := eq_true (by omega)
              have i2 : ((q : Int) < (b : Int)) = True := eq_true (by have := HQB.out; omega)
              have i3 : (q < b) = True := eq_true HQB.out
              clear hAL hNB hnb hcell hD k1 k2 k3
              by_cases k4 : t1 < (AL : Int)
              · have f5 : decide (t1 < (AL : Int)) = true := decide_eq_true k4
                rw [if_pos k4] at hx
                have HX2 := Aside0.mk hx
                clear hx HX k4
                go_wp2_with (first | (go_at_call 23; (with_reducible refine (alike_calls T ⟨c, 0, none⟩ q b _ (box3 ((HB.out.block c (heap_lt HH.out)).trans HH.out)).1 HQB.out HN.out.1 HN.out.2.1).mono ?_); rw [HAL.out]; rintro e w5 ⟨rfl, hb⟩; have n4_ := Aside0.mk (T4.out.below hb); have n6_ := Aside0.mk (T6.out.below hb); have nb_ := Aside0.mk (below_step HB.out hb); clear T4 T6 HB hb; have T4 := n4_; have T6 := n6_; have HB := nb_; clear n4_ n6_ nb_; obtain ⟨bx0, bx1, bx2⟩ := T6.out.cells) | ((with_reducible refine gate_store (t := 30) (p := 6) rfl ?_); refine tok_store rfl (.tmp 6) (.tmp 65) rfl rfl rfl rfl T6.out ?_; intro w6 h6_ hf_ hb_; have n6_ := Aside0.mk h6_; have n4_ := Aside0.mk (T4.out.far hf_ N46.out); have nb_ := Aside0.mk (HB.out.trans (hb_ _ G6.out)); clear bx0 bx1 bx2 T4 T6 HB h6_ hf_ hb_; have T4 := n4_; have T6 := n6_; have HB := nb_; clear n4_ n6_ nb_; obtain ⟨c0, c1, c2⟩ := box3 ((HB.out.block c (heap_lt HH.out)).trans HH.out); have hcell := (HB.out.cell (World.block_lt_of_cell? w _ HCELL.out)).trans HCELL.out))
                go_roundg (64 - (k + 1))
                case measure => have := HG.out; have := HK.out; omega
                case rel => exact ⟨k + 1, NB, (AL : Int), D, wrap_succ k (by have := HK.out; omega), rfl, ⟨rfl, by have := HK.out; omega⟩, HX2, HNB, T6, T4, HB⟩
              · have f5 : decide (t1 < (AL : Int)) = false := decide_eq_false k4
                rw [if_neg (show ¬ ((AL : Int) > t1) from k4)] at hx
                have HX2 := Aside0.mk hx
                clear hx HX k4
                go_wp2_with (first | (go_at_call 23; (with_reducible refine (alike_calls T ⟨c, 0, none⟩ q b _ (box3 ((HB.out.block c (heap_lt HH.out)).trans HH.out)).1 HQB.out HN.out.1 HN.out.2.1).mono ?_); rw [HAL.out]; rintro e w5 ⟨rfl, hb⟩; have n4_ := Aside0.mk (T4.out.below hb); have n6_ := Aside0.mk (T6.out.below hb); have nb_ := Aside0.mk (below_step HB.out hb); clear T4 T6 HB hb; have T4 := n4_; have T6 := n6_; have HB := nb_; clear n4_ n6_ nb_; obtain ⟨bx0, bx1, bx2⟩ := T6.out.cells; obtain ⟨c0, c1, c2⟩ := box3 ((HB.out.block c (heap_lt HH.out)).trans HH.out); have hcell := (HB.out.cell (World.block_lt_of_cell? w _ HCELL.out)).trans HCELL.out))
                go_roundg (64 - (k + 1))
                case measure => have := HG.out; have := HK.out; omega
                case rel => exact ⟨k + 1, NB, t1, t2, wrap_succ k (by have := HK.out; omega), rfl, ⟨rfl, by have := HK.out; omega⟩, HX2, HNB, T6, T4, HB⟩
            · have f4 : decide (D ≤ 32768) = false := decide_eq_false k3
              have hR_ : (t1, t2) = R := by
                have h := HX.out
                rw [show 64 - k = (64 - (k + 1)) + 1 from by omega, bL, if_neg (fun h => k3 (by omega))] at h
                exact h
              subst hR_
              clear HX hD
              go_wp2
              refine start_ (n := 6) (S := fun w' => w'.cell? ⟨g6, 0, none⟩ = some (.int .i64 0) ∧ w'.cell? ⟨g6, 1, none⟩ = some (.int .i64 t1) ∧ w'.cell? ⟨g6, 2, none⟩ = some (.int .i64 t2) ∧ (∃ x y z, Tok w' g4 x y z) ∧ Tok w' g6 0 t1 t2 ∧ Below w.heap.size w w') (ds := []) #[false, false, false, false, false, false] (by kernel_rfl) rfl rfl ⟨T6.out.cells.1, T6.out.cells.2.1, T6.out.cells.2.2, ⟨_, _, _, T4.out⟩, T6.out, below_drew1 HB.out⟩ (fun hHeld => ?_); refine with_tabW best12.tab best12.bits (fun HT_ HW_ => ?_)
              refine pure_ (i := 1) (N := some 74) (v := ?_) (a' := ?_) #[false, true, false, false, false, false] rfl rfl (any_of HT_.out (by kernel_rfl)) (fun _ _ _ h => h) (Or.inl ⟨by rfl, ?_⟩) ?_ ?_
              rotate_left
              · intro w'
                go_simp
                with_reducible rfl
              rotate_left
              · simp only [Act.put, List.setIfInBounds_toArray, List.set_cons_zero, List.set_cons_succ, i64_w, i32_w]
                rfl
              refine take_ (i := 0) (N := some 73) (v := ?_) (a' := ?_) #[true, true, false, false, false, false] rfl rfl (take_ofW HT_.out HW_.out (by kernel_rfl)) (fun _ _ _ h => h) (Or.inl ⟨by rfl, ?_⟩) hHeld ?_ ?_
              rotate_left
              · rintro w' ⟨s0, s1, s2, s3, s4, s5⟩
                go_simp
                with_reducible rfl
              rotate_left
              · simp only [Act.put, List.setIfInBounds_toArray, List.set_cons_zero, List.set_cons_succ, i64_w, i32_w]
                rfl
              refine take_ (i := 2) (N := some 75) (v := ?_) (a' := ?_) #[true, true, true, false, false, false] rfl rfl (take_ofW HT_.out HW_.out (by kernel_rfl)) (fun _ _ _ h => h) (Or.inl ⟨by rfl, ?_⟩) hHeld ?_ ?_
              rotate_left
              · rintro w' ⟨s0, s1, s2, s3, s4, s5⟩
                go_simp
                with_reducible rfl
              rotate_left
              · simp only [Act.put, List.setIfInBounds_toArray, List.set_cons_zero, List.set_cons_succ, i64_w, i32_w]
                rfl
              refine pure_ (i := 3) (N := some 76) (v := ?_) (a' := ?_) #[true, true, true, true, false, false] rfl rfl (any_of HT_.out (by kernel_rfl)) (fun _ _ _ h => h) (Or.inl ⟨by rfl, ?_⟩) ?_ ?_
              rotate_left
              · intro w'
                go_simp
                with_reducible rfl
              rotate_left
              · simp only [Act.put, List.setIfInBounds_toArray, List.set_cons_zero, List.set_cons_succ, i64_w, i32_w]
                rfl
              refine one_ (i := 4) (N := none) #[true, true, true, true, true, false] rfl rfl (one_of HT_.out (by kernel_rfl)) (by decide) (fun K hK => ?_)
              obtain ⟨s0, s1, s2, ⟨x0_, y0_, z0_, s3⟩, s4, s5⟩ := hHeld
              refine tok_step (by rfl) (.tmp 4) (.tmp 73) rfl rfl rfl rfl s3 ?_
              intro w9 h4_ hf_ hb_
              have h6_ := s4.far hf_ (Ne.symm N46.out)
              have hbb_ := s5.trans (hb_ _ G4.out)
              refine hK.out _ _ ⟨h6_.cells.1, h6_.cells.2.1, h6_.cells.2.2, ⟨_, _, _, h4_⟩, h6_, hbb_⟩ (fun hHeld => ?_)
              clear hK K
              refine pure_ (i := 5) (N := some 5) (v := ?_) (a' := ?_) #[true, true, true, true, true, true] rfl rfl (any_of HT_.out (by kernel_rfl)) (fun _ _ _ h => h) (Or.inl ⟨by rfl, ?_⟩) ?_ ?_
              rotate_left
              · intro w'
                go_simp
                with_reducible rfl
              rotate_left
              · simp only [Act.put, List.setIfInBounds_toArray, List.set_cons_zero, List.set_cons_succ, i64_w, i32_w]
                rfl
              refine done_ (done_of HT_.out (by kernel_rfl)) ?_
              go_wp2
              refine bodyPost_ret (tok_ret rfl rfl h4_) rfl ⟨rfl, hbb_⟩
          · have f3 : decide (0 ≤ q) = false := decide_eq_false k2
            have hR_ : (t1, t2) = R := by
              have h := HX.out
              rw [show 64 - k = (64 - (k + 1)) + 1 from by omega, bL, if_neg (fun h => k2 h.1)] at h
              exact h
            subst hR_
            clear HX hD
            go_wp2
            refine start_ (n := 6) (S := fun w' => w'.cell? ⟨g6, 0, none⟩ = some (.int .i64 0) ∧ w'.cell? ⟨g6, 1, none⟩ = some (.int .i64 t1) ∧ w'.cell? ⟨g6, 2, none⟩ = some (.int .i64 t2) ∧ (∃ x y z, Tok w' g4 x y z) ∧ Tok w' g6 0 t1 t2 ∧ Below w.heap.size w w') (ds := []) #[false, false, false, false, false, false] (by kernel_rfl) rfl rfl ⟨T6.out.cells.1, T6.out.cells.2.1, T6.out.cells.2.2, ⟨_, _, _, T4.out⟩, T6.out, below_drew1 HB.out⟩ (fun hHeld => ?_); refine with_tabW best12.tab best12.bits (fun HT_ HW_ => ?_)
            refine pure_ (i := 1) (N := some 74) (v := ?_) (a' := ?_) #[false, true, false, false, false, false] rfl rfl (any_of HT_.out (by kernel_rfl)) (fun _ _ _ h => h) (Or.inl ⟨by rfl, ?_⟩) ?_ ?_
            rotate_left
            · intro w'
              go_simp
              with_reducible rfl
            rotate_left
            · simp only [Act.put, List.setIfInBounds_toArray, List.set_cons_zero, List.set_cons_succ, i64_w, i32_w]
              rfl
            refine take_ (i := 0) (N := some 73) (v := ?_) (a' := ?_) #[true, true, false, false, false, false] rfl rfl (take_ofW HT_.out HW_.out (by kernel_rfl)) (fun _ _ _ h => h) (Or.inl ⟨by rfl, ?_⟩) hHeld ?_ ?_
            rotate_left
            · rintro w' ⟨s0, s1, s2, s3, s4, s5⟩
              go_simp
              with_reducible rfl
            rotate_left
            · simp only [Act.put, List.setIfInBounds_toArray, List.set_cons_zero, List.set_cons_succ, i64_w, i32_w]
              rfl
            refine take_ (i := 2) (N := some 75) (v := ?_) (a' := ?_) #[true, true, true, false, false, false] rfl rfl (take_ofW HT_.out HW_.out (by kernel_rfl)) (fun _ _ _ h => h) (Or.inl ⟨by rfl, ?_⟩) hHeld ?_ ?_
            rotate_left
            · rintro w' ⟨s0, s1, s2, s3, s4, s5⟩
              go_simp
              with_reducible rfl
            rotate_left
            · simp only [Act.put, List.setIfInBounds_toArray, List.set_cons_zero, List.set_cons_succ, i64_w, i32_w]
              rfl
            refine pure_ (i := 3) (N := some 76) (v := ?_) (a' := ?_) #[true, true, true, true, false, false] rfl rfl (any_of HT_.out (by kernel_rfl)) (fun _ _ _ h => h) (Or.inl ⟨by rfl, ?_⟩) ?_ ?_
            rotate_left
            · intro w'
              go_simp
              with_reducible rfl
            rotate_left
            · simp only [Act.put, List.setIfInBounds_toArray, List.set_cons_zero, List.set_cons_succ, i64_w, i32_w]
              rfl
            refine one_ (i := 4) (N := none) #[true, true, true, true, true, false] rfl rfl (one_of HT_.out (by kernel_rfl)) (by decide) (fun K hK => ?_)
            obtain ⟨s0, s1, s2, ⟨x0_, y0_, z0_, s3⟩, s4, s5⟩ := hHeld
            refine tok_step (by rfl) (.tmp 4) (.tmp 73) rfl rfl rfl rfl s3 ?_
            intro w9 h4_ hf_ hb_
            have h6_ := s4.far hf_ (Ne.symm N46.out)
            have hbb_ := s5.trans (hb_ _ G4.out)
            refine hK.out _ _ ⟨h6_.cells.1, h6_.cells.2.1, h6_.cells.2.2, ⟨_, _, _, h4_⟩, h6_, hbb_⟩ (fun hHeld => ?_)
            clear hK K
            refine pure_ (i := 5) (N := some 5) (v := ?_) (a' := ?_) #[true, true, true, true, true, true] rfl rfl (any_of HT_.out (by kernel_rfl)) (fun _ _ _ h => h) (Or.inl ⟨by rfl, ?_⟩) ?_ ?_
            rotate_left
            · intro w'
              go_simp
              with_reducible rfl
            rotate_left
            · simp only [Act.put, List.setIfInBounds_toArray, List.set_cons_zero, List.set_cons_succ, i64_w, i32_w]
              rfl
            refine done_ (done_of HT_.out (by kernel_rfl)) ?_
            go_wp2
            refine bodyPost_ret (tok_ret rfl rfl h4_) rfl ⟨rfl, hbb_⟩
        · have f1 : decide ((k : Int) < 64) = false := decide_eq_false (by omega)
          have f2 : decide (k < 64) = false := decide_eq_false k1
          have hR_ : (t1, t2) = R := by
            have h := HX.out
            rw [show 64 - k = 0 from by omega] at h
            exact h
          subst hR_
          clear HX hD
          go_wp2
          refine start_ (n := 6) (S := fun w' => w'.cell? ⟨g6, 0, none⟩ = some (.int .i64 0) ∧ w'.cell? ⟨g6, 1, none⟩ = some (.int .i64 t1) ∧ w'.cell? ⟨g6, 2, none⟩ = some (.int .i64 t2) ∧ (∃ x y z, Tok w' g4 x y z) ∧ Tok w' g6 0 t1 t2 ∧ Below w.heap.size w w') (ds := []) #[false, false, false, false, false, false] (by kernel_rfl) rfl rfl ⟨T6.out.cells.1, T6.out.cells.2.1, T6.out.cells.2.2, ⟨_, _, _, T4.out⟩, T6.out, below_drew1 HB.out⟩ (fun hHeld => ?_); refine with_tabW best12.tab best12.bits (fun HT_ HW_ => ?_)
          refine pure_ (i := 1) (N := some 74) (v := ?_) (a' := ?_) #[false, true, false, false, false, false] rfl rfl (any_of HT_.out (by kernel_rfl)) (fun _ _ _ h => h) (Or.inl ⟨by rfl, ?_⟩) ?_ ?_
          rotate_left
          · intro w'
            go_simp
            with_reducible rfl
          rotate_left
          · simp only [Act.put, List.setIfInBounds_toArray, List.set_cons_zero, List.set_cons_succ, i64_w, i32_w]
            rfl
          refine take_ (i := 0) (N := some 73) (v := ?_) (a' := ?_) #[true, true, false, false, false, false] rfl rfl (take_ofW HT_.out HW_.out (by kernel_rfl)) (fun _ _ _ h => h) (Or.inl ⟨by rfl, ?_⟩) hHeld ?_ ?_
          rotate_left
          · rintro w' ⟨s0, s1, s2, s3, s4, s5⟩
            go_simp
            with_reducible rfl
          rotate_left
          · simp only [Act.put, List.setIfInBounds_toArray, List.set_cons_zero, List.set_cons_succ, i64_w, i32_w]
            rfl
          refine take_ (i := 2) (N := some 75) (v := ?_) (a' := ?_) #[true, true, true, false, false, false] rfl rfl (take_ofW HT_.out HW_.out (by kernel_rfl)) (fun _ _ _ h => h) (Or.inl ⟨by rfl, ?_⟩) hHeld ?_ ?_
          rotate_left
          · rintro w' ⟨s0, s1, s2, s3, s4, s5⟩
            go_simp
            with_reducible rfl
          rotate_left
          · simp only [Act.put, List.setIfInBounds_toArray, List.set_cons_zero, List.set_cons_succ, i64_w, i32_w]
            rfl
          refine pure_ (i := 3) (N := some 76) (v := ?_) (a' := ?_) #[true, true, true, true, false, false] rfl rfl (any_of HT_.out (by kernel_rfl)) (fun _ _ _ h => h) (Or.inl ⟨by rfl, ?_⟩) ?_ ?_
          rotate_left
          · intro w'
            go_simp
            with_reducible rfl
          rotate_left
          · simp only [Act.put, List.setIfInBounds_toArray, List.set_cons_zero, List.set_cons_succ, i64_w, i32_w]
            rfl
          refine one_ (i := 4) (N := none) #[true, true, true, true, true, false] rfl rfl (one_of HT_.out (by kernel_rfl)) (by decide) (fun K hK => ?_)
          obtain ⟨s0, s1, s2, ⟨x0_, y0_, z0_, s3⟩, s4, s5⟩ := hHeld
          refine tok_step (by rfl) (.tmp 4) (.tmp 73) rfl rfl rfl rfl s3 ?_
          intro w9 h4_ hf_ hb_
          have h6_ := s4.far hf_ (Ne.symm N46.out)
          have hbb_ := s5.trans (hb_ _ G4.out)
          refine hK.out _ _ ⟨h6_.cells.1, h6_.cells.2.1, h6_.cells.2.2, ⟨_, _, _, h4_⟩, h6_, hbb_⟩ (fun hHeld => ?_)
          clear hK K
          refine pure_ (i := 5) (N := some 5) (v := ?_) (a' := ?_) #[true, true, true, true, true, true] rfl rfl (any_of HT_.out (by kernel_rfl)) (fun _ _ _ h => h) (Or.inl ⟨by rfl, ?_⟩) ?_ ?_
          rotate_left
          · intro w'
            go_simp
            with_reducible rfl
          rotate_left
          · simp only [Act.put, List.setIfInBounds_toArray, List.set_cons_zero, List.set_cons_succ, i64_w, i32_w]
            rfl
          refine done_ (done_of HT_.out (by kernel_rfl)) ?_
          go_wp2
          refine bodyPost_ret (tok_ret rfl rfl h4_) rfl ⟨rfl, hbb_⟩
end Go.Proofs.Ytoibcollkkjelaa.PkBest
