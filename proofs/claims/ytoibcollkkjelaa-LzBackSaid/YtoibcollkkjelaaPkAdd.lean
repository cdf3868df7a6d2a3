/- lz.chains' add: a place is noted. -/
import Derived.Test.YtoibcollkkjelaaPkAlike
import Derived.Test.YtoibcollkkjelaaPlain
import Derived.Test.YtoibcollkkjelaaOuts
namespace Go.Proofs.Ytoibcollkkjelaa.PkAdd
open Go.RowKit Go.Proofs.Ytoibcollkkjelaa.PLzGlue Go.Proofs.YtoibcollkkjelaaW.PrintWords Go.Proofs.YtoibcollkkjelaaW.PrintLast Go.Proofs.YtoibcollkkjelaaW.PrintMore Go.Proofs.Ytoibcollkkjelaa.PkMath Go.Proofs.Ytoibcollkkjelaa.PkMap Go.Proofs.Ytoibcollkkjelaa.PkAlike
set_option linter.unusedVariables false
set_option linter.unusedSimpArgs false

/-- The struct in block c: the text, its map in block bm, and the places ahead, behind n places. -/
def ChainV (w : World) (n0 c bm : Nat) (T : ByteArray) (n : Nat) (v : Value) : Prop :=
  w.heap[c]? = some (.cells #[.string T, .map (some bm), v] 46 (0, 0)) ∧ MapAt w bm (lastK T n) n ∧ Kd.R (Kd.int .i64) 3 w n0 (fun _ => True) v (aheadL T n) ∧ n0 ≤ c ∧ n0 ≤ bm
def Chain (w : World) (n0 c bm : Nat) (T : ByteArray) (n : Nat) : Prop := ∃ v : Value, ChainV w n0 c bm T n v
theorem heap_lt {w : World} {g : Nat} {o : Obj} (h : w.heap[g]? = some o) : g < w.heap.size := (Array.getElem?_eq_some_iff.1 h).1
theorem R3_move {w w1 : World} {base : Nat} {ok : Nat → Prop} {v : Value} {xs : List Int} (h : Kd.R (Kd.int .i64) 3 w base ok v xs) (hm : ∀ (k : Nat) (cells : Array Value), w.heap[k]? = some (.cells cells 3 (0, 0)) → w1.heap[k]? = w.heap[k]?) : Kd.R (Kd.int .i64) 3 w1 base ok v xs :=
  Kd.R_mono (Kd.R_move (Kd.R_bound h) (fun k hk => by
    obtain ⟨_, _, _, q, hq, cells, hc⟩ := hk
    have hq3 : q = 3 := by
      rcases List.mem_cons.1 hq with h | h
      · exact h
      · cases h
    subst hq3
    exact hm k cells hc)) (fun _ hk => hk.1)
theorem R30_move {w w1 : World} {base : Nat} {ok : Nat → Prop} {v : Value} {xs : List S30} (h : Kd.R k30 30 w base ok v xs) (hm : ∀ (k : Nat) (cells : Array Value), w.heap[k]? = some (.cells cells 30 (0, 0)) → w1.heap[k]? = w.heap[k]?) : Kd.R k30 30 w1 base ok v xs :=
  Kd.R_mono (Kd.R_move (Kd.R_bound h) (fun k hk => by
    obtain ⟨_, _, _, q, hq, cells, hc⟩ := hk
    have hq3 : q = 30 := by
      rcases List.mem_cons.1 hq with h | h
      · exact h
      · cases h
    subst hq3
    exact hm k cells hc)) (fun _ hk => hk.1)
theorem own3 {w : World} {base : Nat} {ok : Nat → Prop} {v : Value} {xs : List Int} (h : Kd.R (Kd.int .i64) 3 w base ok v xs) (k : Nat) (hk : v.ownBlock = some k) : ∃ cells, w.heap[k]? = some (.cells cells 3 (0, 0)) := by
  obtain ⟨_, inner, ho, _⟩ := h
  exact own_typed ho k hk
theorem ne_obj {w : World} {k j : Nat} {o p : Obj} (h : w.heap[k]? = some o) (h2 : w.heap[j]? = some p) (hne : o ≠ p) : k ≠ j := by
  rintro rfl
  exact hne (Option.some.inj (h.symm.trans h2))
theorem box3 {w : World} {c : Nat} {x y z : Value} (h : w.heap[c]? = some (.cells #[x, y, z] 46 (0, 0))) :
    w.cell? ⟨c, 0, none⟩ = some x ∧ w.cell? ⟨c, 1, none⟩ = some y ∧ w.cell? ⟨c, 2, none⟩ = some z := by
  unfold World.cell?
  simp only [h]
  simp
theorem froz3 {w : World} {c : Nat} {x y z : Value} (h : w.heap[c]? = some (.cells #[x, y, z] 46 (0, 0))) : w.frozen? ⟨c, 2, none⟩ = false := by
  unfold World.frozen?
  simp only [h]
  simp
theorem heap_set2 {w : World} {c : Nat} {x y z u : Value} (h : w.heap[c]? = some (.cells #[x, y, z] 46 (0, 0))) : (w.setCell ⟨c, 2, none⟩ u).heap[c]? = some (.cells #[x, y, u] 46 (0, 0)) := by
  exact Outs.heap_setCell_self w c 2 u h
theorem Chain.move {w w1 : World} {n0 c bm n : Nat} {T : ByteArray} (h : Chain w n0 c bm T n) (hm : ∀ k, k < w.heap.size → w1.heap[k]? = w.heap[k]?) : Chain w1 n0 c bm T n := by
  obtain ⟨v, h1, h2, h3, h4, h5⟩ := h
  obtain ⟨es, clock, hb⟩ := h2.obj
  exact ⟨v, (hm c (heap_lt h1)).trans h1, h2.move (hm bm (heap_lt hb)), R3_move h3 (fun k cells hk => hm k (heap_lt hk)), h4, h5⟩
/-- 'm[k] = v' at the operation. -/
theorem store_map {ops : Array Oper} {rest : List Oper} {o : Oper} {a : Act} {Q : Exit → Act → World → Prop} {w : World} {b n : Nat} {f : ByteArray → Option Nat} (hg : o.guard = none) (m x u : Operand) (hop : o.op = Op.mapUpdate 43 m x u)
    (hm : a.eval m = .map (some b)) (h : MapAt w b f n) (key : ByteArray) (hx : a.eval x = .string key) (hk : key.size ≤ maxLen) (v : Nat) (hu : a.eval u = .int .i64 (v : Int)) (hv : v ≤ 1000000) (hn : n ≤ 1000000)
    (hK : ∀ w', MapAt w' b (upd f key v) (n + 1) → w.grownBy w' (some b) → wpList Try.prog ops Q rest (a.put o.dst undef) w') : wpList Try.prog ops Q (o :: rest) a w := by
  refine wpList_plain hg fun K' hK' => ?_
  obtain ⟨w', hrun, r1, r2⟩ := h.store key hk v hv hn
  unfold Oper.wp
  simp [execOp, hop, hm, hx, hu, hrun, Result.andThen]
  exact hK' _ _ (hK w' r1 r2)
theorem info3 : (Try.prog.info? 3).map (fun i => (i.zero, i.size, i.bytes)) = some (some (.int .i64 0), 1, 8) := by kernel_rfl

/-- What add leaves. -/
def Added (w : World) (n0 c bm : Nat) (T : ByteArray) (n : Nat) (e : Ending) (w' : World) : Prop :=
  e = .returned (.tuple #[]) ∧ Chain w' n0 c bm T (n + 1) ∧ Below n0 w w' ∧ w.heap.size ≤ w'.heap.size ∧ ∀ (k : Nat) (cells : Array Value), w.heap[k]? = some (.cells cells 30 (0, 0)) → w'.heap[k]? = w.heap[k]?
/-- From the world ahead of the append (the map is written) to the end. -/
theorem added_end {w w1 w2 : World} {n0 c bm n : Nat} {T : ByteArray} {v v1 : Value} (hb01 : n0 ≤ w.heap.size) (h1 : w1.heap[c]? = some (.cells #[.string T, .map (some bm), v] 46 (0, 0))) (hm1 : MapAt w1 bm (lastK T (n + 1)) (n + 1)) (hv1 : Kd.R (Kd.int .i64) 3 w1 n0 (fun _ => True) v (aheadL T n)) (hc : n0 ≤ c) (hbm : n0 ≤ bm)
    (hb : Below n0 w w1) (hs : w.heap.size ≤ w1.heap.size) (h30 : ∀ (k : Nat) (cells : Array Value), w.heap[k]? = some (.cells cells 30 (0, 0)) → w1.heap[k]? = w.heap[k]?)
    (hr : Kd.R (Kd.int .i64) 3 w2 n0 (fun _ => True) v1 (aheadL T n ++ [bef T n])) (hb2 : Below n0 w w2) (hg : w1.grownBy w2 v.ownBlock) :
    w2.heap[c]? = some (.cells #[.string T, .map (some bm), v] 46 (0, 0)) ∧ Added w n0 c bm T n (.returned (.tuple #[])) (w2.setCell ⟨c, 2, none⟩ v1) := by
  have hne : ∀ k o, w1.heap[k]? = some o → (∀ cells : Array Value, o ≠ Obj.cells cells 3 (0, 0)) → w2.heap[k]? = w1.heap[k]? := fun k o hk ho => hg.block k (heap_lt hk) (fun e => by
    obtain ⟨cells, hcl⟩ := own3 hv1 k e.symm
    exact ho cells (Option.some.inj (hk.symm.trans hcl)))
  have h2 : w2.heap[c]? = some (.cells #[.string T, .map (some bm), v] 46 (0, 0)) := (hne c _ h1 (fun cells e => by simp at e)).trans h1
  obtain ⟨es, clock, hob⟩ := hm1.obj
  have hob2 : w2.heap[bm]? = some (.map es clock) := (hne bm _ hob (fun cells e => by cases e)).trans hob
  have hcb : bm ≠ c := ne_obj hob2 h2 (fun e => by cases e)
  refine ⟨h2, rfl, ⟨v1, heap_set2 h2, (hm1.move (hne bm _ hob (fun cells e => by cases e))).move (Below.heap_setCell _ _ _ _ hcb), ?_, hc, hbm⟩, hb2.setCell hc _, ?_, ?_⟩
  · rw [aheadL_succ]
    exact R3_move hr (fun k cells hk => Below.heap_setCell _ _ _ _ (ne_obj hk h2 (fun e => by simp at e)))
  · have : (w2.setCell ⟨c, 2, none⟩ v1).heap.size = w2.heap.size := by simp [World.setCell]
    rw [this]
    exact Nat.le_trans hs hg.size
  · intro k cells hk
    have hk1 := h30 k cells hk
    have e1 : w1.heap[k]? = some (.cells cells 30 (0, 0)) := hk1.trans hk
    have e2 := hne k _ e1 (fun cells e => by simp at e)
    have e3 : (w2.setCell ⟨c, 2, none⟩ v1).heap[k]? = w2.heap[k]? := Below.heap_setCell _ _ _ _ (ne_obj (e2.trans e1) h2 (fun e => by simp at e))
    exact e3.trans (e2.trans hk1)

theorem stored {w w1 : World} {n0 c bm n : Nat} {x y z v : Value} {xs : List Int} {f : ByteArray → Option Nat} (hm : MapAt w bm f n) (hh : w.heap[c]? = some (.cells #[x, y, z] 46 (0, 0))) (hv : Kd.R (Kd.int .i64) 3 w n0 (fun _ => True) v xs) (hg : w.grownBy w1 (some bm)) :
    w1.heap[c]? = some (.cells #[x, y, z] 46 (0, 0)) ∧ Kd.R (Kd.int .i64) 3 w1 n0 (fun _ => True) v xs ∧ ∀ (k : Nat) (cells : Array Value), w.heap[k]? = some (.cells cells 30 (0, 0)) → w1.heap[k]? = w.heap[k]? := by
  obtain ⟨es, clock, hob⟩ := hm.obj
  have hbl : ∀ (k : Nat) (cells : Array Value) (t : Nat), w.heap[k]? = some (.cells cells t (0, 0)) → w1.heap[k]? = w.heap[k]? := fun k cells t hk => hg.block k (heap_lt hk) (fun e => by
    injection e with e
    exact ne_obj hk hob (fun e2 => by cases e2) e)
  exact ⟨(hbl c _ _ hh).trans hh, R3_move hv (fun k cells hk => hbl k _ _ hk), fun k cells hk => hbl k _ _ hk⟩
set_option maxHeartbeats 8000000 in
set_option maxRecDepth 100000 in
theorem add_calls (T : ByteArray) (n0 c bm n : Nat) (w : World) (hch : Chain w n0 c bm T n) (hn : n ≤ T.size) (hT : T.size ≤ 1000000) (hb0 : n0 ≤ w.heap.size) :
    Calls Try.prog 21 #[.pointer (some ⟨c, 0, none⟩), .int .i64 (n : Int)] w (Added w n0 c bm T n) := by
  obtain ⟨v, h1, h2, h3, h4, h5⟩ := hch
  obtain ⟨c0, c1, c2⟩ := box3 h1
  have w3 : wrap64 ((n : Int) + 3) = ((n + 3 : Nat) : Int) := by unfold wrap64; omega
  obtain ⟨n3, hn3⟩ : ∃ n3, n + 3 = n3 := ⟨_, rfl⟩
  rw [hn3] at w3
  have HN := Aside0.mk (And.intro hn (And.intro hT hn3))
  have HB0 := Aside0.mk hb0
  have HC := Aside0.mk (And.intro h4 h5)
  have HM := Aside0.mk h2
  have HV := Aside0.mk h3
  have HH := Aside0.mk h1
  clear h1 h2 h3 h4 h5 hb0 hn hT
  by_cases c3 : n3 ≤ T.size
  · have d1 : decide ((n3 : Int) ≤ (T.size : Int)) = true := decide_eq_true (by omega)
    have d2 : decide (n3 ≤ T.size) = true := decide_eq_true c3
    have e1 : (0 ≤ (n : Int)) = True := eq_true (by omega)
    have e2 : ((n : Int) ≤ (n3 : Int)) = True := eq_true (by omega)
    have e3 : ((n3 : Int) ≤ (T.size : Int)) = True := eq_true (by omega)
    have e4 : (n ≤ n3) = True := eq_true (by omega)
    have e5 : (n3 ≤ T.size) = True := eq_true c3
    have hlk := HM.out.look (T.extract n n3) (by rw [ByteArray.size_extract]; unfold maxLen; have := HN.out; omega)
    have HL := Aside0.mk c3
    have HU := Aside0.mk (show ∀ k, upd (lastK T n) (T.extract n n3) n k = lastK T (n + 1) k by subst hn3; exact fun k => lastK_upd T n (by omega) k)
    cases hf : lastK T n (T.extract n n3) with
    | some p =>
      have HBF := Aside0.mk (show bef T n = (p : Int) by unfold bef; rw [if_pos (by omega), hn3, hf])
      rw [hf] at hlk
      simp only [valO, Option.isSome] at hlk
      clear hf hn3 c3
      go_enter Try.func21, Try.ntmps21
      go_wp2_with (first | (at_mapUpdate; refine store_map rfl _ _ _ rfl rfl HM.out (T.extract n n3) rfl (by rw [ByteArray.size_extract]; unfold maxLen; have := HN.out; omega) n rfl (by have := HN.out; omega) (by have := HN.out; omega) ?_; intro w1 hm_ hg_; have HM1 := Aside0.mk (hm_.congr HU.out (Nat.le_refl _)); obtain ⟨hs1_, hs2_, hs3_⟩ := stored HM.out HH.out HV.out hg_; have HH1 := Aside0.mk hs1_; have HV1 := Aside0.mk hs2_; have H301 := Aside0.mk hs3_; have HB1 := Aside0.mk ((Below.refl n0 w).grown hg_ HB0.out (fun j hj => by cases hj; exact HC.out.2)); have HS1 := Aside0.mk hg_.size; obtain ⟨y0, y1, y2⟩ := box3 HH1.out; clear hm_ hg_ hs1_ hs2_ hs3_) | ((with_reducible refine gate_builtin (b := .append) (xs := #[.tmp 45, .tmp 47]) rfl ?_); at_builtin; refine Kd.R_append (Kd.int .i64) (w0 := w) n0 rfl (.tmp 45) (.tmp 47) 44 3 (.int .i64 0) 8 rfl Try.underlying44 info3 rfl (by decide) (by omega) v (aheadL T n) (p : Int) [.int .i64 (p : Int)] (fun _ => True) (fun _ => False) rfl rfl rfl (fun _ hk => hk.elim) (fun _ _ => trivial) HV1.out ?aB ?aS ?aL ?_; (case aB => exact HB1.out); (case aS => exact (Nat.le_trans HB0.out HS1.out)); (case aL => rw [aheadL_len]; have := HN.out; omega); intro v1 w2 ho_ hb_ hg_ hat_; clear hat_; obtain ⟨A1_, cp1_, e1_⟩ := Kd.R_slice ho_; subst e1_; have HE := Aside0.mk (added_end HB0.out HH1.out HM1.out HV1.out HC.out.1 HC.out.2 HB1.out HS1.out H301.out (by rw [HBF.out]; exact ho_) hb_ hg_); obtain ⟨b0, b1, b2⟩ := box3 HE.out.1; have b3 := froz3 HE.out.1; clear ho_ hb_ hg_))
      go_end0
      have hz_ := HE.out.2
      rw [List.length_append, List.length_singleton] at hz_
      exact hz_
    | none =>
      have HBF := Aside0.mk (show bef T n = (-1 : Int) by unfold bef; rw [if_pos (by omega), hn3, hf])
      rw [hf] at hlk
      simp only [valO, Option.isSome] at hlk
      clear hf hn3 c3
      go_enter Try.func21, Try.ntmps21
      go_wp2_with (first | (at_mapUpdate; refine store_map rfl _ _ _ rfl rfl HM.out (T.extract n n3) rfl (by rw [ByteArray.size_extract]; unfold maxLen; have := HN.out; omega) n rfl (by have := HN.out; omega) (by have := HN.out; omega) ?_; intro w1 hm_ hg_; have HM1 := Aside0.mk (hm_.congr HU.out (Nat.le_refl _)); obtain ⟨hs1_, hs2_, hs3_⟩ := stored HM.out HH.out HV.out hg_; have HH1 := Aside0.mk hs1_; have HV1 := Aside0.mk hs2_; have H301 := Aside0.mk hs3_; have HB1 := Aside0.mk ((Below.refl n0 w).grown hg_ HB0.out (fun j hj => by cases hj; exact HC.out.2)); have HS1 := Aside0.mk hg_.size; obtain ⟨y0, y1, y2⟩ := box3 HH1.out; clear hm_ hg_ hs1_ hs2_ hs3_) | ((with_reducible refine gate_builtin (b := .append) (xs := #[.tmp 45, .tmp 47]) rfl ?_); at_builtin; refine Kd.R_append (Kd.int .i64) (w0 := w) n0 rfl (.tmp 45) (.tmp 47) 44 3 (.int .i64 0) 8 rfl Try.underlying44 info3 rfl (by decide) (by omega) v (aheadL T n) (-1 : Int) [.int .i64 (-1 : Int)] (fun _ => True) (fun _ => False) rfl rfl rfl (fun _ hk => hk.elim) (fun _ _ => trivial) HV1.out ?aB ?aS ?aL ?_; (case aB => exact HB1.out); (case aS => exact (Nat.le_trans HB0.out HS1.out)); (case aL => rw [aheadL_len]; have := HN.out; omega); intro v1 w2 ho_ hb_ hg_ hat_; clear hat_; obtain ⟨A1_, cp1_, e1_⟩ := Kd.R_slice ho_; subst e1_; have HE := Aside0.mk (added_end HB0.out HH1.out HM1.out HV1.out HC.out.1 HC.out.2 HB1.out HS1.out H301.out (by rw [HBF.out]; exact ho_) hb_ hg_); obtain ⟨b0, b1, b2⟩ := box3 HE.out.1; have b3 := froz3 HE.out.1; clear ho_ hb_ hg_))
      go_end0
      have hz_ := HE.out.2
      rw [List.length_append, List.length_singleton] at hz_
      exact hz_
  · have d1 : decide ((n3 : Int) ≤ (T.size : Int)) = false := decide_eq_false (by omega)
    have d2 : decide (n3 ≤ T.size) = false := decide_eq_false c3
    have HBF := Aside0.mk (show bef T n = (-1 : Int) by unfold bef; rw [if_neg (by omega)])
    have HM1 := Aside0.mk (HM.out.congr (fun k => lastK_same T n (by have := HN.out; omega) k) (Nat.le_succ n))
    clear hn3 c3
    go_enter Try.func21, Try.ntmps21
    go_wp2_with (first | ((with_reducible refine gate_builtin (b := .append) (xs := #[.tmp 45, .tmp 47]) rfl ?_); at_builtin; refine Kd.R_append (Kd.int .i64) (w0 := w) n0 rfl (.tmp 45) (.tmp 47) 44 3 (.int .i64 0) 8 rfl Try.underlying44 info3 rfl (by decide) (by omega) v (aheadL T n) (-1 : Int) [.int .i64 (-1 : Int)] (fun _ => True) (fun _ => False) rfl rfl rfl (fun _ hk => hk.elim) (fun _ _ => trivial) HV.out ?aB ?aS ?aL ?_; (case aB => exact (Below.refl _ _)); (case aS => exact HB0.out); (case aL => rw [aheadL_len]; have := HN.out; omega); intro v1 w2 ho_ hb_ hg_ hat_; clear hat_; obtain ⟨A1_, cp1_, e1_⟩ := Kd.R_slice ho_; subst e1_; have HE := Aside0.mk (added_end HB0.out HH.out HM1.out HV.out HC.out.1 HC.out.2 (Below.refl _ _) (Nat.le_refl _) (fun _ _ _ => rfl) (by rw [HBF.out]; exact ho_) hb_ hg_); obtain ⟨b0, b1, b2⟩ := box3 HE.out.1; have b3 := froz3 HE.out.1; clear ho_ hb_ hg_))
    go_end0
    have hz_ := HE.out.2
    rw [List.length_append, List.length_singleton] at hz_
    exact hz_
end Go.Proofs.Ytoibcollkkjelaa.PkAdd
