/- lz.Pack: the tokens that it makes of a text. -/
import Derived.Test.YtoibcollkkjelaaPkBest
import Derived.Test.YtoibcollkkjelaaExp
namespace Go.Proofs.Ytoibcollkkjelaa.PkPack
open Go.RowKit Go.Proofs.Ytoibcollkkjelaa.PLzGlue Go.Proofs.YtoibcollkkjelaaW.PrintWords Go.Proofs.YtoibcollkkjelaaW.PrintLast Go.Proofs.YtoibcollkkjelaaW.PrintMore Go.Proofs.Ytoibcollkkjelaa.PkMath Go.Proofs.Ytoibcollkkjelaa.PkMap Go.Proofs.Ytoibcollkkjelaa.PkAlike Go.Proofs.Ytoibcollkkjelaa.PkAdd Go.Proofs.Ytoibcollkkjelaa.PkBest
open Go.Proofs.Ytoibcollkkjelaa.Spec (tail tail_size)
attribute [local go_sem] max2_int min2_int max_two min_two max_three min_three max_four min_four
set_option linter.unusedVariables false
set_option linter.unusedSimpArgs false

theorem chain_text {w : World} {n0 c bm n : Nat} {T : ByteArray} (h : Chain w n0 c bm T n) : w.cell? ⟨c, 0, none⟩ = some (.string T) := by
  obtain ⟨v, h1, _⟩ := h
  exact (box3 h1).1
theorem chain_below {w w1 : World} {n0 c bm n : Nat} {T : ByteArray} (h : Chain w n0 c bm T n) (hb : Below w.heap.size w w1) : Chain w1 n0 c bm T n := h.move (fun k hk => hb.block k hk)
/-- All blocks that hold no tokens stay. -/
theorem chain_keep30 {w w1 : World} {n0 c bm n : Nat} {T : ByteArray} (h : Chain w n0 c bm T n) (hm : ∀ (k : Nat) (o : Obj), w.heap[k]? = some o → (∀ cells : Array Value, o ≠ .cells cells 30 (0, 0)) → w1.heap[k]? = w.heap[k]?) : Chain w1 n0 c bm T n := by
  obtain ⟨v, h1, h2, h3, h4, h5⟩ := h
  obtain ⟨es, clock, hb⟩ := h2.obj
  exact ⟨v, (hm c _ h1 (fun cells e => by simp at e)).trans h1, h2.move (hm bm _ hb (fun cells e => by cases e)), R3_move h3 (fun k cells hk => hm k _ hk (fun cells e => by simp at e)), h4, h5⟩
theorem chain_tok {w w1 : World} {n0 c bm n g : Nat} {T : ByteArray} {x y z : Int} (h : Chain w n0 c bm T n) (ht : Tok w g x y z) (hf : ∀ j, j ≠ g → w1.heap[j]? = w.heap[j]?) : Chain w1 n0 c bm T n :=
  chain_keep30 h (fun k o hk ho => hf k (fun e => by subst e; exact ho _ (Option.some.inj (hk.symm.trans ht))))
theorem own30 {w : World} {base : Nat} {ok : Nat → Prop} {v : Value} {xs : List S30} (h : Kd.R k30 30 w base ok v xs) (k : Nat) (hk : v.ownBlock = some k) : (∃ cells, w.heap[k]? = some (.cells cells 30 (0, 0))) ∧ k < w.heap.size := by
  obtain ⟨_, inner, ho, _⟩ := h
  obtain ⟨cells, hc⟩ := own_typed ho k hk
  exact ⟨⟨cells, hc⟩, heap_lt hc⟩
theorem chain_grown {w w1 : World} {n0 c bm n base : Nat} {T : ByteArray} {ok : Nat → Prop} {v : Value} {xs : List S30} (h : Chain w n0 c bm T n) (hv : Kd.R k30 30 w base ok v xs) (hg : w.grownBy w1 v.ownBlock) : Chain w1 n0 c bm T n :=
  chain_keep30 h (fun k o hk ho => hg.block k (heap_lt hk) (fun e => by
    obtain ⟨⟨cells, hc⟩, _⟩ := own30 hv k e.symm
    exact ho cells (Option.some.inj (hk.symm.trans hc))))
/-- A new map. -/
theorem map_event {ops : Array Oper} {rest : List Oper} {o : Oper} {a : Act} {Q : Exit → Act → World → Prop} {W : World} (hgd : o.guard = none) {N : Tmp} (_hd : o.dst = some N)
    (hrun : (execOp a.eval o).run Try.prog W = .ok (.value (.map (some W.heap.size))) (W.alloc (.map #[] 0)))
    (h : ∀ b w1, MapAt w1 b (fun _ => none) 0 → W.heap.size ≤ b → Below W.heap.size W w1 → wpList Try.prog ops Q rest (a.put o.dst (.map (some b))) w1) : wpList Try.prog ops Q (o :: rest) a W :=
  Kd.event_run hgd hrun (h _ _ (MapAt.made W) (Nat.le_refl _) (below_alloc (Below.refl _ _) _))
/-- How much is at hand does not matter, if it is enough. -/
theorem pkL_fuel (T : ByteArray) (f g b : Nat) (hb : b ≤ T.size) (hf : T.size ≤ b + f) (hg : T.size ≤ b + g) : pkL T f b = pkL T g b := by
  induction f generalizing b g with
  | zero =>
    cases g with
    | zero => rfl
    | succ g => rw [pkL, pkL, if_neg (by omega)]
  | succ f ih =>
    cases g with
    | zero => rw [pkL, pkL, if_neg (by omega)]
    | succ g =>
      rw [pkL, pkL]
      by_cases h : b < T.size
      · have hs := stp_range T b h
        rw [if_pos h, if_pos h, ih g (b + stp T b) (by omega) (by omega) (by omega)]
      · rw [if_neg h, if_neg h]
theorem pkL_next (T : ByteArray) (b m : Nat) (t : S30) (hb : b < T.size) (ht : tok T b = t) (hm : stp T b = m) : pkL T (T.size - b) b = t :: pkL T (T.size - (b + m)) (b + m) := by
  have hs := stp_range T b hb
  obtain ⟨f, hf⟩ : ∃ f, T.size - b = f + 1 := ⟨T.size - b - 1, by omega⟩
  rw [hf, pkL, if_pos hb, ht, hm, pkL_fuel T f (T.size - (b + m)) (b + m) (by omega) (by omega) (by omega)]
theorem info30b : (Try.prog.info? 30).map (fun i => (i.zero, i.size, i.bytes)) = some (some (.agg #[.int .i64 0, .int .i64 0, .int .i64 0]), 3, 24) := by kernel_rfl
/-- What Pack answers. -/
def Packed (w : World) (ts : List S30) (e : Ending) (w' : World) : Prop := ∃ A c, e = .returned (.slice A ts.length c) ∧ Kd.R k30 30 w' w.heap.size (fun _ => True) (.slice A ts.length c) ts ∧ Below w.heap.size w w'

set_option maxHeartbeats 16000000 in
set_option maxRecDepth 100000 in
theorem pack_calls (win s : ByteArray) (w : World) (hw : win.size ≤ 140737488355328) (hs : s.size ≤ 100000) : Calls Try.prog 19 #[.string win, .string s] w (Packed w (pkL (tail win ++ s) s.size (tail win).size)) := by
  have hu30 := Try.underlying30
  have hu46 := Try.underlying46
  have hmm := @run_makeMap Try.prog
  obtain ⟨R, hR⟩ : ∃ R, pkL (tail win ++ s) s.size (tail win).size = R := ⟨_, rfl⟩
  rw [hR]
  have ht := tail_size win
  have hTs : (tail win ++ s).size = (tail win).size + s.size := ByteArray.size_append
  have e8 : (9223372036854775807 < (tail win).size + s.size) = False := eq_false (by omega)
  obtain ⟨T, hT⟩ : ∃ T, tail win ++ s = T := ⟨_, rfl⟩
  obtain ⟨L, hL⟩ : ∃ L, (tail win).size = L := ⟨_, rfl⟩
  have e9 : (9223372036854775807 < L + s.size) = False := by rw [← hL]; exact e8
  have HW := Aside0.mk hw
  have HT := Aside0.mk hT
  rw [hT, hL] at hR hTs
  have HR := Aside0.mk (show ([] : List S30) ++ pkL T (T.size - L) L = R by rw [← hR, hTs, show L + s.size - L = s.size from by omega]; rfl)
  have HZ := Aside0.mk (And.intro (show T.size ≤ 200000 by omega) (show L ≤ T.size by omega))
  have HB := Aside0.mk (Below.refl w.heap.size w)
  clear hR hTs ht hw hs
  go_enter Try.func19, Try.ntmps19
  go_wp2_with (first | (go_at_call 16; (with_reducible refine (Exp.tail_calls win _ HW.out).mono ?_); rintro e w1 ⟨rfl, hb⟩; have nb_ := Aside0.mk (below_step HB.out hb); clear HB; have HB := nb_; clear nb_ hb) | ((with_reducible refine gate_dst (N := 17) rfl ?_); refine map_event rfl (N := 17) rfl ?hr ?_; (case hr => first | (go_simp; done) | (go_simp; rfl)); intro bm w2 hm hbm hb; have HM := Aside0.mk hm; have HBM := Aside0.mk (Nat.le_trans HB.out.size hbm); clear hm hbm; have nb_ := Aside0.mk (below_step HB.out hb); clear HB; have HB := nb_; clear nb_ hb) | ((with_reducible refine gate_dst (N := 19) rfl ?_); refine box_event rfl (N := 19) rfl (cs := #[.string T, .map (some bm), .slice none 0 0]) (t := 46) ?hr ?_; (case hr => first | (go_simp; done) | (go_simp; rfl)); intro c hc w3 hx hb; obtain ⟨es_, ck_, hob_⟩ := HM.out.obj; have HC := Aside0.mk (show Chain w3 w.heap.size c bm T 0 from ⟨_, hx, (HM.out.move (hb.block bm (heap_lt hob_))).congr (fun k => rfl) (Nat.le_refl _), Kd.R_nil _ _ _ _ _, by have := HB.out.size; omega, HBM.out⟩); clear hx hob_ hc HM; have nb_ := Aside0.mk (below_step HB.out hb); clear HB; have HB := nb_; clear nb_ hb))
  clear hT e8 e9 hmm
  have HZ2 := Aside0.mk (show T.size ≤ 1000000 by have := HZ.out; omega)
  go_loopg [22] L (fun g v22 wr => ∃ (i : Nat), v22 = .int .i64 (i : Int) ∧ Aside0 (g = L - i ∧ i ≤ L) ∧ Aside0 (Chain wr w.heap.size c bm T i) ∧ Aside0 (Below w.heap.size w wr))
  case atStart => exact ⟨0, rfl, ⟨by omega, by omega⟩, HC, HB⟩
  case round =>
    clear HC HB
    obtain ⟨i, rfl, HG, HC, HB⟩ := hrel
    by_cases hi : i < L
    · have d0 : decide ((i : Int) < (L : Int)) = true := decide_eq_true (by omega)
      have d1 : decide (i < L) = true := decide_eq_true hi
      have HI := Aside0.mk hi
      clear hi
      go_wp2_with (first | (go_at_call 21; (with_reducible refine (add_calls T w.heap.size c bm i _ HC.out (by have := HZ.out; have := HG.out; omega) HZ2.out HB.out.size).mono ?_); rintro e w5 ⟨rfl, hch_, hb_, hs_, h30_⟩; have nc_ := Aside0.mk hch_; have nb_ := Aside0.mk (HB.out.trans hb_); clear HC HB hch_ hb_ hs_ h30_; have HC := nc_; have HB := nb_; clear nc_ nb_))
      go_roundg (L - (i + 1))
      case measure => have := HG.out; have := HI.out; omega
      case rel => exact ⟨i + 1, wrap_succ i (by have := HZ.out; have := HG.out; omega), ⟨rfl, by have := HI.out; omega⟩, HC, HB⟩
    · have d0 : decide ((i : Int) < (L : Int)) = false := decide_eq_false (by omega)
      have d1 : decide (i < L) = false := decide_eq_false hi
      have hiL : i = L := by have := HG.out; omega
      subst hiL
      clear hi HG
      go_wp2
      go_loopg [8, 9] (T.size - i) (fun g v8 v9 wr => ∃ (k : Nat) (ts : List S30), v9 = .int .i64 (k : Int) ∧ Aside0 (g = T.size - k ∧ k ≤ T.size) ∧ Aside0 (Chain wr w.heap.size c bm T k) ∧ Aside0 (Kd.R k30 30 wr w.heap.size (fun _ => True) v8 ts) ∧ Aside0 (ts ++ pkL T (T.size - k) k = R ∧ ts.length ≤ k) ∧ Aside0 (Below w.heap.size w wr))
      case atStart => exact ⟨i, [], rfl, ⟨by have := HZ.out; omega, HZ.out.2⟩, HC, ⟨Kd.R_nil _ _ _ _ _⟩, ⟨HR.out, Nat.zero_le _⟩, HB⟩
      case round =>
        clear HC HB HR d0 d1
        obtain ⟨k, ts, rfl, HG, HC, HL, HR, HB⟩ := hrel
        obtain ⟨A8, c8, e8⟩ := Kd.R_slice HL.out
        subst e8
        have c0 := chain_text HC.out
        by_cases hk : k < T.size
        · skip
          have d0 : decide ((k : Int) < (T.size : Int)) = true := decide_eq_true (by omega)
          have d1 : decide (k < T.size) = true := decide_eq_true hk
          obtain ⟨B1, hB1⟩ : ∃ x, (bestP T k).1 = x := ⟨_, rfl⟩
          obtain ⟨B2, hB2⟩ : ∃ x, (bestP T k).2 = x := ⟨_, rfl⟩
          have hbr := bestP_range T k (by omega)
          rw [hB1] at hbr
          have HP1 := Aside0.mk hB1
          have HP2 := Aside0.mk hB2
          have HK := Aside0.mk hk
          by_cases h3 : 3 ≤ B1
          · skip
            have d2 : decide (3 ≤ B1) = true := decide_eq_true h3
            have HD := Aside0.mk d2
            obtain ⟨m, hm⟩ : ∃ m : Nat, B1.toNat = m := ⟨_, rfl⟩
            have hm2 : B1 = (m : Int) := by omega
            have fM : (if B1 < 1 then 1 else B1) = (m : Int) := by rw [if_neg (by omega)]; exact hm2
            have hst : stp T k = m := by unfold stp; rw [if_pos (by rw [hB1]; exact h3), hB1]; exact hm
            have htk : tok T k = ⟨0, B1, B2⟩ := by unfold tok; rw [if_pos (by rw [hB1]; exact h3), hB1, hB2]
            have HRN := Aside0.mk (show (ts ++ [(⟨0, B1, B2⟩ : S30)]) ++ pkL T (T.size - (k + m)) (k + m) = R by rw [List.append_assoc, List.singleton_append, ← pkL_next T k m _ hk htk hst]; exact HR.out.1)
            have HMM := Aside0.mk (show 1 ≤ m ∧ k + m ≤ T.size by omega)
            clear hB1 hB2 hbr hk hm hm2 hst htk h3
            go_wp2_with (first | (go_at_call 22; (with_reducible refine (best_calls T w.heap.size c bm k _ HC.out (Nat.le_of_lt HK.out) HZ2.out).mono ?_); rw [HP1.out, HP2.out, HD.out]; rintro e w5 ⟨rfl, hb⟩; have nl_ := Aside0.mk (Kd.R_below HL.out hb); clear HL; have HL := nl_; clear nl_; have nc_ := Aside0.mk (chain_below HC.out hb); have nb_ := Aside0.mk (below_step HB.out hb); clear c0 HC HB; have HC := nc_; have HB := nb_; clear nc_ nb_; have c0 := chain_text HC.out; clear hb) | ((with_reducible refine gate_dst (N := 10) rfl ?_); refine box_event rfl (N := 10) rfl (cs := #[.int .i64 0, .int .i64 0, .int .i64 0]) (t := 30) ?hr ?_; (case hr => first | (go_simp; done) | (go_simp; rfl)); intro g hg w6 hx hb; have T10 := Aside0.mk (show Tok w6 g 0 0 0 from hx); have G10 := Aside0.mk (show w.heap.size ≤ g by have := HB.out.size; omega); have NV := Aside0.mk (show ∀ q, (Value.slice A8 ts.length c8).ownBlock = some q → q < g from fun q hq => by rw [hg]; exact (own30 HL.out q hq).2); have nl_ := Aside0.mk (Kd.R_below (Kd.R_elderB HL.out g (by omega)) hb); clear HL; have HL := nl_; clear nl_; have nc_ := Aside0.mk (chain_below HC.out hb); have nb_ := Aside0.mk (below_step HB.out hb); clear c0 HC HB; have HC := nc_; have HB := nb_; clear nc_ nb_; have c0 := chain_text HC.out; clear hb hg hx) | ((with_reducible refine gate_store (t := 30) (p := 10) rfl ?_); refine tok_store (x1 := 0) (y1 := B1) (z1 := B2) rfl (.tmp 10) (.tmp 42) rfl rfl rfl ?hx T10.out ?_; (case hx => rfl); intro w7 h7_ hf_ hb_; have n1_ := Aside0.mk h7_; have nc_ := Aside0.mk (chain_tok HC.out T10.out hf_); have nl_ := Aside0.mk (Kd.R_move HL.out (fun q hq => hf_ q hq.2)); have nb_ := Aside0.mk (HB.out.trans (hb_ _ G10.out)); (try clear bx0 bx1 bx2); clear c0 T10 HC HL HB h7_ hf_ hb_; have T10 := n1_; have HC := nc_; have HL := nl_; have HB := nb_; clear n1_ nc_ nl_ nb_; have c0 := chain_text HC.out; obtain ⟨bx0, bx1, bx2⟩ := T10.out.cells) | ((with_reducible refine gate_builtin (b := .append) (xs := #[.tmp 54, .tmp 56]) rfl ?_); at_builtin; refine Kd.R_append k30 (w0 := w) w.heap.size rfl (.tmp 54) (.tmp 56) 22 30 (.agg #[.int .i64 0, .int .i64 0, .int .i64 0]) 24 rfl Try.underlying22 info30b rfl (by decide) (by omega) (.slice A8 ts.length c8) ts (⟨0, B1, B2⟩ : S30) [.int .i64 (0), .int .i64 (B1), .int .i64 (B2)] (fun _ => True) (fun _ => False) rfl rfl ?aP (fun _ hk => hk.elim) (fun _ _ => trivial) ?aO HB.out HB.out.size ?aL ?_; (case aP => exact k30_mkM _ _ _ (⟨0, B1, B2⟩ : S30)); (case aO => exact Kd.R_mono HL.out (fun _ _ => trivial)); (case aL => have := HR.out.2; have := HZ2.out; have := HK.out; omega); intro v8 w8 ho_ hb_ hg_ hat_; clear hat_; obtain ⟨A9, c9, e9_⟩ := Kd.R_slice ho_; subst e9_; have n1_ := Aside0.mk (show Tok w8 g _ _ _ from blk_grown T10.out hg_ (fun e => by have := NV.out g e.symm; omega)); have nc_ := Aside0.mk (chain_grown HC.out HL.out hg_); have nl_ := Aside0.mk ho_; have nb_ := Aside0.mk hb_; clear c0 bx0 bx1 bx2 T10 HC HL HB NV ho_ hb_ hg_; have T10 := n1_; have HC := nc_; have HL := nl_; have HB := nb_; clear n1_ nc_ nl_ nb_; obtain ⟨bx0, bx1, bx2⟩ := T10.out.cells))
            go_loopg [9, 61] m (fun g v9 v61 wr => ∃ (j n : Nat), v61 = .int .i64 (j : Int) ∧ v9 = .int .i64 (n : Int) ∧ Aside0 (g = m - j ∧ j ≤ m ∧ n = k + j) ∧ Aside0 (Chain wr w.heap.size c bm T n) ∧ Aside0 (Kd.R k30 30 wr w.heap.size (fun _ => True) (.slice A9 (ts ++ [(⟨0, B1, B2⟩ : S30)]).length c9) (ts ++ [(⟨0, B1, B2⟩ : S30)])) ∧ Aside0 (Below w.heap.size w wr))
            case atStart => exact ⟨0, k, rfl, rfl, ⟨by omega, by omega, rfl⟩, HC, HL, HB⟩
            case round =>
              clear HC HL HB T10 bx0 bx1 bx2
              obtain ⟨j, n, rfl, rfl, HJ, HC, HL, HB⟩ := hrel
              by_cases hj : j < m
              · have f0 : decide ((j : Int) < (m : Int)) = true := decide_eq_true (by omega)
                have f1 : decide (j < m) = true := decide_eq_true hj
                have HJ2 := Aside0.mk hj
                clear hj
                go_wp2_with (first | (go_at_call 21; (with_reducible refine (add_calls T w.heap.size c bm n _ HC.out (by have := HMM.out; have := HJ2.out; have := HJ.out; omega) HZ2.out HB.out.size).mono ?_); rintro e w5 ⟨rfl, hch_, hb_, hs_, h30_⟩; have nc_ := Aside0.mk hch_; have nb_ := Aside0.mk (HB.out.trans hb_); have nl_ := Aside0.mk (R30_move HL.out h30_); clear HL; have HL := nl_; clear nl_; clear HC HB hch_ hb_ hs_ h30_; have HC := nc_; have HB := nb_; clear nc_ nb_))
                go_roundg (m - (j + 1))
                case measure => have := HJ.out; have := HJ2.out; omega
                case rel => exact ⟨j + 1, n + 1, wrap_succ j (by have := HMM.out; have := HZ.out; have := HJ2.out; omega), wrap_succ n (by have := HMM.out; have := HZ.out; have := HJ2.out; have := HJ.out; omega), ⟨rfl, by have := HJ2.out; omega, by have := HJ.out; omega⟩, HC, HL, HB⟩
              · have f0 : decide ((j : Int) < (m : Int)) = false := decide_eq_false (by omega)
                have f1 : decide (j < m) = false := decide_eq_false hj
                have hjm : m = j := by have := HJ.out; omega
                subst hjm
                have hnk : k + m = n := by have := HJ.out; omega
                subst hnk
                clear hj
                go_wp2
                have hl_ := HL.out
                rw [List.length_append, List.length_singleton] at hl_
                clear HL
                have HL := Aside0.mk hl_
                go_roundg (T.size - (k + m))
                case measure => have := HG.out; have := HK.out; have := HMM.out; omega
                case rel => exact ⟨k + m, ts ++ [(⟨0, B1, B2⟩ : S30)], rfl, ⟨rfl, HMM.out.2⟩, HC, HL, ⟨HRN.out, by have := HR.out.2; have := HMM.out; rw [List.length_append, List.length_singleton]; omega⟩, HB⟩
          · skip
            have d2 : decide (3 ≤ B1) = false := decide_eq_false h3
            have HD := Aside0.mk d2
            obtain ⟨X, hX⟩ : ∃ X, bt T (k : Int) = X := ⟨_, rfl⟩
            have hXr : 0 ≤ X ∧ X ≤ 255 := by rw [← hX]; exact PkMath.bt_range _ _
            have pX : ∀ h : k < T.size, ((T[k]'h).toNat : Int) = X := fun h => by rw [← hX]; exact bt_nat T k h
            have wX : wrap64 X = X := by unfold wrap64; omega
            have p1 : (0 ≤ (k : Int)) = True := eq_true (by omega)
            have p2 : ((k : Int) < (T.size : Int)) = True := eq_true (by omega)
            have p3 : (k < T.size) = True := eq_true hk
            have hst : stp T k = 1 := by unfold stp; rw [if_neg (by rw [hB1]; exact h3)]
            have htk : tok T k = ⟨X, 0, 0⟩ := by unfold tok; rw [if_neg (by rw [hB1]; exact h3), hX]
            have HRN := Aside0.mk (show (ts ++ [(⟨X, 0, 0⟩ : S30)]) ++ pkL T (T.size - (k + 1)) (k + 1) = R by rw [List.append_assoc, List.singleton_append, ← pkL_next T k 1 _ hk htk hst]; exact HR.out.1)
            have HMM := Aside0.mk (show 1 ≤ 1 ∧ k + 1 ≤ T.size by omega)
            clear hB1 hB2 hbr hk hst htk h3 hX hXr
            go_wp2_with (first | (go_at_call 22; (with_reducible refine (best_calls T w.heap.size c bm k _ HC.out (Nat.le_of_lt HK.out) HZ2.out).mono ?_); rw [HP1.out, HP2.out, HD.out]; rintro e w5 ⟨rfl, hb⟩; have nl_ := Aside0.mk (Kd.R_below HL.out hb); clear HL; have HL := nl_; clear nl_; have nc_ := Aside0.mk (chain_below HC.out hb); have nb_ := Aside0.mk (below_step HB.out hb); clear c0 HC HB; have HC := nc_; have HB := nb_; clear nc_ nb_; have c0 := chain_text HC.out; clear hb) | ((with_reducible refine gate_dst (N := 10) rfl ?_); refine box_event rfl (N := 10) rfl (cs := #[.int .i64 0, .int .i64 0, .int .i64 0]) (t := 30) ?hr ?_; (case hr => first | (go_simp; done) | (go_simp; rfl)); intro g hg w6 hx hb; have T10 := Aside0.mk (show Tok w6 g 0 0 0 from hx); have G10 := Aside0.mk (show w.heap.size ≤ g by have := HB.out.size; omega); have NV := Aside0.mk (show ∀ q, (Value.slice A8 ts.length c8).ownBlock = some q → q < g from fun q hq => by rw [hg]; exact (own30 HL.out q hq).2); have nl_ := Aside0.mk (Kd.R_below (Kd.R_elderB HL.out g (by omega)) hb); clear HL; have HL := nl_; clear nl_; have nc_ := Aside0.mk (chain_below HC.out hb); have nb_ := Aside0.mk (below_step HB.out hb); clear c0 HC HB; have HC := nc_; have HB := nb_; clear nc_ nb_; have c0 := chain_text HC.out; clear hb hg hx) | ((with_reducible refine gate_store (t := 30) (p := 10) rfl ?_); refine tok_store (x1 := 0) (y1 := B1) (z1 := B2) rfl (.tmp 10) (.tmp 42) rfl rfl rfl ?hx T10.out ?_; (case hx => rfl); intro w7 h7_ hf_ hb_; have n1_ := Aside0.mk h7_; have nc_ := Aside0.mk (chain_tok HC.out T10.out hf_); have nl_ := Aside0.mk (Kd.R_move HL.out (fun q hq => hf_ q hq.2)); have nb_ := Aside0.mk (HB.out.trans (hb_ _ G10.out)); (try clear bx0 bx1 bx2); clear c0 T10 HC HL HB h7_ hf_ hb_; have T10 := n1_; have HC := nc_; have HL := nl_; have HB := nb_; clear n1_ nc_ nl_ nb_; have c0 := chain_text HC.out; obtain ⟨bx0, bx1, bx2⟩ := T10.out.cells) | ((with_reducible refine gate_store (t := 30) (p := 10) rfl ?_); refine tok_store (x1 := X) (y1 := 0) (z1 := 0) rfl (.tmp 10) (.tmp 53) rfl rfl rfl ?hx T10.out ?_; (case hx => first | rfl | (simp [Act.eval, wX])); intro w7 h7_ hf_ hb_; have n1_ := Aside0.mk h7_; have nc_ := Aside0.mk (chain_tok HC.out T10.out hf_); have nl_ := Aside0.mk (Kd.R_move HL.out (fun q hq => hf_ q hq.2)); have nb_ := Aside0.mk (HB.out.trans (hb_ _ G10.out)); (try clear bx0 bx1 bx2); clear c0 T10 HC HL HB h7_ hf_ hb_; have T10 := n1_; have HC := nc_; have HL := nl_; have HB := nb_; clear n1_ nc_ nl_ nb_; have c0 := chain_text HC.out; obtain ⟨bx0, bx1, bx2⟩ := T10.out.cells) | ((with_reducible refine gate_builtin (b := .append) (xs := #[.tmp 54, .tmp 56]) rfl ?_); at_builtin; refine Kd.R_append k30 (w0 := w) w.heap.size rfl (.tmp 54) (.tmp 56) 22 30 (.agg #[.int .i64 0, .int .i64 0, .int .i64 0]) 24 rfl Try.underlying22 info30b rfl (by decide) (by omega) (.slice A8 ts.length c8) ts (⟨X, 0, 0⟩ : S30) [.int .i64 (X), .int .i64 (0), .int .i64 (0)] (fun _ => True) (fun _ => False) rfl rfl ?aP (fun _ hk => hk.elim) (fun _ _ => trivial) ?aO HB.out HB.out.size ?aL ?_; (case aP => exact k30_mkM _ _ _ (⟨X, 0, 0⟩ : S30)); (case aO => exact Kd.R_mono HL.out (fun _ _ => trivial)); (case aL => have := HR.out.2; have := HZ2.out; have := HK.out; omega); intro v8 w8 ho_ hb_ hg_ hat_; clear hat_; obtain ⟨A9, c9, e9_⟩ := Kd.R_slice ho_; subst e9_; have n1_ := Aside0.mk (show Tok w8 g _ _ _ from blk_grown T10.out hg_ (fun e => by have := NV.out g e.symm; omega)); have nc_ := Aside0.mk (chain_grown HC.out HL.out hg_); have nl_ := Aside0.mk ho_; have nb_ := Aside0.mk hb_; clear c0 bx0 bx1 bx2 T10 HC HL HB NV ho_ hb_ hg_; have T10 := n1_; have HC := nc_; have HL := nl_; have HB := nb_; clear n1_ nc_ nl_ nb_; obtain ⟨bx0, bx1, bx2⟩ := T10.out.cells))
            go_loopg [9, 61] 1 (fun g v9 v61 wr => ∃ (j n : Nat), v61 = .int .i64 (j : Int) ∧ v9 = .int .i64 (n : Int) ∧ Aside0 (g = 1 - j ∧ j ≤ 1 ∧ n = k + j) ∧ Aside0 (Chain wr w.heap.size c bm T n) ∧ Aside0 (Kd.R k30 30 wr w.heap.size (fun _ => True) (.slice A9 (ts ++ [(⟨X, 0, 0⟩ : S30)]).length c9) (ts ++ [(⟨X, 0, 0⟩ : S30)])) ∧ Aside0 (Below w.heap.size w wr))
            case atStart => exact ⟨0, k, rfl, rfl, ⟨by omega, by omega, rfl⟩, HC, HL, HB⟩
            case round =>
              clear HC HL HB T10 bx0 bx1 bx2
              obtain ⟨j, n, rfl, rfl, HJ, HC, HL, HB⟩ := hrel
              by_cases hj : j < 1
              · have f0 : decide ((j : Int) < 1) = true := decide_eq_true (by omega)
                have f1 : decide (j < 1) = true := decide_eq_true hj
                have HJ2 := Aside0.mk hj
                clear hj
                go_wp2_with (first | (go_at_call 21; (with_reducible refine (add_calls T w.heap.size c bm n _ HC.out (by have := HMM.out; have := HJ2.out; have := HJ.out; omega) HZ2.out HB.out.size).mono ?_); rintro e w5 ⟨rfl, hch_, hb_, hs_, h30_⟩; have nc_ := Aside0.mk hch_; have nb_ := Aside0.mk (HB.out.trans hb_); have nl_ := Aside0.mk (R30_move HL.out h30_); clear HL; have HL := nl_; clear nl_; clear HC HB hch_ hb_ hs_ h30_; have HC := nc_; have HB := nb_; clear nc_ nb_))
                go_roundg (1 - (j + 1))
                case measure => have := HJ.out; have := HJ2.out; omega
                case rel => exact ⟨j + 1, n + 1, wrap_succ j (by have := HMM.out; have := HZ.out; have := HJ2.out; omega), wrap_succ n (by have := HMM.out; have := HZ.out; have := HJ2.out; have := HJ.out; omega), ⟨rfl, by have := HJ2.out; omega, by have := HJ.out; omega⟩, HC, HL, HB⟩
              · have f0 : decide ((j : Int) < 1) = false := decide_eq_false (by omega)
                have f1 : decide (j < 1) = false := decide_eq_false hj
                have hjm : 1 = j := by have := HJ.out; omega
                subst hjm
                have hnk : k + 1 = n := by have := HJ.out; omega
                subst hnk
                clear hj
                go_wp2
                have hl_ := HL.out
                rw [List.length_append, List.length_singleton] at hl_
                clear HL
                have HL := Aside0.mk hl_
                go_roundg (T.size - (k + 1))
                case measure => have := HG.out; have := HK.out; have := HMM.out; omega
                case rel => exact ⟨k + 1, ts ++ [(⟨X, 0, 0⟩ : S30)], rfl, ⟨rfl, HMM.out.2⟩, HC, HL, ⟨HRN.out, by have := HR.out.2; have := HMM.out; rw [List.length_append, List.length_singleton]; omega⟩, HB⟩
        · skip
          have d0 : decide ((k : Int) < (T.size : Int)) = false := decide_eq_false (by omega)
          have d1 : decide (k < T.size) = false := decide_eq_false hk
          have htR : ts = R := by
            have h := HR.out.1
            rw [show T.size - k = 0 from by omega] at h
            rw [← h]
            exact (List.append_nil ts).symm
          subst htR
          clear hk HR
          go_wp2
          go_ret
          exact ⟨A8, c8, rfl, HL.out, HB.out⟩

end Go.Proofs.Ytoibcollkkjelaa.PkPack
