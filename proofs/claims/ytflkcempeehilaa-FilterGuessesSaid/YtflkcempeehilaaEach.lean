/- filter.each with the functions of Filter, and of Unfilter: what it makes of a row. -/
import Derived.Test.YtflkcempeehilaaPuts
namespace Go.Proofs.Ytflkcempeehilaa.Each
open Go.RowKit Go.Proofs.Ytflkcempeehilaa.PFilterRows Go.Proofs.YtflkcempeehilaaW.PrintWords Go.Proofs.YtflkcempeehilaaW.PrintLast Go.Proofs.YtflkcempeehilaaW.PrintMore Go.Proofs.Ytflkcempeehilaa.Gs Go.Proofs.Ytflkcempeehilaa.Puts
set_option linter.unusedVariables false
set_option linter.unusedSimpArgs false

def atL (l : List Int) (i : Int) : Int := if 0 ≤ i ∧ i < l.length then rd l i else 0
def atB (s : ByteArray) (i : Int) : Int := if 0 ≤ i ∧ i < s.size then bt s i else 0
theorem atB_in (s : ByteArray) (q : Nat) (h : q < s.size) : atB s (q : Int) = bt s (q : Int) := if_pos (by omega)
theorem atB_out (s : ByteArray) (i : Int) (h : i < 0) : atB s i = 0 := if_neg (by omega)
theorem atB_out2 (s : ByteArray) (i : Int) (h : (s.size : Int) ≤ i) : atB s i = 0 := if_neg (by omega)
theorem atL_in (l : List Int) (q : Nat) (h : q < l.length) : atL l (q : Int) = rd l (q : Int) := if_pos (by omega)
theorem atL_out (l : List Int) (i : Int) (h : i < 0) : atL l i = 0 := if_neg (by omega)
/-- A row less what is guessed, and a row with what is guessed: the first n bytes. -/
def fL (k st : Int) (prev row : ByteArray) : Nat → List Int
  | 0 => []
  | n + 1 => fL k st prev row n ++ [(bt row (n : Int) - gs k (atB row ((n : Int) - st)) (atB prev (n : Int)) (atB prev ((n : Int) - st))) % 256]
def uL (k st : Int) (prev row : ByteArray) : Nat → List Int
  | 0 => []
  | n + 1 => uL k st prev row n ++ [(bt row (n : Int) + gs k (atL (uL k st prev row n) ((n : Int) - st)) (atB prev (n : Int)) (atB prev ((n : Int) - st))) % 256]
theorem fL_len (k st : Int) (prev row : ByteArray) (n : Nat) : (fL k st prev row n).length = n := by
  induction n with
  | zero => rfl
  | succ n ih => rw [fL, List.length_append, ih]; rfl
theorem uL_len (k st : Int) (prev row : ByteArray) (n : Nat) : (uL k st prev row n).length = n := by
  induction n with
  | zero => rfl
  | succ n ih => rw [uL, List.length_append, ih]; rfl
theorem fL_range (k st : Int) (prev row : ByteArray) (n : Nat) : ∀ x ∈ fL k st prev row n, 0 ≤ x ∧ x ≤ 255 := by
  induction n with
  | zero => intro x hx; cases hx
  | succ n ih =>
    intro x hx
    rw [fL] at hx
    rcases List.mem_append.1 hx with h | h
    · exact ih x h
    · rw [List.mem_singleton] at h
      omega
theorem uL_range (k st : Int) (prev row : ByteArray) (n : Nat) : ∀ x ∈ uL k st prev row n, 0 ≤ x ∧ x ≤ 255 := by
  induction n with
  | zero => intro x hx; cases hx
  | succ n ih =>
    intro x hx
    rw [uL] at hx
    rcases List.mem_append.1 hx with h | h
    · exact ih x h
    · rw [List.mem_singleton] at h
      omega
theorem rd_range (l : List Int) (i : Int) (h : ∀ x ∈ l, 0 ≤ x ∧ x ≤ 255) : 0 ≤ rd l i ∧ rd l i ≤ 255 := by
  unfold rd
  rw [List.getD_eq_getElem?_getD]
  by_cases hi : i.toNat < l.length
  · rw [List.getElem?_eq_getElem hi]
    exact h _ (List.getElem_mem hi)
  · rw [List.getElem?_eq_none (by omega)]
    show 0 ≤ (0 : Int) ∧ (0 : Int) ≤ 255
    omega
theorem wrap_succ (j : Nat) (h : j < 4611686018427387904) : Value.int .i64 (wrap64 ((j : Int) + 1)) = .int .i64 ((j + 1 : Nat) : Int) := by
  congr 1
  unfold wrap64
  omega
/-- make([]byte, 0, n). -/
theorem make_row {ops : Array Oper} {rest : List Oper} {o : Oper} {a : Act} {Q : Exit → Act → World → Prop} {w0 W : World} {x y : Operand} (base : Nat) (hgd : o.guard = none) {N : Tmp} (hd : o.dst = some N) (ho : o.op = .makeSlice 33 x y) (n : Nat) (hx : a.eval x = .int .i64 0) (hy : a.eval y = .int .i64 (n : Int))
    (hn : n ≤ 281474976710656) (HB : Below base w0 W) (hbase : base ≤ W.heap.size)
    (h : ∀ v1 w1, Kd.R (Kd.int .u8) 5 w1 base (fun _ => True) v1 [] → Below base w0 w1 → wpList Try.prog ops Q rest (a.put o.dst v1) w1) : wpList Try.prog ops Q (o :: rest) a W := by
  obtain ⟨i0, hi, hzz⟩ := Option.map_eq_some_iff.1 info5
  simp only [Prod.mk.injEq] at hzz
  obtain ⟨hz0, hz1, hz2⟩ := hzz
  obtain ⟨w1, hr, hown, hg⟩ := run_make_own (P := Try.prog) W base 33 5 i0 _ 1 Try.underlying33 hi hz0 hz1 .i64 .i64 n (by rw [hz2]; omega) (by unfold maxLen; omega) hbase
  refine wpList_plain hgd fun K hK => ?_
  unfold Oper.wp
  have hrun : (execOp a.eval o).run Try.prog W = .ok (.value (.slice (some ⟨W.heap.size, 0, none⟩) 0 n)) w1 := by
    simp [execOp, ho, hx, hy, hr]
  rw [hrun]
  exact hK _ _ (h _ _ (Kd.R_of_own (xs := ([] : List Int)) hown (fun _ _ => trivial)) (HB.grown hg hbase (fun g h => by cases h)))

def each12.T : Bool × List (List Nat × List Nat) := (true, [([], []), ([], []), ([], []), ([], []), ([2, 3], [2, 3]), ([4], [4]), ([], []), ([], []), ([], []), ([], []), ([6, 7, 8, 9], [6, 7, 8, 9]), ([1, 5, 10, 10], [1, 5, 10]), ([11], [11]), ([12], [12]), ([0, 13, 11], [0, 13]), ([14, 14, 0, 1, 2, 3, 4, 5, 6, 7, 8, 9, 10, 11, 12, 13, 14], [0, 14])])
def each12.B : List Nat := [0, 0, 0, 0, 12, 28, 0, 0, 0, 0, 960, 2046, 4094, 8190, 16383, 32767]
theorem each12.tab : rtab .any (opsOf Try.f23 12) = each12.T := by kernel_rfl
theorem each12.bits : waitsOk each12.T.2 each12.B = true := by kernel_rfl

set_option maxHeartbeats 8000000 in
set_option maxRecDepth 100000 in
theorem each_flt (k st : Int) (prev row : ByteArray) (p : Addr) (w : World) (hst : 1 ≤ st) (hst2 : st ≤ 9223372036854775807) (hpr : prev.toList = [] ∨ prev.size = row.size) (hrow : row.size ≤ 1000000) (hp : w.cell? p = some (.string row)) :
    Calls Try.prog 23 #[.int .i64 k, .int .i64 st, .string prev, .string row, .func (.func 22) #[] #[], .func (.func 24) #[] #[.pointer (some p)]] w fun e w' => e = .returned (.string (strOfNums (fL k st prev row row.size))) ∧ Below w.heap.size w w' := by
  have HB := Aside0.mk (Below.refl w.heap.size w)
  have HROW := Aside0.mk hrow
  have HST := Aside0.mk (And.intro hst hst2)
  have HPR := Aside0.mk hpr
  have HP := Aside0.mk hp
  clear hrow hst hst2 hpr hp
  go_enter Try.func23, Try.ntmps23
  go_wp2_with (first | ((with_reducible refine gate_dst (N := 20) rfl ?_); refine make_row w.heap.size rfl (N := 20) rfl rfl row.size rfl rfl (by have := HROW.out; omega) HB.out HB.out.size ?_; intro v102 w2 ho_ hb_; clear HB; have HB := Aside0.mk hb_; have HO := Aside0.mk ho_; clear ho_ hb_; obtain ⟨A4, c4, e4⟩ := Kd.R_slice HO.out; subst e4))
  have HL := Aside0.mk (show Kd.R (Kd.int .u8) 5 w2 w.heap.size (fun _ => True) (.slice A4 ([] : List Int).length c4) (fL k st prev row 0) from HO.out)
  clear HO
  go_loopg [13, 23] row.size (fun g v13 v23 wr => ∃ (i : Nat), v23 = .int .i64 (i : Int) ∧ Aside0 (g = row.size - i ∧ i ≤ row.size) ∧ Aside0 (Kd.R (Kd.int .u8) 5 wr w.heap.size (fun _ => True) v13 (fL k st prev row i)) ∧ Aside0 (Below w.heap.size w wr))
  case atStart => exact ⟨0, rfl, ⟨by omega, by omega⟩, HL, HB⟩
  case round =>
    clear HL HB
    obtain ⟨i, rfl, HG, HL, HB⟩ := hrel
    obtain ⟨A13, c13, e13⟩ := Kd.R_slice HL.out
    rw [fL_len] at e13
    subst e13
    by_cases hi : i < row.size
    · skip
      have d0 : decide ((i : Int) < (row.size : Int)) = true := decide_eq_true (by omega)
      have d1 : decide (i < row.size) = true := decide_eq_true hi
      have p1 : (0 ≤ (i : Int)) = True := eq_true (by omega)
      have p2 : ((i : Int) < (row.size : Int)) = True := eq_true (by omega)
      have p3 : (i < row.size) = True := eq_true hi
      obtain ⟨X, hX⟩ : ∃ X, bt row (i : Int) = X := ⟨_, rfl⟩
      have hX2 : 0 ≤ X ∧ X ≤ 255 := by rw [← hX]; exact bt_range _ _
      have pX : ∀ h : i < row.size, ((row[i]'h).toNat : Int) = X := fun h => by rw [← hX]; exact bt_nat _ _ h
      have wX : wrap64 X = X := by unfold wrap64; omega
      by_cases cA : st ≤ (i : Int)
      · by_cases cE : prev.toList = []
        · skip
          have dA : decide (st ≤ (i : Int)) = true := decide_eq_true cA
          obtain ⟨q, hq⟩ : ∃ q : Nat, (i : Int) - st = q := ⟨((i : Int) - st).toNat, by omega⟩
          have wq : wrap64 ((i : Int) - st) = (q : Int) := by have := HST.out; have := HROW.out; rw [hq]; unfold wrap64; omega
          have hqi : q < i := by have := HST.out; omega
          have q1 : (0 ≤ (q : Int)) = True := eq_true (by omega)
          obtain ⟨A0, hA0⟩ : ∃ A0, bt row (q : Int) = A0 := ⟨_, rfl⟩
          have hA2 : 0 ≤ A0 ∧ A0 ≤ 255 := by rw [← hA0]; exact bt_range _ _
          have eA : atB row ((i : Int) - st) = A0 := by rw [hq, atB_in _ _ (by omega), hA0]
          have hE1 : (prev.toList == ([] : List UInt8)) = true := beq_iff_eq.mpr cE
          have hE2 : (prev.toList != ([] : List UInt8)) = false := bne_eq_false_iff_eq.mpr cE
          have hps : prev.size = 0 := by rw [Go.ByteArray.toList_eq] at cE; have h := congrArg List.length cE; simpa using h
          have hB2 : 0 ≤ (0 : Int) ∧ (0 : Int) ≤ 255 := by omega
          have eB : atB prev (i : Int) = 0 := atB_out2 _ _ (by omega)
          have eC : atB prev ((i : Int) - st) = 0 := by by_cases h : 0 ≤ (i : Int) - st; exact atB_out2 _ _ (by omega); exact atB_out _ _ (by omega)
          obtain ⟨G, hG⟩ : ∃ G, gs k A0 0 0 = G := ⟨_, rfl⟩
          have hG2 : 0 ≤ G ∧ G ≤ 255 := by rw [← hG]; exact gs_range _ _ _ _ hA2 hB2 (by omega)
          obtain ⟨D, hD⟩ : ∃ D, X - G = D := ⟨_, rfl⟩
          have HN := Aside0.mk (show fL k st prev row (i + 1) = fL k st prev row i ++ [D % 256] by rw [fL, eA, eB, eC, hG, hX, hD])
          have HGc := Aside0.mk hG
          have HD := Aside0.mk hD
          have HG2 := Aside0.mk hG2
          have HX2 := Aside0.mk hX2
          have HA2 := Aside0.mk hA2
          have HB2 := Aside0.mk hB2
          have HQ := Aside0.mk hqi
          have HAa := Aside0.mk hA0
          have HI := Aside0.mk hi
          clear hG hD hG2 hX2 hA2 hB2 eA eB eC hX hps hi hA0 hqi hq cA cE
          go_wp2_with (first | (go_at_call 24; (with_reducible refine (known_calls q _ p row _ (HB.out.cell (World.block_lt_of_cell? _ _ HP.out) |>.trans HP.out) (by have := HQ.out; have := HG.out; omega)).mono ?_); rw [HAa.out]; rintro e w' ⟨rfl, rfl⟩))
          have nb_ := Aside0.mk (below_drew1 HB.out)
          have nl_ := Aside0.mk (Kd.R_drew HL.out)
          clear HB HL
          have HB := nb_
          have HL := nl_
          clear nb_ nl_
          refine start_ (n := 16) (S := fun w' => True) (ds := []) #[false, false, false, false, false, false, false, false, false, false, false, false, false, false, false, false] (by kernel_rfl) rfl rfl trivial (fun hHeld => ?_); refine with_tabW each12.tab each12.bits (fun HT_ HW_ => ?_)
          generalize wr.drew = w3 at HB HL hHeld ⊢
          refine pure_ (i := 0) (N := some 50) (v := ?_) (a' := ?_) #[true, false, false, false, false, false, false, false, false, false, false, false, false, false, false, false] rfl rfl (any_of HT_.out (by kernel_rfl)) (fun _ _ _ h => h) (Or.inl ⟨by rfl, ?_⟩) ?_ ?_
          rotate_left
          · intro w'
            go_simp
            with_reducible rfl
          rotate_left
          · simp only [Act.put, List.setIfInBounds_toArray, List.set_cons_zero, List.set_cons_succ, i64_w, i32_w]
            rfl
          refine pure_ (i := 1) (N := some 51) (v := ?_) (a' := ?_) #[true, true, false, false, false, false, false, false, false, false, false, false, false, false, false, false] rfl rfl (any_of HT_.out (by kernel_rfl)) (fun _ _ _ h => h) (Or.inl ⟨by rfl, ?_⟩) ?_ ?_
          rotate_left
          · intro w'
            go_simp
            with_reducible rfl
          rotate_left
          · simp only [Act.put, List.setIfInBounds_toArray, List.set_cons_zero, List.set_cons_succ, i64_w, i32_w]
            rfl
          refine pure_ (i := 2) (N := some 52) (v := ?_) (a' := ?_) #[true, true, true, false, false, false, false, false, false, false, false, false, false, false, false, false] rfl rfl (any_of HT_.out (by kernel_rfl)) (fun _ _ _ h => h) (Or.inl ⟨by rfl, ?_⟩) ?_ ?_
          rotate_left
          · intro w'
            go_simp
            with_reducible rfl
          rotate_left
          · simp only [Act.put, List.setIfInBounds_toArray, List.set_cons_zero, List.set_cons_succ, i64_w, i32_w]
            rfl
          refine pure_ (i := 3) (N := some 53) (v := ?_) (a' := ?_) #[true, true, true, true, false, false, false, false, false, false, false, false, false, false, false, false] rfl rfl (any_of HT_.out (by kernel_rfl)) (fun _ _ _ h => h) (Or.inl ⟨by rfl, ?_⟩) ?_ ?_
          rotate_left
          · intro w'
            go_simp
            with_reducible rfl
          rotate_left
          · simp only [Act.put, List.setIfInBounds_toArray, List.set_cons_zero, List.set_cons_succ, i64_w, i32_w]
            rfl
          refine pure_ (i := 4) (N := some 54) (v := ?_) (a' := ?_) #[true, true, true, true, true, false, false, false, false, false, false, false, false, false, false, false] rfl rfl (any_of HT_.out (by kernel_rfl)) (fun _ _ _ h => h) (Or.inl ⟨by rfl, ?_⟩) ?_ ?_
          rotate_left
          · intro w'
            go_simp
            with_reducible rfl
          rotate_left
          · simp only [Act.put, List.setIfInBounds_toArray, List.set_cons_zero, List.set_cons_succ, i64_w, i32_w]
            rfl
          refine pure_ (i := 5) (N := some 55) (v := ?_) (a' := ?_) #[true, true, true, true, true, true, false, false, false, false, false, false, false, false, false, false] rfl rfl (any_of HT_.out (by kernel_rfl)) (fun _ _ _ h => h) (Or.inl ⟨by rfl, ?_⟩) ?_ ?_
          rotate_left
          · intro w'
            go_simp
            with_reducible rfl
          rotate_left
          · simp only [Act.put, List.setIfInBounds_toArray, List.set_cons_zero, List.set_cons_succ, i64_w, i32_w]
            rfl
          refine pure_ (i := 6) (N := some 56) (v := ?_) (a' := ?_) #[true, true, true, true, true, true, true, false, false, false, false, false, false, false, false, false] rfl rfl (any_of HT_.out (by kernel_rfl)) (fun _ _ _ h => h) (Or.inl ⟨by rfl, ?_⟩) ?_ ?_
          rotate_left
          · intro w'
            go_simp
            with_reducible rfl
          rotate_left
          · simp only [Act.put, List.setIfInBounds_toArray, List.set_cons_zero, List.set_cons_succ, i64_w, i32_w]
            rfl
          refine pure_ (i := 7) (N := some 57) (v := ?_) (a' := ?_) #[true, true, true, true, true, true, true, true, false, false, false, false, false, false, false, false] rfl rfl (any_of HT_.out (by kernel_rfl)) (fun _ _ _ h => h) (Or.inl ⟨by rfl, ?_⟩) ?_ ?_
          rotate_left
          · intro w'
            go_simp
            with_reducible rfl
          rotate_left
          · simp only [Act.put, List.setIfInBounds_toArray, List.set_cons_zero, List.set_cons_succ, i64_w, i32_w]
            rfl
          refine pure_ (i := 8) (N := some 58) (v := ?_) (a' := ?_) #[true, true, true, true, true, true, true, true, true, false, false, false, false, false, false, false] rfl rfl (any_of HT_.out (by kernel_rfl)) (fun _ _ _ h => h) (Or.inl ⟨by rfl, ?_⟩) ?_ ?_
          rotate_left
          · intro w'
            go_simp
            with_reducible rfl
          rotate_left
          · simp only [Act.put, List.setIfInBounds_toArray, List.set_cons_zero, List.set_cons_succ, i64_w, i32_w]
            rfl
          refine pure_ (i := 9) (N := some 59) (v := ?_) (a' := ?_) #[true, true, true, true, true, true, true, true, true, true, false, false, false, false, false, false] rfl rfl (any_of HT_.out (by kernel_rfl)) (fun _ _ _ h => h) (Or.inl ⟨by rfl, ?_⟩) ?_ ?_
          rotate_left
          · intro w'
            go_simp
            with_reducible rfl
          rotate_left
          · simp only [Act.put, List.setIfInBounds_toArray, List.set_cons_zero, List.set_cons_succ, i64_w, i32_w]
            rfl
          refine one_ (i := 10) (N := some 60) #[true, true, true, true, true, true, true, true, true, true, true, false, false, false, false, false] rfl rfl (one_of HT_.out (by kernel_rfl)) (by decide) (fun K hK => ?_)
          refine goes_ Try.func9 (by kernel_rfl) rfl #[.int .i64 k, .int .i64 (A0), .int .i64 (0), .int .i64 (0)] (by rfl) rfl rfl (by simp only [List.map_toArray, List.map_cons, List.map_nil]; first | rfl | (simp [Act.eval])) ?_
          with_reducible refine (guess_calls k A0 0 0 _ HA2.out HB2.out (by omega)).mono ?_
          rw [HGc.out]
          rintro e w4 ⟨rfl, hb⟩
          refine ⟨_, rfl, ?_⟩
          have nb_ := Aside0.mk (below_step HB.out hb)
          have nl_ := Aside0.mk (Kd.R_below HL.out hb)
          clear HB HL hb
          have HB := nb_
          have HL := nl_
          clear nb_ nl_
          refine hK.out _ _ trivial (fun hHeld => ?_)
          clear hK K
          refine norm_ (a' := ?_) ?_ ?_
          rotate_left
          · show Act.put _ (some 60) _ = _
            simp only [Act.put, List.setIfInBounds_toArray, List.set_cons_zero, List.set_cons_succ, i64_w, i32_w]
            rfl
          refine one_ (i := 11) (N := some 61) #[true, true, true, true, true, true, true, true, true, true, true, true, false, false, false, false] rfl rfl (one_of HT_.out (by kernel_rfl)) (by decide) (fun K hK => ?_)
          refine call_ 22 #[.int .i64 X, .int .i64 G] (by rfl) rfl (by have he := enters_ Try.func22 (by kernel_rfl) rfl #[.int .i64 X, .int .i64 G] w4; unfold execOp; simp [resolve, Deferred.ofValue, invoke, Act.eval, wX, he]) ?_
          with_reducible refine (less_calls X G _ HX2.out HG2.out).mono ?_
          rw [HD.out]
          rintro e w5 ⟨rfl, rfl⟩
          refine ⟨_, rfl, ?_⟩
          refine hK.out _ _ trivial (fun hHeld => ?_)
          clear hK K
          refine norm_ (a' := ?_) ?_ ?_
          rotate_left
          · show Act.put _ (some 61) _ = _
            simp only [Act.put, List.setIfInBounds_toArray, List.set_cons_zero, List.set_cons_succ, i64_w, i32_w]
            rfl
          refine pure_ (i := 12) (N := some 62) (v := ?_) (a' := ?_) #[true, true, true, true, true, true, true, true, true, true, true, true, true, false, false, false] rfl rfl (any_of HT_.out (by kernel_rfl)) (fun _ _ _ h => h) (Or.inl ⟨by rfl, ?_⟩) ?_ ?_
          rotate_left
          · intro w'
            go_simp
            with_reducible rfl
          rotate_left
          · simp only [Act.put, List.setIfInBounds_toArray, List.set_cons_zero, List.set_cons_succ, i64_w, i32_w]
            rfl
          refine one_ (i := 13) (N := some 63) #[true, true, true, true, true, true, true, true, true, true, true, true, true, true, false, false] rfl rfl (one_of HT_.out (by kernel_rfl)) (by decide) (fun K hK => ?_)
          refine value_ (w1 := w4.alloc (.cells #[.int .u8 (D % 256)] 5)) (v := .slice (some ⟨w4.heap.size, 0, none⟩) 1 1) (by rfl) rfl (by first | (go_simp; done) | (go_simp; rfl)) ?_
          refine hK.out _ _ trivial (fun hHeld => ?_)
          clear hK K
          refine norm_ (a' := ?_) ?_ ?_
          rotate_left
          · show Act.put _ (some 63) _ = _
            simp only [Act.put, List.setIfInBounds_toArray, List.set_cons_zero, List.set_cons_succ, i64_w, i32_w]
            rfl
          refine one_ (i := 14) (N := some 64) #[true, true, true, true, true, true, true, true, true, true, true, true, true, true, true, false] rfl rfl (one_of HT_.out (by kernel_rfl)) (by decide) (fun K hK => ?_)
          refine Kd.R_append_step (Kd.int .u8) (W := w4) (w0 := w) w.heap.size (by rfl) (.tmp 50) (.tmp 63) 33 5 _ 1 rfl Try.underlying33 info5 rfl (by decide) (by decide) (.slice A13 i c13) (fL k st prev row i) (D % 256) [.int .u8 (D % 256)] (fun _ => True) (fun _ => False) rfl rfl rfl (fun _ h => h.elim) (fun _ _ => trivial) HL.out HB.out HB.out.size (by rw [fL_len]; have := HROW.out; have := HG.out; omega) ?_
          intro v6 w6 hl_ hb_ hg_ hn_
          clear hg_ hn_ HB HL
          have HB := Aside0.mk hb_
          have HL := Aside0.mk hl_
          clear hb_ hl_
          refine hK.out _ _ trivial (fun hHeld => ?_)
          clear hK K
          refine norm_ (a' := ?_) ?_ ?_
          rotate_left
          · show Act.put _ (some 64) _ = _
            simp only [Act.put, List.setIfInBounds_toArray, List.set_cons_zero, List.set_cons_succ, i64_w, i32_w]
            rfl
          refine pure_ (i := 15) (N := some 13) (v := ?_) (a' := ?_) #[true, true, true, true, true, true, true, true, true, true, true, true, true, true, true, true] rfl rfl (any_of HT_.out (by kernel_rfl)) (fun _ _ _ h => h) (Or.inl ⟨by rfl, ?_⟩) ?_ ?_
          rotate_left
          · intro w'
            go_simp
            with_reducible rfl
          rotate_left
          · simp only [Act.put, List.setIfInBounds_toArray, List.set_cons_zero, List.set_cons_succ, i64_w, i32_w]
            rfl
          refine done_ (done_of HT_.out (by kernel_rfl)) ?_
          rw [← HN.out] at HL
          go_wp2
          go_roundg (row.size - (i + 1))
          case measure => have := HG.out; have := HI.out; omega
          case rel => exact ⟨i + 1, wrap_succ i (by have := HROW.out; have := HG.out; omega), ⟨rfl, by have := HI.out; omega⟩, HL, HB⟩
        · skip
          have dA : decide (st ≤ (i : Int)) = true := decide_eq_true cA
          obtain ⟨q, hq⟩ : ∃ q : Nat, (i : Int) - st = q := ⟨((i : Int) - st).toNat, by omega⟩
          have wq : wrap64 ((i : Int) - st) = (q : Int) := by have := HST.out; have := HROW.out; rw [hq]; unfold wrap64; omega
          have hqi : q < i := by have := HST.out; omega
          have q1 : (0 ≤ (q : Int)) = True := eq_true (by omega)
          obtain ⟨A0, hA0⟩ : ∃ A0, bt row (q : Int) = A0 := ⟨_, rfl⟩
          have hA2 : 0 ≤ A0 ∧ A0 ≤ 255 := by rw [← hA0]; exact bt_range _ _
          have eA : atB row ((i : Int) - st) = A0 := by rw [hq, atB_in _ _ (by omega), hA0]
          have hE1 : (prev.toList == ([] : List UInt8)) = false := beq_eq_false_iff_ne.mpr cE
          have hE2 : (prev.toList != ([] : List UInt8)) = true := bne_iff_ne.mpr cE
          have hps : prev.size = row.size := by rcases HPR.out with h | h; exact absurd h cE; exact h
          have r2 : ((i : Int) < (prev.size : Int)) = True := eq_true (by omega)
          have hpi : i < prev.size := by omega
          have r3 : (i < prev.size) = True := eq_true hpi
          obtain ⟨B0, hB0⟩ : ∃ B0, bt prev (i : Int) = B0 := ⟨_, rfl⟩
          have hB2 : 0 ≤ B0 ∧ B0 ≤ 255 := by rw [← hB0]; exact bt_range _ _
          have pB : ∀ h : i < prev.size, ((prev[i]'h).toNat : Int) = B0 := fun h => by rw [← hB0]; exact bt_nat _ _ h
          have wB : wrap64 B0 = B0 := by unfold wrap64; omega
          have eB : atB prev (i : Int) = B0 := by rw [atB_in _ _ hpi, hB0]
          have r4 : ((q : Int) < (prev.size : Int)) = True := eq_true (by omega)
          have hpq : q < prev.size := by omega
          have r5 : (q < prev.size) = True := eq_true hpq
          obtain ⟨C0, hC0⟩ : ∃ C0, bt prev (q : Int) = C0 := ⟨_, rfl⟩
          have hC2 : 0 ≤ C0 ∧ C0 ≤ 255 := by rw [← hC0]; exact bt_range _ _
          have pC : ∀ h : q < prev.size, ((prev[q]'h).toNat : Int) = C0 := fun h => by rw [← hC0]; exact bt_nat _ _ h
          have wC : wrap64 C0 = C0 := by unfold wrap64; omega
          have eC : atB prev ((i : Int) - st) = C0 := by rw [hq, atB_in _ _ hpq, hC0]
          obtain ⟨G, hG⟩ : ∃ G, gs k A0 B0 C0 = G := ⟨_, rfl⟩
          have hG2 : 0 ≤ G ∧ G ≤ 255 := by rw [← hG]; exact gs_range _ _ _ _ hA2 hB2 hC2
          obtain ⟨D, hD⟩ : ∃ D, X - G = D := ⟨_, rfl⟩
          have HN := Aside0.mk (show fL k st prev row (i + 1) = fL k st prev row i ++ [D % 256] by rw [fL, eA, eB, eC, hG, hX, hD])
          have HGc := Aside0.mk hG
          have HD := Aside0.mk hD
          have HG2 := Aside0.mk hG2
          have HX2 := Aside0.mk hX2
          have HA2 := Aside0.mk hA2
          have HB2 := Aside0.mk hB2
          have HC2 := Aside0.mk hC2
          have HQ := Aside0.mk hqi
          have HAa := Aside0.mk hA0
          have HI := Aside0.mk hi
          clear hG hD hG2 hX2 hA2 hB2 eA eB eC hX hps hi hC2 hA0 hqi hq hB0 hpi hC0 hpq cA cE
          go_wp2_with (first | (go_at_call 24; (with_reducible refine (known_calls q _ p row _ (HB.out.cell (World.block_lt_of_cell? _ _ HP.out) |>.trans HP.out) (by have := HQ.out; have := HG.out; omega)).mono ?_); rw [HAa.out]; rintro e w' ⟨rfl, rfl⟩))
          have nb_ := Aside0.mk (below_drew1 HB.out)
          have nl_ := Aside0.mk (Kd.R_drew HL.out)
          clear HB HL
          have HB := nb_
          have HL := nl_
          clear nb_ nl_
          refine start_ (n := 16) (S := fun w' => True) (ds := []) #[false, false, false, false, false, false, false, false, false, false, false, false, false, false, false, false] (by kernel_rfl) rfl rfl trivial (fun hHeld => ?_); refine with_tabW each12.tab each12.bits (fun HT_ HW_ => ?_)
          generalize wr.drew = w3 at HB HL hHeld ⊢
          refine pure_ (i := 0) (N := some 50) (v := ?_) (a' := ?_) #[true, false, false, false, false, false, false, false, false, false, false, false, false, false, false, false] rfl rfl (any_of HT_.out (by kernel_rfl)) (fun _ _ _ h => h) (Or.inl ⟨by rfl, ?_⟩) ?_ ?_
          rotate_left
          · intro w'
            go_simp
            with_reducible rfl
          rotate_left
          · simp only [Act.put, List.setIfInBounds_toArray, List.set_cons_zero, List.set_cons_succ, i64_w, i32_w]
            rfl
          refine pure_ (i := 1) (N := some 51) (v := ?_) (a' := ?_) #[true, true, false, false, false, false, false, false, false, false, false, false, false, false, false, false] rfl rfl (any_of HT_.out (by kernel_rfl)) (fun _ _ _ h => h) (Or.inl ⟨by rfl, ?_⟩) ?_ ?_
          rotate_left
          · intro w'
            go_simp
            with_reducible rfl
          rotate_left
          · simp only [Act.put, List.setIfInBounds_toArray, List.set_cons_zero, List.set_cons_succ, i64_w, i32_w]
            rfl
          refine pure_ (i := 2) (N := some 52) (v := ?_) (a' := ?_) #[true, true, true, false, false, false, false, false, false, false, false, false, false, false, false, false] rfl rfl (any_of HT_.out (by kernel_rfl)) (fun _ _ _ h => h) (Or.inl ⟨by rfl, ?_⟩) ?_ ?_
          rotate_left
          · intro w'
            go_simp
            with_reducible rfl
          rotate_left
          · simp only [Act.put, List.setIfInBounds_toArray, List.set_cons_zero, List.set_cons_succ, i64_w, i32_w]
            rfl
          refine pure_ (i := 3) (N := some 53) (v := ?_) (a' := ?_) #[true, true, true, true, false, false, false, false, false, false, false, false, false, false, false, false] rfl rfl (any_of HT_.out (by kernel_rfl)) (fun _ _ _ h => h) (Or.inl ⟨by rfl, ?_⟩) ?_ ?_
          rotate_left
          · intro w'
            go_simp
            with_reducible rfl
          rotate_left
          · simp only [Act.put, List.setIfInBounds_toArray, List.set_cons_zero, List.set_cons_succ, i64_w, i32_w]
            rfl
          refine pure_ (i := 4) (N := some 54) (v := ?_) (a' := ?_) #[true, true, true, true, true, false, false, false, false, false, false, false, false, false, false, false] rfl rfl (any_of HT_.out (by kernel_rfl)) (fun _ _ _ h => h) (Or.inl ⟨by rfl, ?_⟩) ?_ ?_
          rotate_left
          · intro w'
            go_simp
            with_reducible rfl
          rotate_left
          · simp only [Act.put, List.setIfInBounds_toArray, List.set_cons_zero, List.set_cons_succ, i64_w, i32_w]
            rfl
          refine pure_ (i := 5) (N := some 55) (v := ?_) (a' := ?_) #[true, true, true, true, true, true, false, false, false, false, false, false, false, false, false, false] rfl rfl (any_of HT_.out (by kernel_rfl)) (fun _ _ _ h => h) (Or.inl ⟨by rfl, ?_⟩) ?_ ?_
          rotate_left
          · intro w'
            go_simp
            with_reducible rfl
          rotate_left
          · simp only [Act.put, List.setIfInBounds_toArray, List.set_cons_zero, List.set_cons_succ, i64_w, i32_w]
            rfl
          refine pure_ (i := 6) (N := some 56) (v := ?_) (a' := ?_) #[true, true, true, true, true, true, true, false, false, false, false, false, false, false, false, false] rfl rfl (any_of HT_.out (by kernel_rfl)) (fun _ _ _ h => h) (Or.inl ⟨by rfl, ?_⟩) ?_ ?_
          rotate_left
          · intro w'
            go_simp
            with_reducible rfl
          rotate_left
          · simp only [Act.put, List.setIfInBounds_toArray, List.set_cons_zero, List.set_cons_succ, i64_w, i32_w]
            rfl
          refine pure_ (i := 7) (N := some 57) (v := ?_) (a' := ?_) #[true, true, true, true, true, true, true, true, false, false, false, false, false, false, false, false] rfl rfl (any_of HT_.out (by kernel_rfl)) (fun _ _ _ h => h) (Or.inl ⟨by rfl, ?_⟩) ?_ ?_
          rotate_left
          · intro w'
            go_simp
            with_reducible rfl
          rotate_left
          · simp only [Act.put, List.setIfInBounds_toArray, List.set_cons_zero, List.set_cons_succ, i64_w, i32_w]
            rfl
          refine pure_ (i := 8) (N := some 58) (v := ?_) (a' := ?_) #[true, true, true, true, true, true, true, true, true, false, false, false, false, false, false, false] rfl rfl (any_of HT_.out (by kernel_rfl)) (fun _ _ _ h => h) (Or.inl ⟨by rfl, ?_⟩) ?_ ?_
          rotate_left
          · intro w'
            go_simp
            with_reducible rfl
          rotate_left
          · simp only [Act.put, List.setIfInBounds_toArray, List.set_cons_zero, List.set_cons_succ, i64_w, i32_w]
            rfl
          refine pure_ (i := 9) (N := some 59) (v := ?_) (a' := ?_) #[true, true, true, true, true, true, true, true, true, true, false, false, false, false, false, false] rfl rfl (any_of HT_.out (by kernel_rfl)) (fun _ _ _ h => h) (Or.inl ⟨by rfl, ?_⟩) ?_ ?_
          rotate_left
          · intro w'
            go_simp
            with_reducible rfl
          rotate_left
          · simp only [Act.put, List.setIfInBounds_toArray, List.set_cons_zero, List.set_cons_succ, i64_w, i32_w]
            rfl
          refine one_ (i := 10) (N := some 60) #[true, true, true, true, true, true, true, true, true, true, true, false, false, false, false, false] rfl rfl (one_of HT_.out (by kernel_rfl)) (by decide) (fun K hK => ?_)
          refine goes_ Try.func9 (by kernel_rfl) rfl #[.int .i64 k, .int .i64 (A0), .int .i64 (B0), .int .i64 (C0)] (by rfl) rfl rfl (by simp only [List.map_toArray, List.map_cons, List.map_nil]; first | rfl | (simp [Act.eval, wB, wC])) ?_
          with_reducible refine (guess_calls k A0 B0 C0 _ HA2.out HB2.out HC2.out).mono ?_
          rw [HGc.out]
          rintro e w4 ⟨rfl, hb⟩
          refine ⟨_, rfl, ?_⟩
          have nb_ := Aside0.mk (below_step HB.out hb)
          have nl_ := Aside0.mk (Kd.R_below HL.out hb)
          clear HB HL hb
          have HB := nb_
          have HL := nl_
          clear nb_ nl_
          refine hK.out _ _ trivial (fun hHeld => ?_)
          clear hK K
          refine norm_ (a' := ?_) ?_ ?_
          rotate_left
          · show Act.put _ (some 60) _ = _
            simp only [Act.put, List.setIfInBounds_toArray, List.set_cons_zero, List.set_cons_succ, i64_w, i32_w]
            rfl
          refine one_ (i := 11) (N := some 61) #[true, true, true, true, true, true, true, true, true, true, true, true, false, false, false, false] rfl rfl (one_of HT_.out (by kernel_rfl)) (by decide) (fun K hK => ?_)
          refine call_ 22 #[.int .i64 X, .int .i64 G] (by rfl) rfl (by have he := enters_ Try.func22 (by kernel_rfl) rfl #[.int .i64 X, .int .i64 G] w4; unfold execOp; simp [resolve, Deferred.ofValue, invoke, Act.eval, wX, he]) ?_
          with_reducible refine (less_calls X G _ HX2.out HG2.out).mono ?_
          rw [HD.out]
          rintro e w5 ⟨rfl, rfl⟩
          refine ⟨_, rfl, ?_⟩
          refine hK.out _ _ trivial (fun hHeld => ?_)
          clear hK K
          refine norm_ (a' := ?_) ?_ ?_
          rotate_left
          · show Act.put _ (some 61) _ = _
            simp only [Act.put, List.setIfInBounds_toArray, List.set_cons_zero, List.set_cons_succ, i64_w, i32_w]
            rfl
          refine pure_ (i := 12) (N := some 62) (v := ?_) (a' := ?_) #[true, true, true, true, true, true, true, true, true, true, true, true, true, false, false, false] rfl rfl (any_of HT_.out (by kernel_rfl)) (fun _ _ _ h => h) (Or.inl ⟨by rfl, ?_⟩) ?_ ?_
          rotate_left
          · intro w'
            go_simp
            with_reducible rfl
          rotate_left
          · simp only [Act.put, List.setIfInBounds_toArray, List.set_cons_zero, List.set_cons_succ, i64_w, i32_w]
            rfl
          refine one_ (i := 13) (N := some 63) #[true, true, true, true, true, true, true, true, true, true, true, true, true, true, false, false] rfl rfl (one_of HT_.out (by kernel_rfl)) (by decide) (fun K hK => ?_)
          refine value_ (w1 := w4.alloc (.cells #[.int .u8 (D % 256)] 5)) (v := .slice (some ⟨w4.heap.size, 0, none⟩) 1 1) (by rfl) rfl (by first | (go_simp; done) | (go_simp; rfl)) ?_
          refine hK.out _ _ trivial (fun hHeld => ?_)
          clear hK K
          refine norm_ (a' := ?_) ?_ ?_
          rotate_left
          · show Act.put _ (some 63) _ = _
            simp only [Act.put, List.setIfInBounds_toArray, List.set_cons_zero, List.set_cons_succ, i64_w, i32_w]
            rfl
          refine one_ (i := 14) (N := some 64) #[true, true, true, true, true, true, true, true, true, true, true, true, true, true, true, false] rfl rfl (one_of HT_.out (by kernel_rfl)) (by decide) (fun K hK => ?_)
          refine Kd.R_append_step (Kd.int .u8) (W := w4) (w0 := w) w.heap.size (by rfl) (.tmp 50) (.tmp 63) 33 5 _ 1 rfl Try.underlying33 info5 rfl (by decide) (by decide) (.slice A13 i c13) (fL k st prev row i) (D % 256) [.int .u8 (D % 256)] (fun _ => True) (fun _ => False) rfl rfl rfl (fun _ h => h.elim) (fun _ _ => trivial) HL.out HB.out HB.out.size (by rw [fL_len]; have := HROW.out; have := HG.out; omega) ?_
          intro v6 w6 hl_ hb_ hg_ hn_
          clear hg_ hn_ HB HL
          have HB := Aside0.mk hb_
          have HL := Aside0.mk hl_
          clear hb_ hl_
          refine hK.out _ _ trivial (fun hHeld => ?_)
          clear hK K
          refine norm_ (a' := ?_) ?_ ?_
          rotate_left
          · show Act.put _ (some 64) _ = _
            simp only [Act.put, List.setIfInBounds_toArray, List.set_cons_zero, List.set_cons_succ, i64_w, i32_w]
            rfl
          refine pure_ (i := 15) (N := some 13) (v := ?_) (a' := ?_) #[true, true, true, true, true, true, true, true, true, true, true, true, true, true, true, true] rfl rfl (any_of HT_.out (by kernel_rfl)) (fun _ _ _ h => h) (Or.inl ⟨by rfl, ?_⟩) ?_ ?_
          rotate_left
          · intro w'
            go_simp
            with_reducible rfl
          rotate_left
          · simp only [Act.put, List.setIfInBounds_toArray, List.set_cons_zero, List.set_cons_succ, i64_w, i32_w]
            rfl
          refine done_ (done_of HT_.out (by kernel_rfl)) ?_
          rw [← HN.out] at HL
          go_wp2
          go_roundg (row.size - (i + 1))
          case measure => have := HG.out; have := HI.out; omega
          case rel => exact ⟨i + 1, wrap_succ i (by have := HROW.out; have := HG.out; omega), ⟨rfl, by have := HI.out; omega⟩, HL, HB⟩
      · by_cases cE : prev.toList = []
        · skip
          have dA : decide (st ≤ (i : Int)) = false := decide_eq_false cA
          have hA2 : 0 ≤ (0 : Int) ∧ (0 : Int) ≤ 255 := by omega
          have eA : atB row ((i : Int) - st) = 0 := atB_out _ _ (by omega)
          have hE1 : (prev.toList == ([] : List UInt8)) = true := beq_iff_eq.mpr cE
          have hE2 : (prev.toList != ([] : List UInt8)) = false := bne_eq_false_iff_eq.mpr cE
          have hps : prev.size = 0 := by rw [Go.ByteArray.toList_eq] at cE; have h := congrArg List.length cE; simpa using h
          have hB2 : 0 ≤ (0 : Int) ∧ (0 : Int) ≤ 255 := by omega
          have eB : atB prev (i : Int) = 0 := atB_out2 _ _ (by omega)
          have eC : atB prev ((i : Int) - st) = 0 := by by_cases h : 0 ≤ (i : Int) - st; exact atB_out2 _ _ (by omega); exact atB_out _ _ (by omega)
          obtain ⟨G, hG⟩ : ∃ G, gs k 0 0 0 = G := ⟨_, rfl⟩
          have hG2 : 0 ≤ G ∧ G ≤ 255 := by rw [← hG]; exact gs_range _ _ _ _ hA2 hB2 (by omega)
          obtain ⟨D, hD⟩ : ∃ D, X - G = D := ⟨_, rfl⟩
          have HN := Aside0.mk (show fL k st prev row (i + 1) = fL k st prev row i ++ [D % 256] by rw [fL, eA, eB, eC, hG, hX, hD])
          have HGc := Aside0.mk hG
          have HD := Aside0.mk hD
          have HG2 := Aside0.mk hG2
          have HX2 := Aside0.mk hX2
          have HA2 := Aside0.mk hA2
          have HB2 := Aside0.mk hB2
          have HI := Aside0.mk hi
          clear hG hD hG2 hX2 hA2 hB2 eA eB eC hX hps hi cA cE
          go_wp2
          have nb_ := Aside0.mk (below_drew1 HB.out)
          have nl_ := Aside0.mk (Kd.R_drew HL.out)
          clear HB HL
          have HB := nb_
          have HL := nl_
          clear nb_ nl_
          refine start_ (n := 16) (S := fun w' => True) (ds := []) #[false, false, false, false, false, false, false, false, false, false, false, false, false, false, false, false] (by kernel_rfl) rfl rfl trivial (fun hHeld => ?_); refine with_tabW each12.tab each12.bits (fun HT_ HW_ => ?_)
          generalize wr.drew = w3 at HB HL hHeld ⊢
          refine pure_ (i := 0) (N := some 50) (v := ?_) (a' := ?_) #[true, false, false, false, false, false, false, false, false, false, false, false, false, false, false, false] rfl rfl (any_of HT_.out (by kernel_rfl)) (fun _ _ _ h => h) (Or.inl ⟨by rfl, ?_⟩) ?_ ?_
          rotate_left
          · intro w'
            go_simp
            with_reducible rfl
          rotate_left
          · simp only [Act.put, List.setIfInBounds_toArray, List.set_cons_zero, List.set_cons_succ, i64_w, i32_w]
            rfl
          refine pure_ (i := 1) (N := some 51) (v := ?_) (a' := ?_) #[true, true, false, false, false, false, false, false, false, false, false, false, false, false, false, false] rfl rfl (any_of HT_.out (by kernel_rfl)) (fun _ _ _ h => h) (Or.inl ⟨by rfl, ?_⟩) ?_ ?_
          rotate_left
          · intro w'
            go_simp
            with_reducible rfl
          rotate_left
          · simp only [Act.put, List.setIfInBounds_toArray, List.set_cons_zero, List.set_cons_succ, i64_w, i32_w]
            rfl
          refine pure_ (i := 2) (N := some 52) (v := ?_) (a' := ?_) #[true, true, true, false, false, false, false, false, false, false, false, false, false, false, false, false] rfl rfl (any_of HT_.out (by kernel_rfl)) (fun _ _ _ h => h) (Or.inl ⟨by rfl, ?_⟩) ?_ ?_
          rotate_left
          · intro w'
            go_simp
            with_reducible rfl
          rotate_left
          · simp only [Act.put, List.setIfInBounds_toArray, List.set_cons_zero, List.set_cons_succ, i64_w, i32_w]
            rfl
          refine pure_ (i := 3) (N := some 53) (v := ?_) (a' := ?_) #[true, true, true, true, false, false, false, false, false, false, false, false, false, false, false, false] rfl rfl (any_of HT_.out (by kernel_rfl)) (fun _ _ _ h => h) (Or.inl ⟨by rfl, ?_⟩) ?_ ?_
          rotate_left
          · intro w'
            go_simp
            with_reducible rfl
          rotate_left
          · simp only [Act.put, List.setIfInBounds_toArray, List.set_cons_zero, List.set_cons_succ, i64_w, i32_w]
            rfl
          refine pure_ (i := 4) (N := some 54) (v := ?_) (a' := ?_) #[true, true, true, true, true, false, false, false, false, false, false, false, false, false, false, false] rfl rfl (any_of HT_.out (by kernel_rfl)) (fun _ _ _ h => h) (Or.inl ⟨by rfl, ?_⟩) ?_ ?_
          rotate_left
          · intro w'
            go_simp
            with_reducible rfl
          rotate_left
          · simp only [Act.put, List.setIfInBounds_toArray, List.set_cons_zero, List.set_cons_succ, i64_w, i32_w]
            rfl
          refine pure_ (i := 5) (N := some 55) (v := ?_) (a' := ?_) #[true, true, true, true, true, true, false, false, false, false, false, false, false, false, false, false] rfl rfl (any_of HT_.out (by kernel_rfl)) (fun _ _ _ h => h) (Or.inl ⟨by rfl, ?_⟩) ?_ ?_
          rotate_left
          · intro w'
            go_simp
            with_reducible rfl
          rotate_left
          · simp only [Act.put, List.setIfInBounds_toArray, List.set_cons_zero, List.set_cons_succ, i64_w, i32_w]
            rfl
          refine pure_ (i := 6) (N := some 56) (v := ?_) (a' := ?_) #[true, true, true, true, true, true, true, false, false, false, false, false, false, false, false, false] rfl rfl (any_of HT_.out (by kernel_rfl)) (fun _ _ _ h => h) (Or.inl ⟨by rfl, ?_⟩) ?_ ?_
          rotate_left
          · intro w'
            go_simp
            with_reducible rfl
          rotate_left
          · simp only [Act.put, List.setIfInBounds_toArray, List.set_cons_zero, List.set_cons_succ, i64_w, i32_w]
            rfl
          refine pure_ (i := 7) (N := some 57) (v := ?_) (a' := ?_) #[true, true, true, true, true, true, true, true, false, false, false, false, false, false, false, false] rfl rfl (any_of HT_.out (by kernel_rfl)) (fun _ _ _ h => h) (Or.inl ⟨by rfl, ?_⟩) ?_ ?_
          rotate_left
          · intro w'
            go_simp
            with_reducible rfl
          rotate_left
          · simp only [Act.put, List.setIfInBounds_toArray, List.set_cons_zero, List.set_cons_succ, i64_w, i32_w]
            rfl
          refine pure_ (i := 8) (N := some 58) (v := ?_) (a' := ?_) #[true, true, true, true, true, true, true, true, true, false, false, false, false, false, false, false] rfl rfl (any_of HT_.out (by kernel_rfl)) (fun _ _ _ h => h) (Or.inl ⟨by rfl, ?_⟩) ?_ ?_
          rotate_left
          · intro w'
            go_simp
            with_reducible rfl
          rotate_left
          · simp only [Act.put, List.setIfInBounds_toArray, List.set_cons_zero, List.set_cons_succ, i64_w, i32_w]
            rfl
          refine pure_ (i := 9) (N := some 59) (v := ?_) (a' := ?_) #[true, true, true, true, true, true, true, true, true, true, false, false, false, false, false, false] rfl rfl (any_of HT_.out (by kernel_rfl)) (fun _ _ _ h => h) (Or.inl ⟨by rfl, ?_⟩) ?_ ?_
          rotate_left
          · intro w'
            go_simp
            with_reducible rfl
          rotate_left
          · simp only [Act.put, List.setIfInBounds_toArray, List.set_cons_zero, List.set_cons_succ, i64_w, i32_w]
            rfl
          refine one_ (i := 10) (N := some 60) #[true, true, true, true, true, true, true, true, true, true, true, false, false, false, false, false] rfl rfl (one_of HT_.out (by kernel_rfl)) (by decide) (fun K hK => ?_)
          refine goes_ Try.func9 (by kernel_rfl) rfl #[.int .i64 k, .int .i64 (0), .int .i64 (0), .int .i64 (0)] (by rfl) rfl rfl (by simp only [List.map_toArray, List.map_cons, List.map_nil]; first | rfl | (simp [Act.eval])) ?_
          with_reducible refine (guess_calls k 0 0 0 _ HA2.out HB2.out (by omega)).mono ?_
          rw [HGc.out]
          rintro e w4 ⟨rfl, hb⟩
          refine ⟨_, rfl, ?_⟩
          have nb_ := Aside0.mk (below_step HB.out hb)
          have nl_ := Aside0.mk (Kd.R_below HL.out hb)
          clear HB HL hb
          have HB := nb_
          have HL := nl_
          clear nb_ nl_
          refine hK.out _ _ trivial (fun hHeld => ?_)
          clear hK K
          refine norm_ (a' := ?_) ?_ ?_
          rotate_left
          · show Act.put _ (some 60) _ = _
            simp only [Act.put, List.setIfInBounds_toArray, List.set_cons_zero, List.set_cons_succ, i64_w, i32_w]
            rfl
          refine one_ (i := 11) (N := some 61) #[true, true, true, true, true, true, true, true, true, true, true, true, false, false, false, false] rfl rfl (one_of HT_.out (by kernel_rfl)) (by decide) (fun K hK => ?_)
          refine call_ 22 #[.int .i64 X, .int .i64 G] (by rfl) rfl (by have he := enters_ Try.func22 (by kernel_rfl) rfl #[.int .i64 X, .int .i64 G] w4; unfold execOp; simp [resolve, Deferred.ofValue, invoke, Act.eval, wX, he]) ?_
          with_reducible refine (less_calls X G _ HX2.out HG2.out).mono ?_
          rw [HD.out]
          rintro e w5 ⟨rfl, rfl⟩
          refine ⟨_, rfl, ?_⟩
          refine hK.out _ _ trivial (fun hHeld => ?_)
          clear hK K
          refine norm_ (a' := ?_) ?_ ?_
          rotate_left
          · show Act.put _ (some 61) _ = _
            simp only [Act.put, List.setIfInBounds_toArray, List.set_cons_zero, List.set_cons_succ, i64_w, i32_w]
            rfl
          refine pure_ (i := 12) (N := some 62) (v := ?_) (a' := ?_) #[true, true, true, true, true, true, true, true, true, true, true, true, true, false, false, false] rfl rfl (any_of HT_.out (by kernel_rfl)) (fun _ _ _ h => h) (Or.inl ⟨by rfl, ?_⟩) ?_ ?_
          rotate_left
          · intro w'
            go_simp
            with_reducible rfl
          rotate_left
          · simp only [Act.put, List.setIfInBounds_toArray, List.set_cons_zero, List.set_cons_succ, i64_w, i32_w]
            rfl
          refine one_ (i := 13) (N := some 63) #[true, true, true, true, true, true, true, true, true, true, true, true, true, true, false, false] rfl rfl (one_of HT_.out (by kernel_rfl)) (by decide) (fun K hK => ?_)
          refine value_ (w1 := w4.alloc (.cells #[.int .u8 (D % 256)] 5)) (v := .slice (some ⟨w4.heap.size, 0, none⟩) 1 1) (by rfl) rfl (by first | (go_simp; done) | (go_simp; rfl)) ?_
          refine hK.out _ _ trivial (fun hHeld => ?_)
          clear hK K
          refine norm_ (a' := ?_) ?_ ?_
          rotate_left
          · show Act.put _ (some 63) _ = _
            simp only [Act.put, List.setIfInBounds_toArray, List.set_cons_zero, List.set_cons_succ, i64_w, i32_w]
            rfl
          refine one_ (i := 14) (N := some 64) #[true, true, true, true, true, true, true, true, true, true, true, true, true, true, true, false] rfl rfl (one_of HT_.out (by kernel_rfl)) (by decide) (fun K hK => ?_)
          refine Kd.R_append_step (Kd.int .u8) (W := w4) (w0 := w) w.heap.size (by rfl) (.tmp 50) (.tmp 63) 33 5 _ 1 rfl Try.underlying33 info5 rfl (by decide) (by decide) (.slice A13 i c13) (fL k st prev row i) (D % 256) [.int .u8 (D % 256)] (fun _ => True) (fun _ => False) rfl rfl rfl (fun _ h => h.elim) (fun _ _ => trivial) HL.out HB.out HB.out.size (by rw [fL_len]; have := HROW.out; have := HG.out; omega) ?_
          intro v6 w6 hl_ hb_ hg_ hn_
          clear hg_ hn_ HB HL
          have HB := Aside0.mk hb_
          have HL := Aside0.mk hl_
          clear hb_ hl_
          refine hK.out _ _ trivial (fun hHeld => ?_)
          clear hK K
          refine norm_ (a' := ?_) ?_ ?_
          rotate_left
          · show Act.put _ (some 64) _ = _
            simp only [Act.put, List.setIfInBounds_toArray, List.set_cons_zero, List.set_cons_succ, i64_w, i32_w]
            rfl
          refine pure_ (i := 15) (N := some 13) (v := ?_) (a' := ?_) #[true, true, true, true, true, true, true, true, true, true, true, true, true, true, true, true] rfl rfl (any_of HT_.out (by kernel_rfl)) (fun _ _ _ h => h) (Or.inl ⟨by rfl, ?_⟩) ?_ ?_
          rotate_left
          · intro w'
            go_simp
            with_reducible rfl
          rotate_left
          · simp only [Act.put, List.setIfInBounds_toArray, List.set_cons_zero, List.set_cons_succ, i64_w, i32_w]
            rfl
          refine done_ (done_of HT_.out (by kernel_rfl)) ?_
          rw [← HN.out] at HL
          go_wp2
          go_roundg (row.size - (i + 1))
          case measure => have := HG.out; have := HI.out; omega
          case rel => exact ⟨i + 1, wrap_succ i (by have := HROW.out; have := HG.out; omega), ⟨rfl, by have := HI.out; omega⟩, HL, HB⟩
        · skip
          have dA : decide (st ≤ (i : Int)) = false := decide_eq_false cA
          have hA2 : 0 ≤ (0 : Int) ∧ (0 : Int) ≤ 255 := by omega
          have eA : atB row ((i : Int) - st) = 0 := atB_out _ _ (by omega)
          have hE1 : (prev.toList == ([] : List UInt8)) = false := beq_eq_false_iff_ne.mpr cE
          have hE2 : (prev.toList != ([] : List UInt8)) = true := bne_iff_ne.mpr cE
          have hps : prev.size = row.size := by rcases HPR.out with h | h; exact absurd h cE; exact h
          have r2 : ((i : Int) < (prev.size : Int)) = True := eq_true (by omega)
          have hpi : i < prev.size := by omega
          have r3 : (i < prev.size) = True := eq_true hpi
          obtain ⟨B0, hB0⟩ : ∃ B0, bt prev (i : Int) = B0 := ⟨_, rfl⟩
          have hB2 : 0 ≤ B0 ∧ B0 ≤ 255 := by rw [← hB0]; exact bt_range _ _
          have pB : ∀ h : i < prev.size, ((prev[i]'h).toNat : Int) = B0 := fun h => by rw [← hB0]; exact bt_nat _ _ h
          have wB : wrap64 B0 = B0 := by unfold wrap64; omega
          have eB : atB prev (i : Int) = B0 := by rw [atB_in _ _ hpi, hB0]
          have eC : atB prev ((i : Int) - st) = 0 := atB_out _ _ (by omega)
          obtain ⟨G, hG⟩ : ∃ G, gs k 0 B0 0 = G := ⟨_, rfl⟩
          have hG2 : 0 ≤ G ∧ G ≤ 255 := by rw [← hG]; exact gs_range _ _ _ _ hA2 hB2 (by omega)
          obtain ⟨D, hD⟩ : ∃ D, X - G = D := ⟨_, rfl⟩
          have HN := Aside0.mk (show fL k st prev row (i + 1) = fL k st prev row i ++ [D % 256] by rw [fL, eA, eB, eC, hG, hX, hD])
          have HGc := Aside0.mk hG
          have HD := Aside0.mk hD
          have HG2 := Aside0.mk hG2
          have HX2 := Aside0.mk hX2
          have HA2 := Aside0.mk hA2
          have HB2 := Aside0.mk hB2
          have HI := Aside0.mk hi
          clear hG hD hG2 hX2 hA2 hB2 eA eB eC hX hps hi hB0 hpi cA cE
          go_wp2
          have nb_ := Aside0.mk (below_drew1 HB.out)
          have nl_ := Aside0.mk (Kd.R_drew HL.out)
          clear HB HL
          have HB := nb_
          have HL := nl_
          clear nb_ nl_
          refine start_ (n := 16) (S := fun w' => True) (ds := []) #[false, false, false, false, false, false, false, false, false, false, false, false, false, false, false, false] (by kernel_rfl) rfl rfl trivial (fun hHeld => ?_); refine with_tabW each12.tab each12.bits (fun HT_ HW_ => ?_)
          generalize wr.drew = w3 at HB HL hHeld ⊢
          refine pure_ (i := 0) (N := some 50) (v := ?_) (a' := ?_) #[true, false, false, false, false, false, false, false, false, false, false, false, false, false, false, false] rfl rfl (any_of HT_.out (by kernel_rfl)) (fun _ _ _ h => h) (Or.inl ⟨by rfl, ?_⟩) ?_ ?_
          rotate_left
          · intro w'
            go_simp
            with_reducible rfl
          rotate_left
          · simp only [Act.put, List.setIfInBounds_toArray, List.set_cons_zero, List.set_cons_succ, i64_w, i32_w]
            rfl
          refine pure_ (i := 1) (N := some 51) (v := ?_) (a' := ?_) #[true, true, false, false, false, false, false, false, false, false, false, false, false, false, false, false] rfl rfl (any_of HT_.out (by kernel_rfl)) (fun _ _ _ h => h) (Or.inl ⟨by rfl, ?_⟩) ?_ ?_
          rotate_left
          · intro w'
            go_simp
            with_reducible rfl
          rotate_left
          · simp only [Act.put, List.setIfInBounds_toArray, List.set_cons_zero, List.set_cons_succ, i64_w, i32_w]
            rfl
          refine pure_ (i := 2) (N := some 52) (v := ?_) (a' := ?_) #[true, true, true, false, false, false, false, false, false, false, false, false, false, false, false, false] rfl rfl (any_of HT_.out (by kernel_rfl)) (fun _ _ _ h => h) (Or.inl ⟨by rfl, ?_⟩) ?_ ?_
          rotate_left
          · intro w'
            go_simp
            with_reducible rfl
          rotate_left
          · simp only [Act.put, List.setIfInBounds_toArray, List.set_cons_zero, List.set_cons_succ, i64_w, i32_w]
            rfl
          refine pure_ (i := 3) (N := some 53) (v := ?_) (a' := ?_) #[true, true, true, true, false, false, false, false, false, false, false, false, false, false, false, false] rfl rfl (any_of HT_.out (by kernel_rfl)) (fun _ _ _ h => h) (Or.inl ⟨by rfl, ?_⟩) ?_ ?_
          rotate_left
          · intro w'
            go_simp
            with_reducible rfl
          rotate_left
          · simp only [Act.put, List.setIfInBounds_toArray, List.set_cons_zero, List.set_cons_succ, i64_w, i32_w]
            rfl
          refine pure_ (i := 4) (N := some 54) (v := ?_) (a' := ?_) #[true, true, true, true, true, false, false, false, false, false, false, false, false, false, false, false] rfl rfl (any_of HT_.out (by kernel_rfl)) (fun _ _ _ h => h) (Or.inl ⟨by rfl, ?_⟩) ?_ ?_
          rotate_left
          · intro w'
            go_simp
            with_reducible rfl
          rotate_left
          · simp only [Act.put, List.setIfInBounds_toArray, List.set_cons_zero, List.set_cons_succ, i64_w, i32_w]
            rfl
          refine pure_ (i := 5) (N := some 55) (v := ?_) (a' := ?_) #[true, true, true, true, true, true, false, false, false, false, false, false, false, false, false, false] rfl rfl (any_of HT_.out (by kernel_rfl)) (fun _ _ _ h => h) (Or.inl ⟨by rfl, ?_⟩) ?_ ?_
          rotate_left
          · intro w'
            go_simp
            with_reducible rfl
          rotate_left
          · simp only [Act.put, List.setIfInBounds_toArray, List.set_cons_zero, List.set_cons_succ, i64_w, i32_w]
            rfl
          refine pure_ (i := 6) (N := some 56) (v := ?_) (a' := ?_) #[true, true, true, true, true, true, true, false, false, false, false, false, false, false, false, false] rfl rfl (any_of HT_.out (by kernel_rfl)) (fun _ _ _ h => h) (Or.inl ⟨by rfl, ?_⟩) ?_ ?_
          rotate_left
          · intro w'
            go_simp
            with_reducible rfl
          rotate_left
          · simp only [Act.put, List.setIfInBounds_toArray, List.set_cons_zero, List.set_cons_succ, i64_w, i32_w]
            rfl
          refine pure_ (i := 7) (N := some 57) (v := ?_) (a' := ?_) #[true, true, true, true, true, true, true, true, false, false, false, false, false, false, false, false] rfl rfl (any_of HT_.out (by kernel_rfl)) (fun _ _ _ h => h) (Or.inl ⟨by rfl, ?_⟩) ?_ ?_
          rotate_left
          · intro w'
            go_simp
            with_reducible rfl
          rotate_left
          · simp only [Act.put, List.setIfInBounds_toArray, List.set_cons_zero, List.set_cons_succ, i64_w, i32_w]
            rfl
          refine pure_ (i := 8) (N := some 58) (v := ?_) (a' := ?_) #[true, true, true, true, true, true, true, true, true, false, false, false, false, false, false, false] rfl rfl (any_of HT_.out (by kernel_rfl)) (fun _ _ _ h => h) (Or.inl ⟨by rfl, ?_⟩) ?_ ?_
          rotate_left
          · intro w'
            go_simp
            with_reducible rfl
          rotate_left
          · simp only [Act.put, List.setIfInBounds_toArray, List.set_cons_zero, List.set_cons_succ, i64_w, i32_w]
            rfl
          refine pure_ (i := 9) (N := some 59) (v := ?_) (a' := ?_) #[true, true, true, true, true, true, true, true, true, true, false, false, false, false, false, false] rfl rfl (any_of HT_.out (by kernel_rfl)) (fun _ _ _ h => h) (Or.inl ⟨by rfl, ?_⟩) ?_ ?_
          rotate_left
          · intro w'
            go_simp
            with_reducible rfl
          rotate_left
          · simp only [Act.put, List.setIfInBounds_toArray, List.set_cons_zero, List.set_cons_succ, i64_w, i32_w]
            rfl
          refine one_ (i := 10) (N := some 60) #[true, true, true, true, true, true, true, true, true, true, true, false, false, false, false, false] rfl rfl (one_of HT_.out (by kernel_rfl)) (by decide) (fun K hK => ?_)
          refine goes_ Try.func9 (by kernel_rfl) rfl #[.int .i64 k, .int .i64 (0), .int .i64 (B0), .int .i64 (0)] (by rfl) rfl rfl (by simp only [List.map_toArray, List.map_cons, List.map_nil]; first | rfl | (simp [Act.eval, wB])) ?_
          with_reducible refine (guess_calls k 0 B0 0 _ HA2.out HB2.out (by omega)).mono ?_
          rw [HGc.out]
          rintro e w4 ⟨rfl, hb⟩
          refine ⟨_, rfl, ?_⟩
          have nb_ := Aside0.mk (below_step HB.out hb)
          have nl_ := Aside0.mk (Kd.R_below HL.out hb)
          clear HB HL hb
          have HB := nb_
          have HL := nl_
          clear nb_ nl_
          refine hK.out _ _ trivial (fun hHeld => ?_)
          clear hK K
          refine norm_ (a' := ?_) ?_ ?_
          rotate_left
          · show Act.put _ (some 60) _ = _
            simp only [Act.put, List.setIfInBounds_toArray, List.set_cons_zero, List.set_cons_succ, i64_w, i32_w]
            rfl
          refine one_ (i := 11) (N := some 61) #[true, true, true, true, true, true, true, true, true, true, true, true, false, false, false, false] rfl rfl (one_of HT_.out (by kernel_rfl)) (by decide) (fun K hK => ?_)
          refine call_ 22 #[.int .i64 X, .int .i64 G] (by rfl) rfl (by have he := enters_ Try.func22 (by kernel_rfl) rfl #[.int .i64 X, .int .i64 G] w4; unfold execOp; simp [resolve, Deferred.ofValue, invoke, Act.eval, wX, he]) ?_
          with_reducible refine (less_calls X G _ HX2.out HG2.out).mono ?_
          rw [HD.out]
          rintro e w5 ⟨rfl, rfl⟩
          refine ⟨_, rfl, ?_⟩
          refine hK.out _ _ trivial (fun hHeld => ?_)
          clear hK K
          refine norm_ (a' := ?_) ?_ ?_
          rotate_left
          · show Act.put _ (some 61) _ = _
            simp only [Act.put, List.setIfInBounds_toArray, List.set_cons_zero, List.set_cons_succ, i64_w, i32_w]
            rfl
          refine pure_ (i := 12) (N := some 62) (v := ?_) (a' := ?_) #[true, true, true, true, true, true, true, true, true, true, true, true, true, false, false, false] rfl rfl (any_of HT_.out (by kernel_rfl)) (fun _ _ _ h => h) (Or.inl ⟨by rfl, ?_⟩) ?_ ?_
          rotate_left
          · intro w'
            go_simp
            with_reducible rfl
          rotate_left
          · simp only [Act.put, List.setIfInBounds_toArray, List.set_cons_zero, List.set_cons_succ, i64_w, i32_w]
            rfl
          refine one_ (i := 13) (N := some 63) #[true, true, true, true, true, true, true, true, true, true, true, true, true, true, false, false] rfl rfl (one_of HT_.out (by kernel_rfl)) (by decide) (fun K hK => ?_)
          refine value_ (w1 := w4.alloc (.cells #[.int .u8 (D % 256)] 5)) (v := .slice (some ⟨w4.heap.size, 0, none⟩) 1 1) (by rfl) rfl (by first | (go_simp; done) | (go_simp; rfl)) ?_
          refine hK.out _ _ trivial (fun hHeld => ?_)
          clear hK K
          refine norm_ (a' := ?_) ?_ ?_
          rotate_left
          · show Act.put _ (some 63) _ = _
            simp only [Act.put, List.setIfInBounds_toArray, List.set_cons_zero, List.set_cons_succ, i64_w, i32_w]
            rfl
          refine one_ (i := 14) (N := some 64) #[true, true, true, true, true, true, true, true, true, true, true, true, true, true, true, false] rfl rfl (one_of HT_.out (by kernel_rfl)) (by decide) (fun K hK => ?_)
          refine Kd.R_append_step (Kd.int .u8) (W := w4) (w0 := w) w.heap.size (by rfl) (.tmp 50) (.tmp 63) 33 5 _ 1 rfl Try.underlying33 info5 rfl (by decide) (by decide) (.slice A13 i c13) (fL k st prev row i) (D % 256) [.int .u8 (D % 256)] (fun _ => True) (fun _ => False) rfl rfl rfl (fun _ h => h.elim) (fun _ _ => trivial) HL.out HB.out HB.out.size (by rw [fL_len]; have := HROW.out; have := HG.out; omega) ?_
          intro v6 w6 hl_ hb_ hg_ hn_
          clear hg_ hn_ HB HL
          have HB := Aside0.mk hb_
          have HL := Aside0.mk hl_
          clear hb_ hl_
          refine hK.out _ _ trivial (fun hHeld => ?_)
          clear hK K
          refine norm_ (a' := ?_) ?_ ?_
          rotate_left
          · show Act.put _ (some 64) _ = _
            simp only [Act.put, List.setIfInBounds_toArray, List.set_cons_zero, List.set_cons_succ, i64_w, i32_w]
            rfl
          refine pure_ (i := 15) (N := some 13) (v := ?_) (a' := ?_) #[true, true, true, true, true, true, true, true, true, true, true, true, true, true, true, true] rfl rfl (any_of HT_.out (by kernel_rfl)) (fun _ _ _ h => h) (Or.inl ⟨by rfl, ?_⟩) ?_ ?_
          rotate_left
          · intro w'
            go_simp
            with_reducible rfl
          rotate_left
          · simp only [Act.put, List.setIfInBounds_toArray, List.set_cons_zero, List.set_cons_succ, i64_w, i32_w]
            rfl
          refine done_ (done_of HT_.out (by kernel_rfl)) ?_
          rw [← HN.out] at HL
          go_wp2
          go_roundg (row.size - (i + 1))
          case measure => have := HG.out; have := HI.out; omega
          case rel => exact ⟨i + 1, wrap_succ i (by have := HROW.out; have := HG.out; omega), ⟨rfl, by have := HI.out; omega⟩, HL, HB⟩
    · have d0 : decide ((i : Int) < (row.size : Int)) = false := decide_eq_false (by omega)
      have d1 : decide (i < row.size) = false := decide_eq_false hi
      have hi2 : i = row.size := by have := HG.out; omega
      subst hi2
      have hcv := own_string (P := Try.prog) Try.underlying33 Try.underlying5 Try.underlying9 (Kd.own_of_R HL.out)
      go_wp2
      go_ret
      exact ⟨rfl, HB.out⟩

set_option maxHeartbeats 8000000 in
set_option maxRecDepth 100000 in
theorem each_unf (k st : Int) (prev row : ByteArray) (w : World) (hst : 1 ≤ st) (hst2 : st ≤ 9223372036854775807) (hpr : prev.toList = [] ∨ prev.size = row.size) (hrow : row.size ≤ 1000000) :
    Calls Try.prog 23 #[.int .i64 k, .int .i64 st, .string prev, .string row, .func (.func 27) #[] #[], .func (.func 28) #[] #[]] w fun e w' => e = .returned (.string (strOfNums (uL k st prev row row.size))) ∧ Below w.heap.size w w' := by
  have HB := Aside0.mk (Below.refl w.heap.size w)
  have HROW := Aside0.mk hrow
  have HST := Aside0.mk (And.intro hst hst2)
  have HPR := Aside0.mk hpr
  clear hrow hst hst2 hpr
  go_enter Try.func23, Try.ntmps23
  go_wp2_with (first | ((with_reducible refine gate_dst (N := 20) rfl ?_); refine make_row w.heap.size rfl (N := 20) rfl rfl row.size rfl rfl (by have := HROW.out; omega) HB.out HB.out.size ?_; intro v102 w2 ho_ hb_; clear HB; have HB := Aside0.mk hb_; have HO := Aside0.mk ho_; clear ho_ hb_; obtain ⟨A4, c4, e4⟩ := Kd.R_slice HO.out; subst e4))
  have HL := Aside0.mk (show Kd.R (Kd.int .u8) 5 w2 w.heap.size (fun _ => True) (.slice A4 ([] : List Int).length c4) (uL k st prev row 0) from HO.out)
  clear HO
  go_loopg [13, 23] row.size (fun g v13 v23 wr => ∃ (i : Nat), v23 = .int .i64 (i : Int) ∧ Aside0 (g = row.size - i ∧ i ≤ row.size) ∧ Aside0 (Kd.R (Kd.int .u8) 5 wr w.heap.size (fun _ => True) v13 (uL k st prev row i)) ∧ Aside0 (Below w.heap.size w wr))
  case atStart => exact ⟨0, rfl, ⟨by omega, by omega⟩, HL, HB⟩
  case round =>
    clear HL HB
    obtain ⟨i, rfl, HG, HL, HB⟩ := hrel
    obtain ⟨A13, c13, e13⟩ := Kd.R_slice HL.out
    rw [uL_len] at e13
    subst e13
    by_cases hi : i < row.size
    · skip
      have d0 : decide ((i : Int) < (row.size : Int)) = true := decide_eq_true (by omega)
      have d1 : decide (i < row.size) = true := decide_eq_true hi
      have p1 : (0 ≤ (i : Int)) = True := eq_true (by omega)
      have p2 : ((i : Int) < (row.size : Int)) = True := eq_true (by omega)
      have p3 : (i < row.size) = True := eq_true hi
      obtain ⟨X, hX⟩ : ∃ X, bt row (i : Int) = X := ⟨_, rfl⟩
      have hX2 : 0 ≤ X ∧ X ≤ 255 := by rw [← hX]; exact bt_range _ _
      have pX : ∀ h : i < row.size, ((row[i]'h).toNat : Int) = X := fun h => by rw [← hX]; exact bt_nat _ _ h
      have wX : wrap64 X = X := by unfold wrap64; omega
      by_cases cA : st ≤ (i : Int)
      · by_cases cE : prev.toList = []
        · skip
          have dA : decide (st ≤ (i : Int)) = true := decide_eq_true cA
          obtain ⟨q, hq⟩ : ∃ q : Nat, (i : Int) - st = q := ⟨((i : Int) - st).toNat, by omega⟩
          have wq : wrap64 ((i : Int) - st) = (q : Int) := by have := HST.out; have := HROW.out; rw [hq]; unfold wrap64; omega
          have hqi : q < i := by have := HST.out; omega
          have q1 : (0 ≤ (q : Int)) = True := eq_true (by omega)
          obtain ⟨A0, hA0⟩ : ∃ A0, rd (uL k st prev row i) (q : Int) = A0 := ⟨_, rfl⟩
          have hA2 : 0 ≤ A0 ∧ A0 ≤ 255 := by rw [← hA0]; exact rd_range _ _ (uL_range k st prev row i)
          have eA : atL (uL k st prev row i) ((i : Int) - st) = A0 := by rw [hq, atL_in _ _ (by rw [uL_len]; omega), hA0]
          have hE1 : (prev.toList == ([] : List UInt8)) = true := beq_iff_eq.mpr cE
          have hE2 : (prev.toList != ([] : List UInt8)) = false := bne_eq_false_iff_eq.mpr cE
          have hps : prev.size = 0 := by rw [Go.ByteArray.toList_eq] at cE; have h := congrArg List.length cE; simpa using h
          have hB2 : 0 ≤ (0 : Int) ∧ (0 : Int) ≤ 255 := by omega
          have eB : atB prev (i : Int) = 0 := atB_out2 _ _ (by omega)
          have eC : atB prev ((i : Int) - st) = 0 := by by_cases h : 0 ≤ (i : Int) - st; exact atB_out2 _ _ (by omega); exact atB_out _ _ (by omega)
          obtain ⟨G, hG⟩ : ∃ G, gs k A0 0 0 = G := ⟨_, rfl⟩
          have hG2 : 0 ≤ G ∧ G ≤ 255 := by rw [← hG]; exact gs_range _ _ _ _ hA2 hB2 (by omega)
          obtain ⟨D, hD⟩ : ∃ D, X + G = D := ⟨_, rfl⟩
          have HN := Aside0.mk (show uL k st prev row (i + 1) = uL k st prev row i ++ [D % 256] by rw [uL, eA, eB, eC, hG, hX, hD])
          have HGc := Aside0.mk hG
          have HD := Aside0.mk hD
          have HG2 := Aside0.mk hG2
          have HX2 := Aside0.mk hX2
          have HA2 := Aside0.mk hA2
          have HB2 := Aside0.mk hB2
          have HQ := Aside0.mk hqi
          have HAa := Aside0.mk hA0
          have HI := Aside0.mk hi
          clear hG hD hG2 hX2 hA2 hB2 eA eB eC hX hps hi hA0 hqi hq cA cE
          go_wp2_with (first | (go_at_call 28; (with_reducible refine (known2_calls q _ _ _ (uL k st prev row i) _ ?side3 ?side1 ?side4 ?side5).mono ?_); (case side1 => exact (Kd.R_reads' HL.out).2.2); (case side3 => exact (uL_len _ _ _ _ _).symm); (case side4 => rw [uL_len]; exact HQ.out); (case side5 => exact uL_range _ _ _ _ _); rw [HAa.out]; rintro e w' ⟨rfl, rfl⟩))
          have nb_ := Aside0.mk (below_drew1 HB.out)
          have nl_ := Aside0.mk (Kd.R_drew HL.out)
          clear HB HL
          have HB := nb_
          have HL := nl_
          clear nb_ nl_
          refine start_ (n := 16) (S := fun w' => True) (ds := []) #[false, false, false, false, false, false, false, false, false, false, false, false, false, false, false, false] (by kernel_rfl) rfl rfl trivial (fun hHeld => ?_); refine with_tabW each12.tab each12.bits (fun HT_ HW_ => ?_)
          generalize wr.drew = w3 at HB HL hHeld ⊢
          refine pure_ (i := 0) (N := some 50) (v := ?_) (a' := ?_) #[true, false, false, false, false, false, false, false, false, false, false, false, false, false, false, false] rfl rfl (any_of HT_.out (by kernel_rfl)) (fun _ _ _ h => h) (Or.inl ⟨by rfl, ?_⟩) ?_ ?_
          rotate_left
          · intro w'
            go_simp
            with_reducible rfl
          rotate_left
          · simp only [Act.put, List.setIfInBounds_toArray, List.set_cons_zero, List.set_cons_succ, i64_w, i32_w]
            rfl
          refine pure_ (i := 1) (N := some 51) (v := ?_) (a' := ?_) #[true, true, false, false, false, false, false, false, false, false, false, false, false, false, false, false] rfl rfl (any_of HT_.out (by kernel_rfl)) (fun _ _ _ h => h) (Or.inl ⟨by rfl, ?_⟩) ?_ ?_
          rotate_left
          · intro w'
            go_simp
            with_reducible rfl
          rotate_left
          · simp only [Act.put, List.setIfInBounds_toArray, List.set_cons_zero, List.set_cons_succ, i64_w, i32_w]
            rfl
          refine pure_ (i := 2) (N := some 52) (v := ?_) (a' := ?_) #[true, true, true, false, false, false, false, false, false, false, false, false, false, false, false, false] rfl rfl (any_of HT_.out (by kernel_rfl)) (fun _ _ _ h => h) (Or.inl ⟨by rfl, ?_⟩) ?_ ?_
          rotate_left
          · intro w'
            go_simp
            with_reducible rfl
          rotate_left
          · simp only [Act.put, List.setIfInBounds_toArray, List.set_cons_zero, List.set_cons_succ, i64_w, i32_w]
            rfl
          refine pure_ (i := 3) (N := some 53) (v := ?_) (a' := ?_) #[true, true, true, true, false, false, false, false, false, false, false, false, false, false, false, false] rfl rfl (any_of HT_.out (by kernel_rfl)) (fun _ _ _ h => h) (Or.inl ⟨by rfl, ?_⟩) ?_ ?_
          rotate_left
          · intro w'
            go_simp
            with_reducible rfl
          rotate_left
          · simp only [Act.put, List.setIfInBounds_toArray, List.set_cons_zero, List.set_cons_succ, i64_w, i32_w]
            rfl
          refine pure_ (i := 4) (N := some 54) (v := ?_) (a' := ?_) #[true, true, true, true, true, false, false, false, false, false, false, false, false, false, false, false] rfl rfl (any_of HT_.out (by kernel_rfl)) (fun _ _ _ h => h) (Or.inl ⟨by rfl, ?_⟩) ?_ ?_
          rotate_left
          · intro w'
            go_simp
            with_reducible rfl
          rotate_left
          · simp only [Act.put, List.setIfInBounds_toArray, List.set_cons_zero, List.set_cons_succ, i64_w, i32_w]
            rfl
          refine pure_ (i := 5) (N := some 55) (v := ?_) (a' := ?_) #[true, true, true, true, true, true, false, false, false, false, false, false, false, false, false, false] rfl rfl (any_of HT_.out (by kernel_rfl)) (fun _ _ _ h => h) (Or.inl ⟨by rfl, ?_⟩) ?_ ?_
          rotate_left
          · intro w'
            go_simp
            with_reducible rfl
          rotate_left
          · simp only [Act.put, List.setIfInBounds_toArray, List.set_cons_zero, List.set_cons_succ, i64_w, i32_w]
            rfl
          refine pure_ (i := 6) (N := some 56) (v := ?_) (a' := ?_) #[true, true, true, true, true, true, true, false, false, false, false, false, false, false, false, false] rfl rfl (any_of HT_.out (by kernel_rfl)) (fun _ _ _ h => h) (Or.inl ⟨by rfl, ?_⟩) ?_ ?_
          rotate_left
          · intro w'
            go_simp
            with_reducible rfl
          rotate_left
          · simp only [Act.put, List.setIfInBounds_toArray, List.set_cons_zero, List.set_cons_succ, i64_w, i32_w]
            rfl
          refine pure_ (i := 7) (N := some 57) (v := ?_) (a' := ?_) #[true, true, true, true, true, true, true, true, false, false, false, false, false, false, false, false] rfl rfl (any_of HT_.out (by kernel_rfl)) (fun _ _ _ h => h) (Or.inl ⟨by rfl, ?_⟩) ?_ ?_
          rotate_left
          · intro w'
            go_simp
            with_reducible rfl
          rotate_left
          · simp only [Act.put, List.setIfInBounds_toArray, List.set_cons_zero, List.set_cons_succ, i64_w, i32_w]
            rfl
          refine pure_ (i := 8) (N := some 58) (v := ?_) (a' := ?_) #[true, true, true, true, true, true, true, true, true, false, false, false, false, false, false, false] rfl rfl (any_of HT_.out (by kernel_rfl)) (fun _ _ _ h => h) (Or.inl ⟨by rfl, ?_⟩) ?_ ?_
          rotate_left
          · intro w'
            go_simp
            with_reducible rfl
          rotate_left
          · simp only [Act.put, List.setIfInBounds_toArray, List.set_cons_zero, List.set_cons_succ, i64_w, i32_w]
            rfl
          refine pure_ (i := 9) (N := some 59) (v := ?_) (a' := ?_) #[true, true, true, true, true, true, true, true, true, true, false, false, false, false, false, false] rfl rfl (any_of HT_.out (by kernel_rfl)) (fun _ _ _ h => h) (Or.inl ⟨by rfl, ?_⟩) ?_ ?_
          rotate_left
          · intro w'
            go_simp
            with_reducible rfl
          rotate_left
          · simp only [Act.put, List.setIfInBounds_toArray, List.set_cons_zero, List.set_cons_succ, i64_w, i32_w]
            rfl
          refine one_ (i := 10) (N := some 60) #[true, true, true, true, true, true, true, true, true, true, true, false, false, false, false, false] rfl rfl (one_of HT_.out (by kernel_rfl)) (by decide) (fun K hK => ?_)
          refine goes_ Try.func9 (by kernel_rfl) rfl #[.int .i64 k, .int .i64 (A0), .int .i64 (0), .int .i64 (0)] (by rfl) rfl rfl (by simp only [List.map_toArray, List.map_cons, List.map_nil]; first | rfl | (simp [Act.eval])) ?_
          with_reducible refine (guess_calls k A0 0 0 _ HA2.out HB2.out (by omega)).mono ?_
          rw [HGc.out]
          rintro e w4 ⟨rfl, hb⟩
          refine ⟨_, rfl, ?_⟩
          have nb_ := Aside0.mk (below_step HB.out hb)
          have nl_ := Aside0.mk (Kd.R_below HL.out hb)
          clear HB HL hb
          have HB := nb_
          have HL := nl_
          clear nb_ nl_
          refine hK.out _ _ trivial (fun hHeld => ?_)
          clear hK K
          refine norm_ (a' := ?_) ?_ ?_
          rotate_left
          · show Act.put _ (some 60) _ = _
            simp only [Act.put, List.setIfInBounds_toArray, List.set_cons_zero, List.set_cons_succ, i64_w, i32_w]
            rfl
          refine one_ (i := 11) (N := some 61) #[true, true, true, true, true, true, true, true, true, true, true, true, false, false, false, false] rfl rfl (one_of HT_.out (by kernel_rfl)) (by decide) (fun K hK => ?_)
          refine call_ 27 #[.int .i64 X, .int .i64 G] (by rfl) rfl (by have he := enters_ Try.func27 (by kernel_rfl) rfl #[.int .i64 X, .int .i64 G] w4; unfold execOp; simp [resolve, Deferred.ofValue, invoke, Act.eval, wX, he]) ?_
          with_reducible refine (more_calls X G _ HX2.out HG2.out).mono ?_
          rw [HD.out]
          rintro e w5 ⟨rfl, rfl⟩
          refine ⟨_, rfl, ?_⟩
          refine hK.out _ _ trivial (fun hHeld => ?_)
          clear hK K
          refine norm_ (a' := ?_) ?_ ?_
          rotate_left
          · show Act.put _ (some 61) _ = _
            simp only [Act.put, List.setIfInBounds_toArray, List.set_cons_zero, List.set_cons_succ, i64_w, i32_w]
            rfl
          refine pure_ (i := 12) (N := some 62) (v := ?_) (a' := ?_) #[true, true, true, true, true, true, true, true, true, true, true, true, true, false, false, false] rfl rfl (any_of HT_.out (by kernel_rfl)) (fun _ _ _ h => h) (Or.inl ⟨by rfl, ?_⟩) ?_ ?_
          rotate_left
          · intro w'
            go_simp
            with_reducible rfl
          rotate_left
          · simp only [Act.put, List.setIfInBounds_toArray, List.set_cons_zero, List.set_cons_succ, i64_w, i32_w]
            rfl
          refine one_ (i := 13) (N := some 63) #[true, true, true, true, true, true, true, true, true, true, true, true, true, true, false, false] rfl rfl (one_of HT_.out (by kernel_rfl)) (by decide) (fun K hK => ?_)
          refine value_ (w1 := w4.alloc (.cells #[.int .u8 (D % 256)] 5)) (v := .slice (some ⟨w4.heap.size, 0, none⟩) 1 1) (by rfl) rfl (by first | (go_simp; done) | (go_simp; rfl)) ?_
          refine hK.out _ _ trivial (fun hHeld => ?_)
          clear hK K
          refine norm_ (a' := ?_) ?_ ?_
          rotate_left
          · show Act.put _ (some 63) _ = _
            simp only [Act.put, List.setIfInBounds_toArray, List.set_cons_zero, List.set_cons_succ, i64_w, i32_w]
            rfl
          refine one_ (i := 14) (N := some 64) #[true, true, true, true, true, true, true, true, true, true, true, true, true, true, true, false] rfl rfl (one_of HT_.out (by kernel_rfl)) (by decide) (fun K hK => ?_)
          refine Kd.R_append_step (Kd.int .u8) (W := w4) (w0 := w) w.heap.size (by rfl) (.tmp 50) (.tmp 63) 33 5 _ 1 rfl Try.underlying33 info5 rfl (by decide) (by decide) (.slice A13 i c13) (uL k st prev row i) (D % 256) [.int .u8 (D % 256)] (fun _ => True) (fun _ => False) rfl rfl rfl (fun _ h => h.elim) (fun _ _ => trivial) HL.out HB.out HB.out.size (by rw [uL_len]; have := HROW.out; have := HG.out; omega) ?_
          intro v6 w6 hl_ hb_ hg_ hn_
          clear hg_ hn_ HB HL
          have HB := Aside0.mk hb_
          have HL := Aside0.mk hl_
          clear hb_ hl_
          refine hK.out _ _ trivial (fun hHeld => ?_)
          clear hK K
          refine norm_ (a' := ?_) ?_ ?_
          rotate_left
          · show Act.put _ (some 64) _ = _
            simp only [Act.put, List.setIfInBounds_toArray, List.set_cons_zero, List.set_cons_succ, i64_w, i32_w]
            rfl
          refine pure_ (i := 15) (N := some 13) (v := ?_) (a' := ?_) #[true, true, true, true, true, true, true, true, true, true, true, true, true, true, true, true] rfl rfl (any_of HT_.out (by kernel_rfl)) (fun _ _ _ h => h) (Or.inl ⟨by rfl, ?_⟩) ?_ ?_
          rotate_left
          · intro w'
            go_simp
            with_reducible rfl
          rotate_left
          · simp only [Act.put, List.setIfInBounds_toArray, List.set_cons_zero, List.set_cons_succ, i64_w, i32_w]
            rfl
          refine done_ (done_of HT_.out (by kernel_rfl)) ?_
          rw [← HN.out] at HL
          go_wp2
          go_roundg (row.size - (i + 1))
          case measure => have := HG.out; have := HI.out; omega
          case rel => exact ⟨i + 1, wrap_succ i (by have := HROW.out; have := HG.out; omega), ⟨rfl, by have := HI.out; omega⟩, HL, HB⟩
        · skip
          have dA : decide (st ≤ (i : Int)) = true := decide_eq_true cA
          obtain ⟨q, hq⟩ : ∃ q : Nat, (i : Int) - st = q := ⟨((i : Int) - st).toNat, by omega⟩
          have wq : wrap64 ((i : Int) - st) = (q : Int) := by have := HST.out; have := HROW.out; rw [hq]; unfold wrap64; omega
          have hqi : q < i := by have := HST.out; omega
          have q1 : (0 ≤ (q : Int)) = True := eq_true (by omega)
          obtain ⟨A0, hA0⟩ : ∃ A0, rd (uL k st prev row i) (q : Int) = A0 := ⟨_, rfl⟩
          have hA2 : 0 ≤ A0 ∧ A0 ≤ 255 := by rw [← hA0]; exact rd_range _ _ (uL_range k st prev row i)
          have eA : atL (uL k st prev row i) ((i : Int) - st) = A0 := by rw [hq, atL_in _ _ (by rw [uL_len]; omega), hA0]
          have hE1 : (prev.toList == ([] : List UInt8)) = false := beq_eq_false_iff_ne.mpr cE
          have hE2 : (prev.toList != ([] : List UInt8)) = true := bne_iff_ne.mpr cE
          have hps : prev.size = row.size := by rcases HPR.out with h | h; exact absurd h cE; exact h
          have r2 : ((i : Int) < (prev.size : Int)) = True := eq_true (by omega)
          have hpi : i < prev.size := by omega
          have r3 : (i < prev.size) = True := eq_true hpi
          obtain ⟨B0, hB0⟩ : ∃ B0, bt prev (i : Int) = B0 := ⟨_, rfl⟩
          have hB2 : 0 ≤ B0 ∧ B0 ≤ 255 := by rw [← hB0]; exact bt_range _ _
          have pB : ∀ h : i < prev.size, ((prev[i]'h).toNat : Int) = B0 := fun h => by rw [← hB0]; exact bt_nat _ _ h
          have wB : wrap64 B0 = B0 := by unfold wrap64; omega
          have eB : atB prev (i : Int) = B0 := by rw [atB_in _ _ hpi, hB0]
          have r4 : ((q : Int) < (prev.size : Int)) = True := eq_true (by omega)
          have hpq : q < prev.size := by omega
          have r5 : (q < prev.size) = True := eq_true hpq
          obtain ⟨C0, hC0⟩ : ∃ C0, bt prev (q : Int) = C0 := ⟨_, rfl⟩
          have hC2 : 0 ≤ C0 ∧ C0 ≤ 255 := by rw [← hC0]; exact bt_range _ _
          have pC : ∀ h : q < prev.size, ((prev[q]'h).toNat : Int) = C0 := fun h => by rw [← hC0]; exact bt_nat _ _ h
          have wC : wrap64 C0 = C0 := by unfold wrap64; omega
          have eC : atB prev ((i : Int) - st) = C0 := by rw [hq, atB_in _ _ hpq, hC0]
          obtain ⟨G, hG⟩ : ∃ G, gs k A0 B0 C0 = G := ⟨_, rfl⟩
          have hG2 : 0 ≤ G ∧ G ≤ 255 := by rw [← hG]; exact gs_range _ _ _ _ hA2 hB2 hC2
          obtain ⟨D, hD⟩ : ∃ D, X + G = D := ⟨_, rfl⟩
          have HN := Aside0.mk (show uL k st prev row (i + 1) = uL k st prev row i ++ [D % 256] by rw [uL, eA, eB, eC, hG, hX, hD])
          have HGc := Aside0.mk hG
          have HD := Aside0.mk hD
          have HG2 := Aside0.mk hG2
          have HX2 := Aside0.mk hX2
          have HA2 := Aside0.mk hA2
          have HB2 := Aside0.mk hB2
          have HC2 := Aside0.mk hC2
          have HQ := Aside0.mk hqi
          have HAa := Aside0.mk hA0
          have HI := Aside0.mk hi
          clear hG hD hG2 hX2 hA2 hB2 eA eB eC hX hps hi hC2 hA0 hqi hq hB0 hpi hC0 hpq cA cE
          go_wp2_with (first | (go_at_call 28; (with_reducible refine (known2_calls q _ _ _ (uL k st prev row i) _ ?side3 ?side1 ?side4 ?side5).mono ?_); (case side1 => exact (Kd.R_reads' HL.out).2.2); (case side3 => exact (uL_len _ _ _ _ _).symm); (case side4 => rw [uL_len]; exact HQ.out); (case side5 => exact uL_range _ _ _ _ _); rw [HAa.out]; rintro e w' ⟨rfl, rfl⟩))
          have nb_ := Aside0.mk (below_drew1 HB.out)
          have nl_ := Aside0.mk (Kd.R_drew HL.out)
          clear HB HL
          have HB := nb_
          have HL := nl_
          clear nb_ nl_
          refine start_ (n := 16) (S := fun w' => True) (ds := []) #[false, false, false, false, false, false, false, false, false, false, false, false, false, false, false, false] (by kernel_rfl) rfl rfl trivial (fun hHeld => ?_); refine with_tabW each12.tab each12.bits (fun HT_ HW_ => ?_)
          generalize wr.drew = w3 at HB HL hHeld ⊢
          refine pure_ (i := 0) (N := some 50) (v := ?_) (a' := ?_) #[true, false, false, false, false, false, false, false, false, false, false, false, false, false, false, false] rfl rfl (any_of HT_.out (by kernel_rfl)) (fun _ _ _ h => h) (Or.inl ⟨by rfl, ?_⟩) ?_ ?_
          rotate_left
          · intro w'
            go_simp
            with_reducible rfl
          rotate_left
          · simp only [Act.put, List.setIfInBounds_toArray, List.set_cons_zero, List.set_cons_succ, i64_w, i32_w]
            rfl
          refine pure_ (i := 1) (N := some 51) (v := ?_) (a' := ?_) #[true, true, false, false, false, false, false, false, false, false, false, false, false, false, false, false] rfl rfl (any_of HT_.out (by kernel_rfl)) (fun _ _ _ h => h) (Or.inl ⟨by rfl, ?_⟩) ?_ ?_
          rotate_left
          · intro w'
            go_simp
            with_reducible rfl
          rotate_left
          · simp only [Act.put, List.setIfInBounds_toArray, List.set_cons_zero, List.set_cons_succ, i64_w, i32_w]
            rfl
          refine pure_ (i := 2) (N := some 52) (v := ?_) (a' := ?_) #[true, true, true, false, false, false, false, false, false, false, false, false, false, false, false, false] rfl rfl (any_of HT_.out (by kernel_rfl)) (fun _ _ _ h => h) (Or.inl ⟨by rfl, ?_⟩) ?_ ?_
          rotate_left
          · intro w'
            go_simp
            with_reducible rfl
          rotate_left
          · simp only [Act.put, List.setIfInBounds_toArray, List.set_cons_zero, List.set_cons_succ, i64_w, i32_w]
            rfl
          refine pure_ (i := 3) (N := some 53) (v := ?_) (a' := ?_) #[true, true, true, true, false, false, false, false, false, false, false, false, false, false, false, false] rfl rfl (any_of HT_.out (by kernel_rfl)) (fun _ _ _ h => h) (Or.inl ⟨by rfl, ?_⟩) ?_ ?_
          rotate_left
          · intro w'
            go_simp
            with_reducible rfl
          rotate_left
          · simp only [Act.put, List.setIfInBounds_toArray, List.set_cons_zero, List.set_cons_succ, i64_w, i32_w]
            rfl
          refine pure_ (i := 4) (N := some 54) (v := ?_) (a' := ?_) #[true, true, true, true, true, false, false, false, false, false, false, false, false, false, false, false] rfl rfl (any_of HT_.out (by kernel_rfl)) (fun _ _ _ h => h) (Or.inl ⟨by rfl, ?_⟩) ?_ ?_
          rotate_left
          · intro w'
            go_simp
            with_reducible rfl
          rotate_left
          · simp only [Act.put, List.setIfInBounds_toArray, List.set_cons_zero, List.set_cons_succ, i64_w, i32_w]
            rfl
          refine pure_ (i := 5) (N := some 55) (v := ?_) (a' := ?_) #[true, true, true, true, true, true, false, false, false, false, false, false, false, false, false, false] rfl rfl (any_of HT_.out (by kernel_rfl)) (fun _ _ _ h => h) (Or.inl ⟨by rfl, ?_⟩) ?_ ?_
          rotate_left
          · intro w'
            go_simp
            with_reducible rfl
          rotate_left
          · simp only [Act.put, List.setIfInBounds_toArray, List.set_cons_zero, List.set_cons_succ, i64_w, i32_w]
            rfl
          refine pure_ (i := 6) (N := some 56) (v := ?_) (a' := ?_) #[true, true, true, true, true, true, true, false, false, false, false, false, false, false, false, false] rfl rfl (any_of HT_.out (by kernel_rfl)) (fun _ _ _ h => h) (Or.inl ⟨by rfl, ?_⟩) ?_ ?_
          rotate_left
          · intro w'
            go_simp
            with_reducible rfl
          rotate_left
          · simp only [Act.put, List.setIfInBounds_toArray, List.set_cons_zero, List.set_cons_succ, i64_w, i32_w]
            rfl
          refine pure_ (i := 7) (N := some 57) (v := ?_) (a' := ?_) #[true, true, true, true, true, true, true, true, false, false, false, false, false, false, false, false] rfl rfl (any_of HT_.out (by kernel_rfl)) (fun _ _ _ h => h) (Or.inl ⟨by rfl, ?_⟩) ?_ ?_
          rotate_left
          · intro w'
            go_simp
            with_reducible rfl
          rotate_left
          · simp only [Act.put, List.setIfInBounds_toArray, List.set_cons_zero, List.set_cons_succ, i64_w, i32_w]
            rfl
          refine pure_ (i := 8) (N := some 58) (v := ?_) (a' := ?_) #[true, true, true, true, true, true, true, true, true, false, false, false, false, false, false, false] rfl rfl (any_of HT_.out (by kernel_rfl)) (fun _ _ _ h => h) (Or.inl ⟨by rfl, ?_⟩) ?_ ?_
          rotate_left
          · intro w'
            go_simp
            with_reducible rfl
          rotate_left
          · simp only [Act.put, List.setIfInBounds_toArray, List.set_cons_zero, List.set_cons_succ, i64_w, i32_w]
            rfl
          refine pure_ (i := 9) (N := some 59) (v := ?_) (a' := ?_) #[true, true, true, true, true, true, true, true, true, true, false, false, false, false, false, false] rfl rfl (any_of HT_.out (by kernel_rfl)) (fun _ _ _ h => h) (Or.inl ⟨by rfl, ?_⟩) ?_ ?_
          rotate_left
          · intro w'
            go_simp
            with_reducible rfl
          rotate_left
          · simp only [Act.put, List.setIfInBounds_toArray, List.set_cons_zero, List.set_cons_succ, i64_w, i32_w]
            rfl
          refine one_ (i := 10) (N := some 60) #[true, true, true, true, true, true, true, true, true, true, true, false, false, false, false, false] rfl rfl (one_of HT_.out (by kernel_rfl)) (by decide) (fun K hK => ?_)
          refine goes_ Try.func9 (by kernel_rfl) rfl #[.int .i64 k, .int .i64 (A0), .int .i64 (B0), .int .i64 (C0)] (by rfl) rfl rfl (by simp only [List.map_toArray, List.map_cons, List.map_nil]; first | rfl | (simp [Act.eval, wB, wC])) ?_
          with_reducible refine (guess_calls k A0 B0 C0 _ HA2.out HB2.out HC2.out).mono ?_
          rw [HGc.out]
          rintro e w4 ⟨rfl, hb⟩
          refine ⟨_, rfl, ?_⟩
          have nb_ := Aside0.mk (below_step HB.out hb)
          have nl_ := Aside0.mk (Kd.R_below HL.out hb)
          clear HB HL hb
          have HB := nb_
          have HL := nl_
          clear nb_ nl_
          refine hK.out _ _ trivial (fun hHeld => ?_)
          clear hK K
          refine norm_ (a' := ?_) ?_ ?_
          rotate_left
          · show Act.put _ (some 60) _ = _
            simp only [Act.put, List.setIfInBounds_toArray, List.set_cons_zero, List.set_cons_succ, i64_w, i32_w]
            rfl
          refine one_ (i := 11) (N := some 61) #[true, true, true, true, true, true, true, true, true, true, true, true, false, false, false, false] rfl rfl (one_of HT_.out (by kernel_rfl)) (by decide) (fun K hK => ?_)
          refine call_ 27 #[.int .i64 X, .int .i64 G] (by rfl) rfl (by have he := enters_ Try.func27 (by kernel_rfl) rfl #[.int .i64 X, .int .i64 G] w4; unfold execOp; simp [resolve, Deferred.ofValue, invoke, Act.eval, wX, he]) ?_
          with_reducible refine (more_calls X G _ HX2.out HG2.out).mono ?_
          rw [HD.out]
          rintro e w5 ⟨rfl, rfl⟩
          refine ⟨_, rfl, ?_⟩
          refine hK.out _ _ trivial (fun hHeld => ?_)
          clear hK K
          refine norm_ (a' := ?_) ?_ ?_
          rotate_left
          · show Act.put _ (some 61) _ = _
            simp only [Act.put, List.setIfInBounds_toArray, List.set_cons_zero, List.set_cons_succ, i64_w, i32_w]
            rfl
          refine pure_ (i := 12) (N := some 62) (v := ?_) (a' := ?_) #[true, true, true, true, true, true, true, true, true, true, true, true, true, false, false, false] rfl rfl (any_of HT_.out (by kernel_rfl)) (fun _ _ _ h => h) (Or.inl ⟨by rfl, ?_⟩) ?_ ?_
          rotate_left
          · intro w'
            go_simp
            with_reducible rfl
          rotate_left
          · simp only [Act.put, List.setIfInBounds_toArray, List.set_cons_zero, List.set_cons_succ, i64_w, i32_w]
            rfl
          refine one_ (i := 13) (N := some 63) #[true, true, true, true, true, true, true, true, true, true, true, true, true, true, false, false] rfl rfl (one_of HT_.out (by kernel_rfl)) (by decide) (fun K hK => ?_)
          refine value_ (w1 := w4.alloc (.cells #[.int .u8 (D % 256)] 5)) (v := .slice (some ⟨w4.heap.size, 0, none⟩) 1 1) (by rfl) rfl (by first | (go_simp; done) | (go_simp; rfl)) ?_
          refine hK.out _ _ trivial (fun hHeld => ?_)
          clear hK K
          refine norm_ (a' := ?_) ?_ ?_
          rotate_left
          · show Act.put _ (some 63) _ = _
            simp only [Act.put, List.setIfInBounds_toArray, List.set_cons_zero, List.set_cons_succ, i64_w, i32_w]
            rfl
          refine one_ (i := 14) (N := some 64) #[true, true, true, true, true, true, true, true, true, true, true, true, true, true, true, false] rfl rfl (one_of HT_.out (by kernel_rfl)) (by decide) (fun K hK => ?_)
          refine Kd.R_append_step (Kd.int .u8) (W := w4) (w0 := w) w.heap.size (by rfl) (.tmp 50) (.tmp 63) 33 5 _ 1 rfl Try.underlying33 info5 rfl (by decide) (by decide) (.slice A13 i c13) (uL k st prev row i) (D % 256) [.int .u8 (D % 256)] (fun _ => True) (fun _ => False) rfl rfl rfl (fun _ h => h.elim) (fun _ _ => trivial) HL.out HB.out HB.out.size (by rw [uL_len]; have := HROW.out; have := HG.out; omega) ?_
          intro v6 w6 hl_ hb_ hg_ hn_
          clear hg_ hn_ HB HL
          have HB := Aside0.mk hb_
          have HL := Aside0.mk hl_
          clear hb_ hl_
          refine hK.out _ _ trivial (fun hHeld => ?_)
          clear hK K
          refine norm_ (a' := ?_) ?_ ?_
          rotate_left
          · show Act.put _ (some 64) _ = _
            simp only [Act.put, List.setIfInBounds_toArray, List.set_cons_zero, List.set_cons_succ, i64_w, i32_w]
            rfl
          refine pure_ (i := 15) (N := some 13) (v := ?_) (a' := ?_) #[true, true, true, true, true, true, true, true, true, true, true, true, true, true, true, true] rfl rfl (any_of HT_.out (by kernel_rfl)) (fun _ _ _ h => h) (Or.inl ⟨by rfl, ?_⟩) ?_ ?_
          rotate_left
          · intro w'
            go_simp
            with_reducible rfl
          rotate_left
          · simp only [Act.put, List.setIfInBounds_toArray, List.set_cons_zero, List.set_cons_succ, i64_w, i32_w]
            rfl
          refine done_ (done_of HT_.out (by kernel_rfl)) ?_
          rw [← HN.out] at HL
          go_wp2
          go_roundg (row.size - (i + 1))
          case measure => have := HG.out; have := HI.out; omega
          case rel => exact ⟨i + 1, wrap_succ i (by have := HROW.out; have := HG.out; omega), ⟨rfl, by have := HI.out; omega⟩, HL, HB⟩
      · by_cases cE : prev.toList = []
        · skip
          have dA : decide (st ≤ (i : Int)) = false := decide_eq_false cA
          have hA2 : 0 ≤ (0 : Int) ∧ (0 : Int) ≤ 255 := by omega
          have eA : atL (uL k st prev row i) ((i : Int) - st) = 0 := atL_out _ _ (by omega)
          have hE1 : (prev.toList == ([] : List UInt8)) = true := beq_iff_eq.mpr cE
          have hE2 : (prev.toList != ([] : List UInt8)) = false := bne_eq_false_iff_eq.mpr cE
          have hps : prev.size = 0 := by rw [Go.ByteArray.toList_eq] at cE; have h := congrArg List.length cE; simpa using h
          have hB2 : 0 ≤ (0 : Int) ∧ (0 : Int) ≤ 255 := by omega
          have eB : atB prev (i : Int) = 0 := atB_out2 _ _ (by omega)
          have eC : atB prev ((i : Int) - st) = 0 := by by_cases h : 0 ≤ (i : Int) - st; exact atB_out2 _ _ (by omega); exact atB_out _ _ (by omega)
          obtain ⟨G, hG⟩ : ∃ G, gs k 0 0 0 = G := ⟨_, rfl⟩
          have hG2 : 0 ≤ G ∧ G ≤ 255 := by rw [← hG]; exact gs_range _ _ _ _ hA2 hB2 (by omega)
          obtain ⟨D, hD⟩ : ∃ D, X + G = D := ⟨_, rfl⟩
          have HN := Aside0.mk (show uL k st prev row (i + 1) = uL k st prev row i ++ [D % 256] by rw [uL, eA, eB, eC, hG, hX, hD])
          have HGc := Aside0.mk hG
          have HD := Aside0.mk hD
          have HG2 := Aside0.mk hG2
          have HX2 := Aside0.mk hX2
          have HA2 := Aside0.mk hA2
          have HB2 := Aside0.mk hB2
          have HI := Aside0.mk hi
          clear hG hD hG2 hX2 hA2 hB2 eA eB eC hX hps hi cA cE
          go_wp2
          have nb_ := Aside0.mk (below_drew1 HB.out)
          have nl_ := Aside0.mk (Kd.R_drew HL.out)
          clear HB HL
          have HB := nb_
          have HL := nl_
          clear nb_ nl_
          refine start_ (n := 16) (S := fun w' => True) (ds := []) #[false, false, false, false, false, false, false, false, false, false, false, false, false, false, false, false] (by kernel_rfl) rfl rfl trivial (fun hHeld => ?_); refine with_tabW each12.tab each12.bits (fun HT_ HW_ => ?_)
          generalize wr.drew = w3 at HB HL hHeld ⊢
          refine pure_ (i := 0) (N := some 50) (v := ?_) (a' := ?_) #[true, false, false, false, false, false, false, false, false, false, false, false, false, false, false, false] rfl rfl (any_of HT_.out (by kernel_rfl)) (fun _ _ _ h => h) (Or.inl ⟨by rfl, ?_⟩) ?_ ?_
          rotate_left
          · intro w'
            go_simp
            with_reducible rfl
          rotate_left
          · simp only [Act.put, List.setIfInBounds_toArray, List.set_cons_zero, List.set_cons_succ, i64_w, i32_w]
            rfl
          refine pure_ (i := 1) (N := some 51) (v := ?_) (a' := ?_) #[true, true, false, false, false, false, false, false, false, false, false, false, false, false, false, false] rfl rfl (any_of HT_.out (by kernel_rfl)) (fun _ _ _ h => h) (Or.inl ⟨by rfl, ?_⟩) ?_ ?_
          rotate_left
          · intro w'
            go_simp
            with_reducible rfl
          rotate_left
          · simp only [Act.put, List.setIfInBounds_toArray, List.set_cons_zero, List.set_cons_succ, i64_w, i32_w]
            rfl
          refine pure_ (i := 2) (N := some 52) (v := ?_) (a' := ?_) #[true, true, true, false, false, false, false, false, false, false, false, false, false, false, false, false] rfl rfl (any_of HT_.out (by kernel_rfl)) (fun _ _ _ h => h) (Or.inl ⟨by rfl, ?_⟩) ?_ ?_
          rotate_left
          · intro w'
            go_simp
            with_reducible rfl
          rotate_left
          · simp only [Act.put, List.setIfInBounds_toArray, List.set_cons_zero, List.set_cons_succ, i64_w, i32_w]
            rfl
          refine pure_ (i := 3) (N := some 53) (v := ?_) (a' := ?_) #[true, true, true, true, false, false, false, false, false, false, false, false, false, false, false, false] rfl rfl (any_of HT_.out (by kernel_rfl)) (fun _ _ _ h => h) (Or.inl ⟨by rfl, ?_⟩) ?_ ?_
          rotate_left
          · intro w'
            go_simp
            with_reducible rfl
          rotate_left
          · simp only [Act.put, List.setIfInBounds_toArray, List.set_cons_zero, List.set_cons_succ, i64_w, i32_w]
            rfl
          refine pure_ (i := 4) (N := some 54) (v := ?_) (a' := ?_) #[true, true, true, true, true, false, false, false, false, false, false, false, false, false, false, false] rfl rfl (any_of HT_.out (by kernel_rfl)) (fun _ _ _ h => h) (Or.inl ⟨by rfl, ?_⟩) ?_ ?_
          rotate_left
          · intro w'
            go_simp
            with_reducible rfl
          rotate_left
          · simp only [Act.put, List.setIfInBounds_toArray, List.set_cons_zero, List.set_cons_succ, i64_w, i32_w]
            rfl
          refine pure_ (i := 5) (N := some 55) (v := ?_) (a' := ?_) #[true, true, true, true, true, true, false, false, false, false, false, false, false, false, false, false] rfl rfl (any_of HT_.out (by kernel_rfl)) (fun _ _ _ h => h) (Or.inl ⟨by rfl, ?_⟩) ?_ ?_
          rotate_left
          · intro w'
            go_simp
            with_reducible rfl
          rotate_left
          · simp only [Act.put, List.setIfInBounds_toArray, List.set_cons_zero, List.set_cons_succ, i64_w, i32_w]
            rfl
          refine pure_ (i := 6) (N := some 56) (v := ?_) (a' := ?_) #[true, true, true, true, true, true, true, false, false, false, false, false, false, false, false, false] rfl rfl (any_of HT_.out (by kernel_rfl)) (fun _ _ _ h => h) (Or.inl ⟨by rfl, ?_⟩) ?_ ?_
          rotate_left
          · intro w'
            go_simp
            with_reducible rfl
          rotate_left
          · simp only [Act.put, List.setIfInBounds_toArray, List.set_cons_zero, List.set_cons_succ, i64_w, i32_w]
            rfl
          refine pure_ (i := 7) (N := some 57) (v := ?_) (a' := ?_) #[true, true, true, true, true, true, true, true, false, false, false, false, false, false, false, false] rfl rfl (any_of HT_.out (by kernel_rfl)) (fun _ _ _ h => h) (Or.inl ⟨by rfl, ?_⟩) ?_ ?_
          rotate_left
          · intro w'
            go_simp
            with_reducible rfl
          rotate_left
          · simp only [Act.put, List.setIfInBounds_toArray, List.set_cons_zero, List.set_cons_succ, i64_w, i32_w]
            rfl
          refine pure_ (i := 8) (N := some 58) (v := ?_) (a' := ?_) #[true, true, true, true, true, true, true, true, true, false, false, false, false, false, false, false] rfl rfl (any_of HT_.out (by kernel_rfl)) (fun _ _ _ h => h) (Or.inl ⟨by rfl, ?_⟩) ?_ ?_
          rotate_left
          · intro w'
            go_simp
            with_reducible rfl
          rotate_left
          · simp only [Act.put, List.setIfInBounds_toArray, List.set_cons_zero, List.set_cons_succ, i64_w, i32_w]
            rfl
          refine pure_ (i := 9) (N := some 59) (v := ?_) (a' := ?_) #[true, true, true, true, true, true, true, true, true, true, false, false, false, false, false, false] rfl rfl (any_of HT_.out (by kernel_rfl)) (fun _ _ _ h => h) (Or.inl ⟨by rfl, ?_⟩) ?_ ?_
          rotate_left
          · intro w'
            go_simp
            with_reducible rfl
          rotate_left
          · simp only [Act.put, List.setIfInBounds_toArray, List.set_cons_zero, List.set_cons_succ, i64_w, i32_w]
            rfl
          refine one_ (i := 10) (N := some 60) #[true, true, true, true, true, true, true, true, true, true, true, false, false, false, false, false] rfl rfl (one_of HT_.out (by kernel_rfl)) (by decide) (fun K hK => ?_)
          refine goes_ Try.func9 (by kernel_rfl) rfl #[.int .i64 k, .int .i64 (0), .int .i64 (0), .int .i64 (0)] (by rfl) rfl rfl (by simp only [List.map_toArray, List.map_cons, List.map_nil]; first | rfl | (simp [Act.eval])) ?_
          with_reducible refine (guess_calls k 0 0 0 _ HA2.out HB2.out (by omega)).mono ?_
          rw [HGc.out]
          rintro e w4 ⟨rfl, hb⟩
          refine ⟨_, rfl, ?_⟩
          have nb_ := Aside0.mk (below_step HB.out hb)
          have nl_ := Aside0.mk (Kd.R_below HL.out hb)
          clear HB HL hb
          have HB := nb_
          have HL := nl_
          clear nb_ nl_
          refine hK.out _ _ trivial (fun hHeld => ?_)
          clear hK K
          refine norm_ (a' := ?_) ?_ ?_
          rotate_left
          · show Act.put _ (some 60) _ = _
            simp only [Act.put, List.setIfInBounds_toArray, List.set_cons_zero, List.set_cons_succ, i64_w, i32_w]
            rfl
          refine one_ (i := 11) (N := some 61) #[true, true, true, true, true, true, true, true, true, true, true, true, false, false, false, false] rfl rfl (one_of HT_.out (by kernel_rfl)) (by decide) (fun K hK => ?_)
          refine call_ 27 #[.int .i64 X, .int .i64 G] (by rfl) rfl (by have he := enters_ Try.func27 (by kernel_rfl) rfl #[.int .i64 X, .int .i64 G] w4; unfold execOp; simp [resolve, Deferred.ofValue, invoke, Act.eval, wX, he]) ?_
          with_reducible refine (more_calls X G _ HX2.out HG2.out).mono ?_
          rw [HD.out]
          rintro e w5 ⟨rfl, rfl⟩
          refine ⟨_, rfl, ?_⟩
          refine hK.out _ _ trivial (fun hHeld => ?_)
          clear hK K
          refine norm_ (a' := ?_) ?_ ?_
          rotate_left
          · show Act.put _ (some 61) _ = _
            simp only [Act.put, List.setIfInBounds_toArray, List.set_cons_zero, List.set_cons_succ, i64_w, i32_w]
            rfl
          refine pure_ (i := 12) (N := some 62) (v := ?_) (a' := ?_) #[true, true, true, true, true, true, true, true, true, true, true, true, true, false, false, false] rfl rfl (any_of HT_.out (by kernel_rfl)) (fun _ _ _ h => h) (Or.inl ⟨by rfl, ?_⟩) ?_ ?_
          rotate_left
          · intro w'
            go_simp
            with_reducible rfl
          rotate_left
          · simp only [Act.put, List.setIfInBounds_toArray, List.set_cons_zero, List.set_cons_succ, i64_w, i32_w]
            rfl
          refine one_ (i := 13) (N := some 63) #[true, true, true, true, true, true, true, true, true, true, true, true, true, true, false, false] rfl rfl (one_of HT_.out (by kernel_rfl)) (by decide) (fun K hK => ?_)
          refine value_ (w1 := w4.alloc (.cells #[.int .u8 (D % 256)] 5)) (v := .slice (some ⟨w4.heap.size, 0, none⟩) 1 1) (by rfl) rfl (by first | (go_simp; done) | (go_simp; rfl)) ?_
          refine hK.out _ _ trivial (fun hHeld => ?_)
          clear hK K
          refine norm_ (a' := ?_) ?_ ?_
          rotate_left
          · show Act.put _ (some 63) _ = _
            simp only [Act.put, List.setIfInBounds_toArray, List.set_cons_zero, List.set_cons_succ, i64_w, i32_w]
            rfl
          refine one_ (i := 14) (N := some 64) #[true, true, true, true, true, true, true, true, true, true, true, true, true, true, true, false] rfl rfl (one_of HT_.out (by kernel_rfl)) (by decide) (fun K hK => ?_)
          refine Kd.R_append_step (Kd.int .u8) (W := w4) (w0 := w) w.heap.size (by rfl) (.tmp 50) (.tmp 63) 33 5 _ 1 rfl Try.underlying33 info5 rfl (by decide) (by decide) (.slice A13 i c13) (uL k st prev row i) (D % 256) [.int .u8 (D % 256)] (fun _ => True) (fun _ => False) rfl rfl rfl (fun _ h => h.elim) (fun _ _ => trivial) HL.out HB.out HB.out.size (by rw [uL_len]; have := HROW.out; have := HG.out; omega) ?_
          intro v6 w6 hl_ hb_ hg_ hn_
          clear hg_ hn_ HB HL
          have HB := Aside0.mk hb_
          have HL := Aside0.mk hl_
          clear hb_ hl_
          refine hK.out _ _ trivial (fun hHeld => ?_)
          clear hK K
          refine norm_ (a' := ?_) ?_ ?_
          rotate_left
          · show Act.put _ (some 64) _ = _
            simp only [Act.put, List.setIfInBounds_toArray, List.set_cons_zero, List.set_cons_succ, i64_w, i32_w]
            rfl
          refine pure_ (i := 15) (N := some 13) (v := ?_) (a' := ?_) #[true, true, true, true, true, true, true, true, true, true, true, true, true, true, true, true] rfl rfl (any_of HT_.out (by kernel_rfl)) (fun _ _ _ h => h) (Or.inl ⟨by rfl, ?_⟩) ?_ ?_
          rotate_left
          · intro w'
            go_simp
            with_reducible rfl
          rotate_left
          · simp only [Act.put, List.setIfInBounds_toArray, List.set_cons_zero, List.set_cons_succ, i64_w, i32_w]
            rfl
          refine done_ (done_of HT_.out (by kernel_rfl)) ?_
          rw [← HN.out] at HL
          go_wp2
          go_roundg (row.size - (i + 1))
          case measure => have := HG.out; have := HI.out; omega
          case rel => exact ⟨i + 1, wrap_succ i (by have := HROW.out; have := HG.out; omega), ⟨rfl, by have := HI.out; omega⟩, HL, HB⟩
        · skip
          have dA : decide (st ≤ (i : Int)) = false := decide_eq_false cA
          have hA2 : 0 ≤ (0 : Int) ∧ (0 : Int) ≤ 255 := by omega
          have eA : atL (uL k st prev row i) ((i : Int) - st) = 0 := atL_out _ _ (by omega)
          have hE1 : (prev.toList == ([] : List UInt8)) = false := beq_eq_false_iff_ne.mpr cE
          have hE2 : (prev.toList != ([] : List UInt8)) = true := bne_iff_ne.mpr cE
          have hps : prev.size = row.size := by rcases HPR.out with h | h; exact absurd h cE; exact h
          have r2 : ((i : Int) < (prev.size : Int)) = True := eq_true (by omega)
          have hpi : i < prev.size := by omega
          have r3 : (i < prev.size) = True := eq_true hpi
          obtain ⟨B0, hB0⟩ : ∃ B0, bt prev (i : Int) = B0 := ⟨_, rfl⟩
          have hB2 : 0 ≤ B0 ∧ B0 ≤ 255 := by rw [← hB0]; exact bt_range _ _
          have pB : ∀ h : i < prev.size, ((prev[i]'h).toNat : Int) = B0 := fun h => by rw [← hB0]; exact bt_nat _ _ h
          have wB : wrap64 B0 = B0 := by unfold wrap64; omega
          have eB : atB prev (i : Int) = B0 := by rw [atB_in _ _ hpi, hB0]
          have eC : atB prev ((i : Int) - st) = 0 := atB_out _ _ (by omega)
          obtain ⟨G, hG⟩ : ∃ G, gs k 0 B0 0 = G := ⟨_, rfl⟩
          have hG2 : 0 ≤ G ∧ G ≤ 255 := by rw [← hG]; exact gs_range _ _ _ _ hA2 hB2 (by omega)
          obtain ⟨D, hD⟩ : ∃ D, X + G = D := ⟨_, rfl⟩
          have HN := Aside0.mk (show uL k st prev row (i + 1) = uL k st prev row i ++ [D % 256] by rw [uL, eA, eB, eC, hG, hX, hD])
          have HGc := Aside0.mk hG
          have HD := Aside0.mk hD
          have HG2 := Aside0.mk hG2
          have HX2 := Aside0.mk hX2
          have HA2 := Aside0.mk hA2
          have HB2 := Aside0.mk hB2
          have HI := Aside0.mk hi
          clear hG hD hG2 hX2 hA2 hB2 eA eB eC hX hps hi hB0 hpi cA cE
          go_wp2
          have nb_ := Aside0.mk (below_drew1 HB.out)
          have nl_ := Aside0.mk (Kd.R_drew HL.out)
          clear HB HL
          have HB := nb_
          have HL := nl_
          clear nb_ nl_
          refine start_ (n := 16) (S := fun w' => True) (ds := []) #[false, false, false, false, false, false, false, false, false, false, false, false, false, false, false, false] (by kernel_rfl) rfl rfl trivial (fun hHeld => ?_); refine with_tabW each12.tab each12.bits (fun HT_ HW_ => ?_)
          generalize wr.drew = w3 at HB HL hHeld ⊢
          refine pure_ (i := 0) (N := some 50) (v := ?_) (a' := ?_) #[true, false, false, false, false, false, false, false, false, false, false, false, false, false, false, false] rfl rfl (any_of HT_.out (by kernel_rfl)) (fun _ _ _ h => h) (Or.inl ⟨by rfl, ?_⟩) ?_ ?_
          rotate_left
          · intro w'
            go_simp
            with_reducible rfl
          rotate_left
          · simp only [Act.put, List.setIfInBounds_toArray, List.set_cons_zero, List.set_cons_succ, i64_w, i32_w]
            rfl
          refine pure_ (i := 1) (N := some 51) (v := ?_) (a' := ?_) #[true, true, false, false, false, false, false, false, false, false, false, false, false, false, false, false] rfl rfl (any_of HT_.out (by kernel_rfl)) (fun _ _ _ h => h) (Or.inl ⟨by rfl, ?_⟩) ?_ ?_
          rotate_left
          · intro w'
            go_simp
            with_reducible rfl
          rotate_left
          · simp only [Act.put, List.setIfInBounds_toArray, List.set_cons_zero, List.set_cons_succ, i64_w, i32_w]
            rfl
          refine pure_ (i := 2) (N := some 52) (v := ?_) (a' := ?_) #[true, true, true, false, false, false, false, false, false, false, false, false, false, false, false, false] rfl rfl (any_of HT_.out (by kernel_rfl)) (fun _ _ _ h => h) (Or.inl ⟨by rfl, ?_⟩) ?_ ?_
          rotate_left
          · intro w'
            go_simp
            with_reducible rfl
          rotate_left
          · simp only [Act.put, List.setIfInBounds_toArray, List.set_cons_zero, List.set_cons_succ, i64_w, i32_w]
            rfl
          refine pure_ (i := 3) (N := some 53) (v := ?_) (a' := ?_) #[true, true, true, true, false, false, false, false, false, false, false, false, false, false, false, false] rfl rfl (any_of HT_.out (by kernel_rfl)) (fun _ _ _ h => h) (Or.inl ⟨by rfl, ?_⟩) ?_ ?_
          rotate_left
          · intro w'
            go_simp
            with_reducible rfl
          rotate_left
          · simp only [Act.put, List.setIfInBounds_toArray, List.set_cons_zero, List.set_cons_succ, i64_w, i32_w]
            rfl
          refine pure_ (i := 4) (N := some 54) (v := ?_) (a' := ?_) #[true, true, true, true, true, false, false, false, false, false, false, false, false, false, false, false] rfl rfl (any_of HT_.out (by kernel_rfl)) (fun _ _ _ h => h) (Or.inl ⟨by rfl, ?_⟩) ?_ ?_
          rotate_left
          · intro w'
            go_simp
            with_reducible rfl
          rotate_left
          · simp only [Act.put, List.setIfInBounds_toArray, List.set_cons_zero, List.set_cons_succ, i64_w, i32_w]
            rfl
          refine pure_ (i := 5) (N := some 55) (v := ?_) (a' := ?_) #[true, true, true, true, true, true, false, false, false, false, false, false, false, false, false, false] rfl rfl (any_of HT_.out (by kernel_rfl)) (fun _ _ _ h => h) (Or.inl ⟨by rfl, ?_⟩) ?_ ?_
          rotate_left
          · intro w'
            go_simp
            with_reducible rfl
          rotate_left
          · simp only [Act.put, List.setIfInBounds_toArray, List.set_cons_zero, List.set_cons_succ, i64_w, i32_w]
            rfl
          refine pure_ (i := 6) (N := some 56) (v := ?_) (a' := ?_) #[true, true, true, true, true, true, true, false, false, false, false, false, false, false, false, false] rfl rfl (any_of HT_.out (by kernel_rfl)) (fun _ _ _ h => h) (Or.inl ⟨by rfl, ?_⟩) ?_ ?_
          rotate_left
          · intro w'
            go_simp
            with_reducible rfl
          rotate_left
          · simp only [Act.put, List.setIfInBounds_toArray, List.set_cons_zero, List.set_cons_succ, i64_w, i32_w]
            rfl
          refine pure_ (i := 7) (N := some 57) (v := ?_) (a' := ?_) #[true, true, true, true, true, true, true, true, false, false, false, false, false, false, false, false] rfl rfl (any_of HT_.out (by kernel_rfl)) (fun _ _ _ h => h) (Or.inl ⟨by rfl, ?_⟩) ?_ ?_
          rotate_left
          · intro w'
            go_simp
            with_reducible rfl
          rotate_left
          · simp only [Act.put, List.setIfInBounds_toArray, List.set_cons_zero, List.set_cons_succ, i64_w, i32_w]
            rfl
          refine pure_ (i := 8) (N := some 58) (v := ?_) (a' := ?_) #[true, true, true, true, true, true, true, true, true, false, false, false, false, false, false, false] rfl rfl (any_of HT_.out (by kernel_rfl)) (fun _ _ _ h => h) (Or.inl ⟨by rfl, ?_⟩) ?_ ?_
          rotate_left
          · intro w'
            go_simp
            with_reducible rfl
          rotate_left
          · simp only [Act.put, List.setIfInBounds_toArray, List.set_cons_zero, List.set_cons_succ, i64_w, i32_w]
            rfl
          refine pure_ (i := 9) (N := some 59) (v := ?_) (a' := ?_) #[true, true, true, true, true, true, true, true, true, true, false, false, false, false, false, false] rfl rfl (any_of HT_.out (by kernel_rfl)) (fun _ _ _ h => h) (Or.inl ⟨by rfl, ?_⟩) ?_ ?_
          rotate_left
          · intro w'
            go_simp
            with_reducible rfl
          rotate_left
          · simp only [Act.put, List.setIfInBounds_toArray, List.set_cons_zero, List.set_cons_succ, i64_w, i32_w]
            rfl
          refine one_ (i := 10) (N := some 60) #[true, true, true, true, true, true, true, true, true, true, true, false, false, false, false, false] rfl rfl (one_of HT_.out (by kernel_rfl)) (by decide) (fun K hK => ?_)
          refine goes_ Try.func9 (by kernel_rfl) rfl #[.int .i64 k, .int .i64 (0), .int .i64 (B0), .int .i64 (0)] (by rfl) rfl rfl (by simp only [List.map_toArray, List.map_cons, List.map_nil]; first | rfl | (simp [Act.eval, wB])) ?_
          with_reducible refine (guess_calls k 0 B0 0 _ HA2.out HB2.out (by omega)).mono ?_
          rw [HGc.out]
          rintro e w4 ⟨rfl, hb⟩
          refine ⟨_, rfl, ?_⟩
          have nb_ := Aside0.mk (below_step HB.out hb)
          have nl_ := Aside0.mk (Kd.R_below HL.out hb)
          clear HB HL hb
          have HB := nb_
          have HL := nl_
          clear nb_ nl_
          refine hK.out _ _ trivial (fun hHeld => ?_)
          clear hK K
          refine norm_ (a' := ?_) ?_ ?_
          rotate_left
          · show Act.put _ (some 60) _ = _
            simp only [Act.put, List.setIfInBounds_toArray, List.set_cons_zero, List.set_cons_succ, i64_w, i32_w]
            rfl
          refine one_ (i := 11) (N := some 61) #[true, true, true, true, true, true, true, true, true, true, true, true, false, false, false, false] rfl rfl (one_of HT_.out (by kernel_rfl)) (by decide) (fun K hK => ?_)
          refine call_ 27 #[.int .i64 X, .int .i64 G] (by rfl) rfl (by have he := enters_ Try.func27 (by kernel_rfl) rfl #[.int .i64 X, .int .i64 G] w4; unfold execOp; simp [resolve, Deferred.ofValue, invoke, Act.eval, wX, he]) ?_
          with_reducible refine (more_calls X G _ HX2.out HG2.out).mono ?_
          rw [HD.out]
          rintro e w5 ⟨rfl, rfl⟩
          refine ⟨_, rfl, ?_⟩
          refine hK.out _ _ trivial (fun hHeld => ?_)
          clear hK K
          refine norm_ (a' := ?_) ?_ ?_
          rotate_left
          · show Act.put _ (some 61) _ = _
            simp only [Act.put, List.setIfInBounds_toArray, List.set_cons_zero, List.set_cons_succ, i64_w, i32_w]
            rfl
          refine pure_ (i := 12) (N := some 62) (v := ?_) (a' := ?_) #[true, true, true, true, true, true, true, true, true, true, true, true, true, false, false, false] rfl rfl (any_of HT_.out (by kernel_rfl)) (fun _ _ _ h => h) (Or.inl ⟨by rfl, ?_⟩) ?_ ?_
          rotate_left
          · intro w'
            go_simp
            with_reducible rfl
          rotate_left
          · simp only [Act.put, List.setIfInBounds_toArray, List.set_cons_zero, List.set_cons_succ, i64_w, i32_w]
            rfl
          refine one_ (i := 13) (N := some 63) #[true, true, true, true, true, true, true, true, true, true, true, true, true, true, false, false] rfl rfl (one_of HT_.out (by kernel_rfl)) (by decide) (fun K hK => ?_)
          refine value_ (w1 := w4.alloc (.cells #[.int .u8 (D % 256)] 5)) (v := .slice (some ⟨w4.heap.size, 0, none⟩) 1 1) (by rfl) rfl (by first | (go_simp; done) | (go_simp; rfl)) ?_
          refine hK.out _ _ trivial (fun hHeld => ?_)
          clear hK K
          refine norm_ (a' := ?_) ?_ ?_
          rotate_left
          · show Act.put _ (some 63) _ = _
            simp only [Act.put, List.setIfInBounds_toArray, List.set_cons_zero, List.set_cons_succ, i64_w, i32_w]
            rfl
          refine one_ (i := 14) (N := some 64) #[true, true, true, true, true, true, true, true, true, true, true, true, true, true, true, false] rfl rfl (one_of HT_.out (by kernel_rfl)) (by decide) (fun K hK => ?_)
          refine Kd.R_append_step (Kd.int .u8) (W := w4) (w0 := w) w.heap.size (by rfl) (.tmp 50) (.tmp 63) 33 5 _ 1 rfl Try.underlying33 info5 rfl (by decide) (by decide) (.slice A13 i c13) (uL k st prev row i) (D % 256) [.int .u8 (D % 256)] (fun _ => True) (fun _ => False) rfl rfl rfl (fun _ h => h.elim) (fun _ _ => trivial) HL.out HB.out HB.out.size (by rw [uL_len]; have := HROW.out; have := HG.out; omega) ?_
          intro v6 w6 hl_ hb_ hg_ hn_
          clear hg_ hn_ HB HL
          have HB := Aside0.mk hb_
          have HL := Aside0.mk hl_
          clear hb_ hl_
          refine hK.out _ _ trivial (fun hHeld => ?_)
          clear hK K
          refine norm_ (a' := ?_) ?_ ?_
          rotate_left
          · show Act.put _ (some 64) _ = _
            simp only [Act.put, List.setIfInBounds_toArray, List.set_cons_zero, List.set_cons_succ, i64_w, i32_w]
            rfl
          refine pure_ (i := 15) (N := some 13) (v := ?_) (a' := ?_) #[true, true, true, true, true, true, true, true, true, true, true, true, true, true, true, true] rfl rfl (any_of HT_.out (by kernel_rfl)) (fun _ _ _ h => h) (Or.inl ⟨by rfl, ?_⟩) ?_ ?_
          rotate_left
          · intro w'
            go_simp
            with_reducible rfl
          rotate_left
          · simp only [Act.put, List.setIfInBounds_toArray, List.set_cons_zero, List.set_cons_succ, i64_w, i32_w]
            rfl
          refine done_ (done_of HT_.out (by kernel_rfl)) ?_
          rw [← HN.out] at HL
          go_wp2
          go_roundg (row.size - (i + 1))
          case measure => have := HG.out; have := HI.out; omega
          case rel => exact ⟨i + 1, wrap_succ i (by have := HROW.out; have := HG.out; omega), ⟨rfl, by have := HI.out; omega⟩, HL, HB⟩
    · have d0 : decide ((i : Int) < (row.size : Int)) = false := decide_eq_false (by omega)
      have d1 : decide (i < row.size) = false := decide_eq_false hi
      have hi2 : i = row.size := by have := HG.out; omega
      subst hi2
      have hcv := own_string (P := Try.prog) Try.underlying33 Try.underlying5 Try.underlying9 (Kd.own_of_R HL.out)
      go_wp2
      go_ret
      exact ⟨rfl, HB.out⟩

end Go.Proofs.Ytflkcempeehilaa.Each
