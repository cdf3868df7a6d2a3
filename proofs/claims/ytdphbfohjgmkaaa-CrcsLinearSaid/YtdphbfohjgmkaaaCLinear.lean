/- CrcsLinear holds: the sum of three texts of one length, exclusive-or byte by byte, is the exclusive-or of their sums. It is stated for all arguments, without a condition. -/
import Derived.Test.YtdphbfohjgmkaaaWorks
import Derived.Test.YtdphbfohjgmkaaaWInvWords
namespace Go.Proofs.Ytdphbfohjgmkaaa.CLinear
open Go.RowKit Go.Proofs.Ytdphbfohjgmkaaa.PCrcsSums Go.Proofs.YtdphbfohjgmkaaaW.PrintWords Go.Proofs.YtdphbfohjgmkaaaW.PrintLast Go.Proofs.YtdphbfohjgmkaaaW.PrintMore Go.Proofs.Ytdphbfohjgmkaaa.Math Go.Proofs.Ytdphbfohjgmkaaa.Base Go.Proofs.Ytdphbfohjgmkaaa.Sums
attribute [local go_sem] max2_int min2_int max_two min_two max_three min_three max_four min_four
set_option linter.unusedVariables false
set_option linter.unusedSimpArgs false

def lin11.T : Bool × List (List Nat × List Nat) := (true, [([], []), ([], []), ([], []), ([], []), ([2, 3], [2, 3]), ([], []), ([], []), ([5, 6], [5, 6]), ([4, 7], [4, 7]), ([], []), ([], []), ([9, 10], [9, 10]), ([8, 11], [8, 11]), ([0, 1, 0, 1, 2, 3, 4, 5, 6, 7, 8, 9, 10, 11, 12], [0, 1]), ([13, 12, 0, 1, 2, 3, 4, 5, 6, 7, 8, 9, 10, 11, 12], [12, 13])])
def lin11.B : List Nat := [0, 0, 0, 0, 12, 0, 0, 96, 252, 0, 0, 1536, 4092, 8191, 16383]
theorem lin11.tab : rtab .any (opsOf Try.f7 11) = lin11.T := by kernel_rfl
theorem lin11.bits : waitsOk lin11.T.2 lin11.B = true := by kernel_rfl

def lin13.T : Bool × List (List Nat × List Nat) := (true, [([], []), ([0], [0]), ([1], [1]), ([1], [1]), ([3, 1], [1, 3]), ([4, 1], [1, 4]), ([2, 5, 1, 1], [1, 2, 5]), ([1], [1]), ([1], [1]), ([1], [1]), ([8, 9, 1], [1, 8, 9]), ([10, 1], [1, 10]), ([7, 11, 6, 1], [1, 7, 11]), ([1], [1]), ([1], [1]), ([1], [1]), ([14, 15, 1], [1, 14, 15]), ([16, 1], [1, 16]), ([13, 17, 12, 1], [1, 13, 17]), ([12, 18, 1], [1, 12, 18]), ([1], [1]), ([1], [1]), ([1], [1]), ([21, 22, 1], [1, 21, 22]), ([23, 1], [1, 23]), ([20, 24, 18, 1], [1, 20, 24]), ([19, 25, 1], [1, 19, 25]), ([6, 26, 1], [1, 6, 26]), ([1, 27], [1, 27]), ([28, 25, 0, 1, 2, 3, 4, 5, 6, 7, 8, 9, 10, 11, 12, 13, 14, 15, 16, 17, 18, 19, 20, 21, 22, 23, 24, 25, 26, 27, 28], [28])])
def lin13.B : List Nat := [0, 1, 3, 3, 11, 27, 63, 3, 3, 3, 771, 1795, 4095, 3, 3, 3, 49155, 114691, 262143, 524287, 3, 3, 3, 6291459, 14680067, 33030143, 67108863, 134217727, 268435455, 536870911]
theorem lin13.tab : rtab .any (opsOf Try.f7 13) = lin13.T := by kernel_rfl
theorem lin13.bits : waitsOk lin13.T.2 lin13.B = true := by kernel_rfl

open Go.Proofs.Ytdphbfohjgmkaaa.Works (works_calls)
theorem info5 : (Try.prog.info? 5).map (fun i => (i.zero, i.size, i.bytes)) = some (some (.int .u8 0), 1, 1) := by kernel_rfl
/-- A row while it is filled. -/
def fill (f : Nat → Int) (m i : Nat) : List Int := (List.range m).map fun j => if j < i then f j else 0
theorem fill_len (f : Nat → Int) (m i : Nat) : (fill f m i).length = m := by unfold fill; rw [List.length_map, List.length_range]
theorem fill_get (f : Nat → Int) (m i n : Nat) (h : n < (fill f m i).length) : (fill f m i)[n] = if n < i then f n else 0 := by
  have e : (fill f m i)[n]? = some (if n < i then f n else 0) := by
    rw [fill_len] at h
    unfold fill
    rw [List.getElem?_map, List.getElem?_range h]
    rfl
  rw [List.getElem?_eq_getElem h] at e
  exact Option.some.inj e
theorem fill_zero (f : Nat → Int) (m : Nat) : List.replicate m (0 : Int) = fill f m 0 := by
  apply List.ext_getElem
  · rw [fill_len, List.length_replicate]
  · intro n h1 h2
    rw [fill_get, if_neg (by omega), List.getElem_replicate]
theorem fill_set (f : Nat → Int) (m i : Nat) : (fill f m i).set i (f i) = fill f m (i + 1) := by
  apply List.ext_getElem
  · rw [List.length_set, fill_len, fill_len]
  · intro n h1 h2
    rw [List.getElem_set, fill_get, fill_get]
    by_cases h : i = n
    · subst h
      rw [if_pos rfl, if_pos (by omega)]
    · rw [if_neg h]
      by_cases h3 : n < i
      · rw [if_pos h3, if_pos (by omega)]
      · rw [if_neg h3, if_neg (by omega)]
theorem fill_all (f : Nat → Int) (m : Nat) : fill f m m = (List.range m).map f := by
  unfold fill
  apply List.map_congr_left
  intro j hj
  rw [if_pos (List.mem_range.1 hj)]
theorem xor8 (a b : UInt8) : Go.bits .xor .u8 (a.toNat : Int) (b.toNat : Int) = (((a ^^^ b).toNat : Nat) : Int) := by
  have e : Go.bits .xor .u8 (a.toNat : Int) (b.toNat : Int) = IntKind.u8.wrap (((BitVec.ofInt 8 (a.toNat : Int)).toNat ^^^ (BitVec.ofInt 8 (b.toNat : Int)).toNat : Nat) : Int) := rfl
  rw [e, BitVec.ofInt_natCast, BitVec.ofInt_natCast, BitVec.toNat_ofNat, BitVec.toNat_ofNat, Nat.mod_eq_of_lt a.toNat_lt, Nat.mod_eq_of_lt b.toNat_lt, UInt8.toNat_xor]
  have h : a.toNat ^^^ b.toNat < 2 ^ 8 := Nat.xor_lt_two_pow a.toNat_lt b.toNat_lt
  generalize a.toNat ^^^ b.toNat = x at *
  rw [IntKind.wrap_u8]
  omega
/-- The byte of the row at a place. -/
def mix (a b c : ByteArray) (j : Nat) : UInt8 := a.data.toList.getD j 0 ^^^ b.data.toList.getD j 0 ^^^ c.data.toList.getD j 0
theorem xor3_range (l m r : List UInt8) (h1 : l.length = m.length) (h2 : l.length = r.length) : xor3 l m r = (List.range l.length).map fun j => l.getD j 0 ^^^ m.getD j 0 ^^^ r.getD j 0 := by
  induction l generalizing m r with
  | nil => rfl
  | cons x l ih =>
    cases m with
    | nil => simp at h1
    | cons y m =>
      cases r with
      | nil => simp at h2
      | cons z r =>
        rw [xor3, ih m r (by simpa using h1) (by simpa using h2), List.length_cons, List.range_succ_eq_map, List.map_cons, List.map_map]
        rfl
theorem take_data (s : ByteArray) (m : Nat) : (s.extract 0 m).data.toList = s.data.toList.take m := by
  rw [ByteArray.data_extract, Array.toList_extract, List.extract_eq_take_drop, List.drop_zero, Nat.sub_zero]
theorem linear_law (a b c : ByteArray) (m : Nat) (ha : m ≤ a.size) (hb : m ≤ b.size) (hc : m ≤ c.size) (f : Nat → Int) (hf : f = fun j => ((mix a b c j).toNat : Int)) :
    sumN [a.extract 0 m] ^^^ sumN [b.extract 0 m] ^^^ sumN [c.extract 0 m] = sumN [strOfNums (fill f m m)] := by
  have hd : (strOfNums (fill f m m)).data.toList = xor3 (a.data.toList.take m) (b.data.toList.take m) (c.data.toList.take m) := by
    have hla : (a.data.toList.take m).length = m := by rw [List.length_take]; simp; omega
    have hlb : (b.data.toList.take m).length = m := by rw [List.length_take]; simp; omega
    have hlc : (c.data.toList.take m).length = m := by rw [List.length_take]; simp; omega
    rw [xor3_range _ _ _ (by rw [hla, hlb]) (by rw [hla, hlc]), fill_all, hla]
    unfold strOfNums
    show ((List.range m).map f).map _ = _
    rw [List.map_map]
    apply List.map_congr_left
    intro j hj
    have hj := List.mem_range.1 hj
    subst hf
    have t : ∀ l : List UInt8, (l.take m).getD j 0 = l.getD j 0 := by
      intro l
      rw [List.getD_eq_getElem?_getD, List.getD_eq_getElem?_getD, List.getElem?_take, if_pos hj]
    rw [t, t, t]
    show UInt8.ofNat ((mix a b c j).toNat : Int).toNat = mix a b c j
    rw [Int.toNat_natCast]
    exact UInt8.ofNat_toNat
  have h1 : run 4294967295 (strOfNums (fill f m m)).data.toList = run 4294967295 (a.data.toList.take m) ^^^ run 4294967295 (b.data.toList.take m) ^^^ run 4294967295 (c.data.toList.take m) := by
    rw [hd, ← run_xor _ _ _ (by rw [List.length_take, List.length_take]; simp; omega) (by rw [List.length_take, List.length_take]; simp; omega)]
    rfl
  show (run 4294967295 (a.extract 0 m).data.toList ^^^ 4294967295) ^^^ (run 4294967295 (b.extract 0 m).data.toList ^^^ 4294967295) ^^^ (run 4294967295 (c.extract 0 m).data.toList ^^^ 4294967295) = run 4294967295 (strOfNums (fill f m m)).data.toList ^^^ 4294967295
  rw [h1, take_data, take_data, take_data]
  generalize run 4294967295 (a.data.toList.take m) = x
  generalize run 4294967295 (b.data.toList.take m) = y
  generalize run 4294967295 (c.data.toList.take m) = z
  apply Nat.eq_of_testBit_eq
  intro i
  simp only [Nat.testBit_xor]
  cases x.testBit i <;> cases y.testBit i <;> cases z.testBit i <;> cases (4294967295 : Nat).testBit i <;> rfl
theorem sumN_lt (ls : List ByteArray) : sumN ls < 4294967296 := by
  have h := sumS_lt ls 4294967295 (by decide)
  exact Nat.xor_lt_two_pow (n := 32) h (by decide)
theorem byte_at (s : ByteArray) (i : Nat) (h : i < s.size) : s[i] = s.data.toList.getD i 0 := by
  have e : i < s.data.toList.length := by simpa using h
  rw [List.getD_eq_getElem?_getD, List.getElem?_eq_getElem e]
  rfl

set_option maxHeartbeats 16000000 in
set_option maxRecDepth 100000 in
theorem walk (a0 a1 a2 : ByteArray) (w : World) :
    Calls Try.prog 7 #[.string a0, .string a1, .string a2] w fun e w' => e = .returned (.bool true) ∧ Below w.heap.size w w' := by
  have HB := Aside0.mk (Below.refl w.heap.size w)
  obtain ⟨p, hp⟩ : ∃ p : Nat, min a0.size a1.size = p := ⟨_, rfl⟩
  obtain ⟨m, hm⟩ : ∃ m : Nat, min p a2.size = m := ⟨_, rfl⟩
  have f1 : (if (a1.size : Int) < (a0.size : Int) then (a1.size : Int) else (a0.size : Int)) = (p : Int) := by split <;> omega
  have f2 : (if (a2.size : Int) < (p : Int) then (a2.size : Int) else (p : Int)) = (m : Int) := by split <;> omega
  have f3 : (if a1.size < a0.size then (a1.size : Int) else (a0.size : Int)) = (p : Int) := by split <;> omega
  have f4 : (if a2.size < p then (a2.size : Int) else (p : Int)) = (m : Int) := by split <;> omega
  by_cases c0 : 2000 < m
  · skip
    have pc0 : decide (2000 < (m : Int)) = true := decide_eq_true (by omega)
    have qc0 : decide (2000 < m) = true := decide_eq_true (by omega)
    clear c0
    go_enter Try.func7, Try.ntmps7
    go_wp2_with (first | (go_at_call 8; (with_reducible refine (works_calls _).mono ?_); rintro e w1 ⟨rfl, hb⟩; have nb_ := Aside0.mk (below_step (by repeat (first | (with_reducible first | exact HB.out | apply below_alloc | apply pw_below_drewN | apply below_drew1) | exact HB.out)) hb); clear HB; have HB := nb_; clear nb_; clear hb))
    go_ret
    exact ⟨rfl, by repeat (first | (with_reducible first | exact HB.out | apply below_alloc | apply pw_below_drewN | apply below_drew1) | exact HB.out)⟩
  · skip
    have pc0 : decide (2000 < (m : Int)) = false := decide_eq_false (by omega)
    have qc0 : decide (2000 < m) = false := decide_eq_false (by omega)
    have HM := Aside0.mk (show m ≤ 2000 by omega)
    have HA0 := Aside0.mk (show m ≤ a0.size by omega)
    have HA1 := Aside0.mk (show m ≤ a1.size by omega)
    have HA2 := Aside0.mk (show m ≤ a2.size by omega)
    obtain ⟨f, hf⟩ : ∃ f : Nat → Int, f = fun j => ((mix a0 a1 a2 j).toNat : Int) := ⟨_, rfl⟩
    have HF := Aside0.mk hf
    have hl := linear_law a0 a1 a2 m (by omega) (by omega) (by omega) f hf
    clear hf c0 hp hm
    go_enter Try.func7, Try.ntmps7
    go_wp2_with (first | (go_at_call 8; (with_reducible refine (works_calls _).mono ?_); rintro e w1 ⟨rfl, hb⟩; have nb_ := Aside0.mk (below_step (by repeat (first | (with_reducible first | exact HB.out | apply below_alloc | apply pw_below_drewN | apply below_drew1) | exact HB.out)) hb); clear HB; have HB := nb_; clear nb_; clear hb) | ((with_reducible refine gate_dst (N := 27) rfl ?_); refine Kd.R_make (Kd.int .u8) _ 5 rfl (N := 27) rfl 34 _ _ rfl (m : Int) rfl rfl Try.underlying34 (.int .u8 0) 1 info5 rfl (by decide) (by omega) 0 (ok := fun _ => True) (okp := fun _ => True) rfl (fun _ hk => hk) trivial (by omega) (by have := HM.out; omega) (Below.refl _ _) (Nat.le_refl _) ?_; intro v102 w2 ho_ hb hg_ hnew_; clear hg_ hnew_; rw [Int.toNat_natCast, fill_zero f] at ho_; have HO := Aside0.mk (Kd.R_lower ho_ (below_size (by repeat (first | (with_reducible first | exact HB.out | apply below_alloc | apply pw_below_drewN | apply below_drew1) | exact HB.out)))); have nb_ := Aside0.mk (below_step (by repeat (first | (with_reducible first | exact HB.out | apply below_alloc | apply pw_below_drewN | apply below_drew1) | exact HB.out)) hb); clear HB; have HB := nb_; clear nb_; clear hb ho_; obtain ⟨A4, c4, e4⟩ := Kd.R_slice HO.out; rw [fill_len] at e4; subst e4))
    go_loopg [10] m (fun g v10 wr => ∃ (i : Nat), v10 = .int .i64 (i : Int) ∧ Aside0 (g = m - i ∧ i ≤ m) ∧ Aside0 (Kd.R (Kd.int .u8) 5 wr w.heap.size (fun _ => True) (.slice A4 m c4) (fill f m i)) ∧ Aside0 (Below w.heap.size w wr))
    case atStart => exact ⟨0, rfl, ⟨by omega, by omega⟩, HO, HB⟩
    case round =>
      clear HO HB
      obtain ⟨i, rfl, HG, HO, HB⟩ := hrel
      by_cases hi : i < m
      · have d0 : decide ((i : Int) < (m : Int)) = true := decide_eq_true (by omega)
        have d1 : decide (i < m) = true := decide_eq_true hi
        have p1 : (0 ≤ (i : Int)) = True := eq_true (by omega)
        have p2 : ((i : Int) < (m : Int)) = True := eq_true (by omega)
        have p3 : (i < m) = True := eq_true hi
        have ia0 : i < a0.size := by have := HA0.out; omega
        have pa0 : ((i : Int) < (a0.size : Int)) = True := eq_true (by omega)
        have pb0 : (i < a0.size) = True := eq_true ia0
        have pc0 : ∀ h : i < a0.size, a0[i]'h = a0.data.toList.getD i 0 := fun h => byte_at a0 i h
        have ia1 : i < a1.size := by have := HA1.out; omega
        have pa1 : ((i : Int) < (a1.size : Int)) = True := eq_true (by omega)
        have pb1 : (i < a1.size) = True := eq_true ia1
        have pc1 : ∀ h : i < a1.size, a1[i]'h = a1.data.toList.getD i 0 := fun h => byte_at a1 i h
        have ia2 : i < a2.size := by have := HA2.out; omega
        have pa2 : ((i : Int) < (a2.size : Int)) = True := eq_true (by omega)
        have pb2 : (i < a2.size) = True := eq_true ia2
        have pc2 : ∀ h : i < a2.size, a2[i]'h = a2.data.toList.getD i 0 := fun h => byte_at a2 i h
        have hx1 := xor8 (a0.data.toList.getD i 0) (a1.data.toList.getD i 0)
        have hx2 : Go.bits .xor .u8 (((a0.data.toList.getD i 0 ^^^ a1.data.toList.getD i 0).toNat : Nat) : Int) ((a2.data.toList.getD i 0).toNat : Int) = f i := by rw [xor8, HF.out]; rfl
        generalize a0.data.toList.getD i 0 = b0 at pc0 hx1 hx2
        generalize a1.data.toList.getD i 0 = b1 at pc1 hx1 hx2
        generalize a2.data.toList.getD i 0 = b2 at pc2 hx2
        generalize (b0 ^^^ b1).toNat = b01 at hx1 hx2
        obtain ⟨g5, c5, e5, hge, hlt, _⟩ := Kd.R_form HO.out (by rw [fill_len]; omega)
        rw [fill_len] at e5
        cases e5
        have GB := Aside0.mk hge
        clear hge hlt ia0 ia1 ia2
        go_wp2
        have nb_ := Aside0.mk (below_drew1 HB.out)
        have no_ := Aside0.mk (Kd.R_drew HO.out)
        clear HB HO
        have HB := nb_
        have HO := no_
        clear nb_ no_
        obtain ⟨hx0, hf0⟩ := Kd.R_celln 0 HO.out (i : Int) (by omega) (by omega)
        rw [Int.toNat_natCast] at hx0 hf0
        have HP := Aside0.mk (Kd.R_putg HO.out (i : Int) (f i))
        refine start_ (n := 15) (S := fun w' => True) (ds := []) #[false, false, false, false, false, false, false, false, false, false, false, false, false, false, false] (by kernel_rfl) rfl rfl trivial (fun hHeld => ?_); refine with_tabW lin11.tab lin11.bits (fun HT_ HW_ => ?_)
        generalize wr.drew = wd at HB HO HP hx0 hf0 hHeld ⊢
        refine pure_ (i := 0) (N := some 33) (v := ?_) (a' := ?_) #[true, false, false, false, false, false, false, false, false, false, false, false, false, false, false] rfl rfl (any_of HT_.out (by kernel_rfl)) (fun _ _ _ h => h) (Or.inl ⟨by rfl, ?_⟩) ?_ ?_
        rotate_left
        · intro w'
          go_simp
          with_reducible rfl
        rotate_left
        · simp only [Act.put, List.setIfInBounds_toArray, List.set_cons_zero, List.set_cons_succ, i64_w, i32_w]
          rfl
        refine pure_ (i := 1) (N := some 34) (v := ?_) (a' := ?_) #[true, true, false, false, false, false, false, false, false, false, false, false, false, false, false] rfl rfl (any_of HT_.out (by kernel_rfl)) (fun _ _ _ h => h) (Or.inl ⟨by rfl, ?_⟩) ?_ ?_
        rotate_left
        · intro w'
          go_simp
          with_reducible rfl
        rotate_left
        · simp only [Act.put, List.setIfInBounds_toArray, List.set_cons_zero, List.set_cons_succ, i64_w, i32_w]
          rfl
        refine pure_ (i := 2) (N := some 35) (v := ?_) (a' := ?_) #[true, true, true, false, false, false, false, false, false, false, false, false, false, false, false] rfl rfl (any_of HT_.out (by kernel_rfl)) (fun _ _ _ h => h) (Or.inl ⟨by rfl, ?_⟩) ?_ ?_
        rotate_left
        · intro w'
          go_simp
          with_reducible rfl
        rotate_left
        · simp only [Act.put, List.setIfInBounds_toArray, List.set_cons_zero, List.set_cons_succ, i64_w, i32_w]
          rfl
        refine pure_ (i := 3) (N := some 36) (v := ?_) (a' := ?_) #[true, true, true, true, false, false, false, false, false, false, false, false, false, false, false] rfl rfl (any_of HT_.out (by kernel_rfl)) (fun _ _ _ h => h) (Or.inl ⟨by rfl, ?_⟩) ?_ ?_
        rotate_left
        · intro w'
          go_simp
          with_reducible rfl
        rotate_left
        · simp only [Act.put, List.setIfInBounds_toArray, List.set_cons_zero, List.set_cons_succ, i64_w, i32_w]
          rfl
        refine pure_ (i := 4) (N := some 37) (v := ?_) (a' := ?_) #[true, true, true, true, true, false, false, false, false, false, false, false, false, false, false] rfl rfl (any_of HT_.out (by kernel_rfl)) (fun _ _ _ h => h) (Or.inl ⟨by rfl, ?_⟩) ?_ ?_
        rotate_left
        · intro w'
          go_simp
          with_reducible rfl
        rotate_left
        · simp only [Act.put, List.setIfInBounds_toArray, List.set_cons_zero, List.set_cons_succ, i64_w, i32_w]
          rfl
        refine pure_ (i := 5) (N := some 38) (v := ?_) (a' := ?_) #[true, true, true, true, true, true, false, false, false, false, false, false, false, false, false] rfl rfl (any_of HT_.out (by kernel_rfl)) (fun _ _ _ h => h) (Or.inl ⟨by rfl, ?_⟩) ?_ ?_
        rotate_left
        · intro w'
          go_simp
          with_reducible rfl
        rotate_left
        · simp only [Act.put, List.setIfInBounds_toArray, List.set_cons_zero, List.set_cons_succ, i64_w, i32_w]
          rfl
        refine pure_ (i := 6) (N := some 39) (v := ?_) (a' := ?_) #[true, true, true, true, true, true, true, false, false, false, false, false, false, false, false] rfl rfl (any_of HT_.out (by kernel_rfl)) (fun _ _ _ h => h) (Or.inl ⟨by rfl, ?_⟩) ?_ ?_
        rotate_left
        · intro w'
          go_simp
          with_reducible rfl
        rotate_left
        · simp only [Act.put, List.setIfInBounds_toArray, List.set_cons_zero, List.set_cons_succ, i64_w, i32_w]
          rfl
        refine pure_ (i := 7) (N := some 40) (v := ?_) (a' := ?_) #[true, true, true, true, true, true, true, true, false, false, false, false, false, false, false] rfl rfl (any_of HT_.out (by kernel_rfl)) (fun _ _ _ h => h) (Or.inl ⟨by rfl, ?_⟩) ?_ ?_
        rotate_left
        · intro w'
          go_simp
          with_reducible rfl
        rotate_left
        · simp only [Act.put, List.setIfInBounds_toArray, List.set_cons_zero, List.set_cons_succ, i64_w, i32_w]
          rfl
        refine pure_ (i := 8) (N := some 41) (v := ?_) (a' := ?_) #[true, true, true, true, true, true, true, true, true, false, false, false, false, false, false] rfl rfl (any_of HT_.out (by kernel_rfl)) (fun _ _ _ h => h) (Or.inl ⟨by rfl, ?_⟩) ?_ ?_
        rotate_left
        · intro w'
          go_simp
          with_reducible rfl
        rotate_left
        · simp only [Act.put, List.setIfInBounds_toArray, List.set_cons_zero, List.set_cons_succ, i64_w, i32_w]
          rfl
        refine pure_ (i := 9) (N := some 42) (v := ?_) (a' := ?_) #[true, true, true, true, true, true, true, true, true, true, false, false, false, false, false] rfl rfl (any_of HT_.out (by kernel_rfl)) (fun _ _ _ h => h) (Or.inl ⟨by rfl, ?_⟩) ?_ ?_
        rotate_left
        · intro w'
          go_simp
          with_reducible rfl
        rotate_left
        · simp only [Act.put, List.setIfInBounds_toArray, List.set_cons_zero, List.set_cons_succ, i64_w, i32_w]
          rfl
        refine pure_ (i := 10) (N := some 43) (v := ?_) (a' := ?_) #[true, true, true, true, true, true, true, true, true, true, true, false, false, false, false] rfl rfl (any_of HT_.out (by kernel_rfl)) (fun _ _ _ h => h) (Or.inl ⟨by rfl, ?_⟩) ?_ ?_
        rotate_left
        · intro w'
          go_simp
          with_reducible rfl
        rotate_left
        · simp only [Act.put, List.setIfInBounds_toArray, List.set_cons_zero, List.set_cons_succ, i64_w, i32_w]
          rfl
        refine pure_ (i := 11) (N := some 44) (v := ?_) (a' := ?_) #[true, true, true, true, true, true, true, true, true, true, true, true, false, false, false] rfl rfl (any_of HT_.out (by kernel_rfl)) (fun _ _ _ h => h) (Or.inl ⟨by rfl, ?_⟩) ?_ ?_
        rotate_left
        · intro w'
          go_simp
          with_reducible rfl
        rotate_left
        · simp only [Act.put, List.setIfInBounds_toArray, List.set_cons_zero, List.set_cons_succ, i64_w, i32_w]
          rfl
        refine pure_ (i := 12) (N := some 45) (v := ?_) (a' := ?_) #[true, true, true, true, true, true, true, true, true, true, true, true, true, false, false] rfl rfl (any_of HT_.out (by kernel_rfl)) (fun _ _ _ h => h) (Or.inl ⟨by rfl, ?_⟩) ?_ ?_
        rotate_left
        · intro w'
          go_simp
          with_reducible rfl
        rotate_left
        · simp only [Act.put, List.setIfInBounds_toArray, List.set_cons_zero, List.set_cons_succ, i64_w, i32_w]
          rfl
        refine pure_ (i := 13) (N := some 46) (v := ?_) (a' := ?_) #[true, true, true, true, true, true, true, true, true, true, true, true, true, true, false] rfl rfl (any_of HT_.out (by kernel_rfl)) (fun _ _ _ h => h) (Or.inl ⟨by rfl, ?_⟩) ?_ ?_
        rotate_left
        · intro w'
          go_simp
          with_reducible rfl
        rotate_left
        · simp only [Act.put, List.setIfInBounds_toArray, List.set_cons_zero, List.set_cons_succ, i64_w, i32_w]
          rfl
        refine one_ (i := 14) (N := none) #[true, true, true, true, true, true, true, true, true, true, true, true, true, true, true] rfl rfl (one_of HT_.out (by kernel_rfl)) (by decide) (fun K hK => ?_)
        refine skip_ (w1 := wd.setCell ⟨g5, i, none⟩ (.int .u8 (f i))) (by rfl) rfl (by first | (go_simp; done) | (go_simp; rfl)) ?_
        have hp_ : Kd.R (Kd.int .u8) 5 (wd.setCell ⟨g5, i, none⟩ (.int .u8 (f i))) w.heap.size (fun _ => True) (.slice (some ⟨g5, 0, none⟩) m c4) (fill f m (i + 1)) := (by rw [← fill_set]; have h := HP.out.1; rw [Int.toNat_natCast] at h; exact h)
        have hb_ : Below w.heap.size w (wd.setCell ⟨g5, i, none⟩ (.int .u8 (f i))) := below_set HB.out GB.out
        generalize wd.setCell ⟨g5, i, none⟩ (.int .u8 (f i)) = we at hp_ hb_ ⊢
        clear HB HO HP
        have HB := Aside0.mk hb_
        have HO := Aside0.mk hp_
        clear hb_ hp_
        refine hK.out _ _ trivial (fun hHeld => ?_)
        clear hK K
        refine done_ (done_of HT_.out (by kernel_rfl)) ?_
        go_wp2
        go_roundg (m - (i + 1))
        case measure => have := HG.out; omega
        case rel => exact ⟨i + 1, wrap_succ i (by have := HM.out; have := HG.out; omega), ⟨rfl, by omega⟩, HO, HB⟩
      · skip
        have d0 : decide ((i : Int) < (m : Int)) = false := decide_eq_false (by omega)
        have d1 : decide (i < m) = false := decide_eq_false hi
        have hi2 : i = m := by have := HG.out; omega
        subst hi2
        clear hi
        have HZD := Aside0.mk (show ∀ s ∈ ([strOfNums (fill f i i)] : List ByteArray), s.size ≤ 140737488355328 by
          intro s hs
          rcases List.mem_cons.1 hs with rfl | hs
          · show (strOfNums (fill f i i)).size ≤ 140737488355328; have h : (strOfNums (fill f i i)).size = i := by
              show ((fill f i i).map _).toArray.size = i
              rw [List.size_toArray, List.length_map, fill_len]
            have := HM.out; omega
          · cases hs)
        have HZA := Aside0.mk (show ∀ s ∈ ([a0.extract 0 i] : List ByteArray), s.size ≤ 140737488355328 by
          intro s hs
          rcases List.mem_cons.1 hs with rfl | hs
          · show (a0.extract 0 i).size ≤ 140737488355328; rw [ByteArray.size_extract]; have := HM.out; omega
          · cases hs)
        have HZB := Aside0.mk (show ∀ s ∈ ([a1.extract 0 i] : List ByteArray), s.size ≤ 140737488355328 by
          intro s hs
          rcases List.mem_cons.1 hs with rfl | hs
          · show (a1.extract 0 i).size ≤ 140737488355328; rw [ByteArray.size_extract]; have := HM.out; omega
          · cases hs)
        have HZC := Aside0.mk (show ∀ s ∈ ([a2.extract 0 i] : List ByteArray), s.size ≤ 140737488355328 by
          intro s hs
          rcases List.mem_cons.1 hs with rfl | hs
          · show (a2.extract 0 i).size ≤ 140737488355328; rw [ByteArray.size_extract]; have := HM.out; omega
          · cases hs)
        have t0 : ((i : Int) ≤ (a0.size : Int)) = True := eq_true (by have := HA0.out; omega)
        have t1 : ((i : Int) ≤ (a1.size : Int)) = True := eq_true (by have := HA1.out; omega)
        have t2 : ((i : Int) ≤ (a2.size : Int)) = True := eq_true (by have := HA2.out; omega)
        have u0 : (i ≤ a0.size) = True := eq_true HA0.out
        have u1 : (i ≤ a1.size) = True := eq_true HA1.out
        have u2 : (i ≤ a2.size) = True := eq_true HA2.out
        have v0 : decide ((i : Int) ≤ (a0.size : Int)) = true := decide_eq_true (by have := HA0.out; omega)
        have v1 : decide ((i : Int) ≤ (a1.size : Int)) = true := decide_eq_true (by have := HA1.out; omega)
        have v2 : decide ((i : Int) ≤ (a2.size : Int)) = true := decide_eq_true (by have := HA2.out; omega)
        have z0 : (0 ≤ (i : Int)) = True := eq_true (by omega)
        obtain ⟨VA, hVA⟩ : ∃ V, sumN [a0.extract 0 i] = V := ⟨_, rfl⟩
        have ltA : VA < 4294967296 := by rw [← hVA]; exact sumN_lt _
        obtain ⟨VB, hVB⟩ : ∃ V, sumN [a1.extract 0 i] = V := ⟨_, rfl⟩
        have ltB : VB < 4294967296 := by rw [← hVB]; exact sumN_lt _
        obtain ⟨VC, hVC⟩ : ∃ V, sumN [a2.extract 0 i] = V := ⟨_, rfl⟩
        have ltC : VC < 4294967296 := by rw [← hVC]; exact sumN_lt _
        obtain ⟨VD, hVD⟩ : ∃ V, sumN [strOfNums (fill f i i)] = V := ⟨_, rfl⟩
        have ltD : VD < 4294967296 := by rw [← hVD]; exact sumN_lt _
        rw [hVA, hVB, hVC, hVD] at hl
        obtain ⟨VAB, hab⟩ : ∃ V, VA ^^^ VB = V := ⟨_, rfl⟩
        have hxa : Go.bits .xor .i64 (VA : Int) (VB : Int) = (VAB : Int) := by rw [← hab]; exact xor_cast VA VB (by omega) (by omega)
        have hxb : Go.bits .xor .i64 (VAB : Int) (VC : Int) = (VD : Int) := by rw [← hl, hab]; exact xor_cast VAB VC (by rw [← hab]; exact Nat.lt_trans (Nat.xor_lt_two_pow (n := 32) ltA ltB) (by decide)) (by omega)
        have kVA := Aside0.mk hVA
        have kVB := Aside0.mk hVB
        have kVC := Aside0.mk hVC
        have kVD := Aside0.mk hVD
        clear hl hVA hVB hVC hVD hab ltA ltB ltC ltD
        go_wp2_with (first | (go_at_call 9; (with_reducible refine (make_calls _).mono ?_); rintro e w40 ⟨gLT, cLT, rfl, ho_, hb⟩; have m_ := Aside0.mk (Kd.R_lower ho_ (below_size (by repeat (first | (with_reducible first | exact HB.out | apply below_alloc | apply pw_below_drewN | apply below_drew1) | exact HB.out)))); clear ho_; have n0_ := Aside0.mk (Kd.R_below (by (with_reducible repeat (first | apply Kd.R_alloc | apply Kd.R_drewN | apply Kd.R_drew)); exact HO.out) hb); have nb_ := Aside0.mk (below_step (by repeat (first | (with_reducible first | exact HB.out | apply below_alloc | apply pw_below_drewN | apply below_drew1) | exact HB.out)) hb); clear HO; clear HB; have HO := n0_; have HB := nb_; clear nb_ n0_; clear hb; have LT := m_; clear m_))
        have nb_ := Aside0.mk (below_drew1 HB.out)
        have no_ := Aside0.mk (Kd.R_drew HO.out)
        have nl_ := Aside0.mk (Kd.R_drew LT.out)
        clear HB HO LT
        have HB := nb_
        have HO := no_
        have LT := nl_
        clear nb_ no_ nl_
        refine start_ (n := 30) (S := fun w' => True) (ds := []) #[false, false, false, false, false, false, false, false, false, false, false, false, false, false, false, false, false, false, false, false, false, false, false, false, false, false, false, false, false, false] (by kernel_rfl) rfl rfl trivial (fun hHeld => ?_); refine with_tabW lin13.tab lin13.bits (fun HT_ HW_ => ?_)
        generalize w40.drew = w41 at HB LT HO hHeld ⊢
        refine pure_ (i := 0) (N := some 48) (v := ?_) (a' := ?_) #[true, false, false, false, false, false, false, false, false, false, false, false, false, false, false, false, false, false, false, false, false, false, false, false, false, false, false, false, false, false] rfl rfl (any_of HT_.out (by kernel_rfl)) (fun _ _ _ h => h) (Or.inl ⟨by rfl, ?_⟩) ?_ ?_
        rotate_left
        · intro w'
          go_simp
          with_reducible rfl
        rotate_left
        · simp only [Act.put, List.setIfInBounds_toArray, List.set_cons_zero, List.set_cons_succ, i64_w, i32_w]
          rfl
        refine pure_ (i := 1) (N := some 49) (v := ?_) (a' := ?_) #[true, true, false, false, false, false, false, false, false, false, false, false, false, false, false, false, false, false, false, false, false, false, false, false, false, false, false, false, false, false] rfl rfl (any_of HT_.out (by kernel_rfl)) (fun _ _ _ h => h) (Or.inl ⟨by rfl, ?_⟩) ?_ ?_
        rotate_left
        · intro w'
          go_simp
          with_reducible rfl
        rotate_left
        · simp only [Act.put, List.setIfInBounds_toArray, List.set_cons_zero, List.set_cons_succ, i64_w, i32_w]
          rfl
        refine pure_ (i := 2) (N := some 50) (v := ?_) (a' := ?_) #[true, true, true, false, false, false, false, false, false, false, false, false, false, false, false, false, false, false, false, false, false, false, false, false, false, false, false, false, false, false] rfl rfl (any_of HT_.out (by kernel_rfl)) (fun _ _ _ h => h) (Or.inl ⟨by rfl, ?_⟩) ?_ ?_
        rotate_left
        · intro w'
          go_simp
          with_reducible rfl
        rotate_left
        · simp only [Act.put, List.setIfInBounds_toArray, List.set_cons_zero, List.set_cons_succ, i64_w, i32_w]
          rfl
        refine pure_ (i := 3) (N := some 51) (v := ?_) (a' := ?_) #[true, true, true, true, false, false, false, false, false, false, false, false, false, false, false, false, false, false, false, false, false, false, false, false, false, false, false, false, false, false] rfl rfl (any_of HT_.out (by kernel_rfl)) (fun _ _ _ h => h) (Or.inl ⟨by rfl, ?_⟩) ?_ ?_
        rotate_left
        · intro w'
          go_simp
          with_reducible rfl
        rotate_left
        · simp only [Act.put, List.setIfInBounds_toArray, List.set_cons_zero, List.set_cons_succ, i64_w, i32_w]
          rfl
        refine pure_ (i := 7) (N := some 55) (v := ?_) (a' := ?_) #[true, true, true, true, false, false, false, true, false, false, false, false, false, false, false, false, false, false, false, false, false, false, false, false, false, false, false, false, false, false] rfl rfl (any_of HT_.out (by kernel_rfl)) (fun _ _ _ h => h) (Or.inl ⟨by rfl, ?_⟩) ?_ ?_
        rotate_left
        · intro w'
          go_simp
          with_reducible rfl
        rotate_left
        · simp only [Act.put, List.setIfInBounds_toArray, List.set_cons_zero, List.set_cons_succ, i64_w, i32_w]
          rfl
        refine pure_ (i := 8) (N := some 56) (v := ?_) (a' := ?_) #[true, true, true, true, false, false, false, true, true, false, false, false, false, false, false, false, false, false, false, false, false, false, false, false, false, false, false, false, false, false] rfl rfl (any_of HT_.out (by kernel_rfl)) (fun _ _ _ h => h) (Or.inl ⟨by rfl, ?_⟩) ?_ ?_
        rotate_left
        · intro w'
          go_simp
          with_reducible rfl
        rotate_left
        · simp only [Act.put, List.setIfInBounds_toArray, List.set_cons_zero, List.set_cons_succ, i64_w, i32_w]
          rfl
        refine pure_ (i := 9) (N := some 57) (v := ?_) (a' := ?_) #[true, true, true, true, false, false, false, true, true, true, false, false, false, false, false, false, false, false, false, false, false, false, false, false, false, false, false, false, false, false] rfl rfl (any_of HT_.out (by kernel_rfl)) (fun _ _ _ h => h) (Or.inl ⟨by rfl, ?_⟩) ?_ ?_
        rotate_left
        · intro w'
          go_simp
          with_reducible rfl
        rotate_left
        · simp only [Act.put, List.setIfInBounds_toArray, List.set_cons_zero, List.set_cons_succ, i64_w, i32_w]
          rfl
        refine pure_ (i := 10) (N := some 58) (v := ?_) (a' := ?_) #[true, true, true, true, false, false, false, true, true, true, true, false, false, false, false, false, false, false, false, false, false, false, false, false, false, false, false, false, false, false] rfl rfl (any_of HT_.out (by kernel_rfl)) (fun _ _ _ h => h) (Or.inl ⟨by rfl, ?_⟩) ?_ ?_
        rotate_left
        · intro w'
          go_simp
          with_reducible rfl
        rotate_left
        · simp only [Act.put, List.setIfInBounds_toArray, List.set_cons_zero, List.set_cons_succ, i64_w, i32_w]
          rfl
        refine pure_ (i := 13) (N := some 61) (v := ?_) (a' := ?_) #[true, true, true, true, false, false, false, true, true, true, true, false, false, true, false, false, false, false, false, false, false, false, false, false, false, false, false, false, false, false] rfl rfl (any_of HT_.out (by kernel_rfl)) (fun _ _ _ h => h) (Or.inl ⟨by rfl, ?_⟩) ?_ ?_
        rotate_left
        · intro w'
          go_simp
          with_reducible rfl
        rotate_left
        · simp only [Act.put, List.setIfInBounds_toArray, List.set_cons_zero, List.set_cons_succ, i64_w, i32_w]
          rfl
        refine pure_ (i := 14) (N := some 62) (v := ?_) (a' := ?_) #[true, true, true, true, false, false, false, true, true, true, true, false, false, true, true, false, false, false, false, false, false, false, false, false, false, false, false, false, false, false] rfl rfl (any_of HT_.out (by kernel_rfl)) (fun _ _ _ h => h) (Or.inl ⟨by rfl, ?_⟩) ?_ ?_
        rotate_left
        · intro w'
          go_simp
          with_reducible rfl
        rotate_left
        · simp only [Act.put, List.setIfInBounds_toArray, List.set_cons_zero, List.set_cons_succ, i64_w, i32_w]
          rfl
        refine pure_ (i := 15) (N := some 63) (v := ?_) (a' := ?_) #[true, true, true, true, false, false, false, true, true, true, true, false, false, true, true, true, false, false, false, false, false, false, false, false, false, false, false, false, false, false] rfl rfl (any_of HT_.out (by kernel_rfl)) (fun _ _ _ h => h) (Or.inl ⟨by rfl, ?_⟩) ?_ ?_
        rotate_left
        · intro w'
          go_simp
          with_reducible rfl
        rotate_left
        · simp only [Act.put, List.setIfInBounds_toArray, List.set_cons_zero, List.set_cons_succ, i64_w, i32_w]
          rfl
        refine pure_ (i := 16) (N := some 64) (v := ?_) (a' := ?_) #[true, true, true, true, false, false, false, true, true, true, true, false, false, true, true, true, true, false, false, false, false, false, false, false, false, false, false, false, false, false] rfl rfl (any_of HT_.out (by kernel_rfl)) (fun _ _ _ h => h) (Or.inl ⟨by rfl, ?_⟩) ?_ ?_
        rotate_left
        · intro w'
          go_simp
          with_reducible rfl
        rotate_left
        · simp only [Act.put, List.setIfInBounds_toArray, List.set_cons_zero, List.set_cons_succ, i64_w, i32_w]
          rfl
        refine pure_ (i := 20) (N := some 68) (v := ?_) (a' := ?_) #[true, true, true, true, false, false, false, true, true, true, true, false, false, true, true, true, true, false, false, false, true, false, false, false, false, false, false, false, false, false] rfl rfl (any_of HT_.out (by kernel_rfl)) (fun _ _ _ h => h) (Or.inl ⟨by rfl, ?_⟩) ?_ ?_
        rotate_left
        · intro w'
          go_simp
          with_reducible rfl
        rotate_left
        · simp only [Act.put, List.setIfInBounds_toArray, List.set_cons_zero, List.set_cons_succ, i64_w, i32_w]
          rfl
        refine pure_ (i := 21) (N := some 69) (v := ?_) (a' := ?_) #[true, true, true, true, false, false, false, true, true, true, true, false, false, true, true, true, true, false, false, false, true, true, false, false, false, false, false, false, false, false] rfl rfl (any_of HT_.out (by kernel_rfl)) (fun _ _ _ h => h) (Or.inl ⟨by rfl, ?_⟩) ?_ ?_
        rotate_left
        · intro w'
          go_simp
          with_reducible rfl
        rotate_left
        · simp only [Act.put, List.setIfInBounds_toArray, List.set_cons_zero, List.set_cons_succ, i64_w, i32_w]
          rfl
        refine pure_ (i := 22) (N := some 70) (v := ?_) (a' := ?_) #[true, true, true, true, false, false, false, true, true, true, true, false, false, true, true, true, true, false, false, false, true, true, true, false, false, false, false, false, false, false] rfl rfl (any_of HT_.out (by kernel_rfl)) (fun _ _ _ h => h) (Or.inl ⟨by rfl, ?_⟩) ?_ ?_
        rotate_left
        · intro w'
          go_simp
          with_reducible rfl
        rotate_left
        · simp only [Act.put, List.setIfInBounds_toArray, List.set_cons_zero, List.set_cons_succ, i64_w, i32_w]
          rfl
        refine pure_ (i := 23) (N := some 71) (v := ?_) (a' := ?_) #[true, true, true, true, false, false, false, true, true, true, true, false, false, true, true, true, true, false, false, false, true, true, true, true, false, false, false, false, false, false] rfl rfl (any_of HT_.out (by kernel_rfl)) (fun _ _ _ h => h) (Or.inl ⟨by rfl, ?_⟩) ?_ ?_
        rotate_left
        · intro w'
          go_simp
          with_reducible rfl
        rotate_left
        · simp only [Act.put, List.setIfInBounds_toArray, List.set_cons_zero, List.set_cons_succ, i64_w, i32_w]
          rfl
        refine inv_at [4, 5, 6, 11, 12, 17, 18, 19, 24, 25, 26, 27, 28, 29] (fun a0_ b a w' => ∃ (L5 : Value) (L11 : Value) (L17 : Value) (L24 : Value), a = putSel a0_ b [(4, 52, .string (strOfNums (fill f i i))), (5, 53, L5), (6, 54, .int .i64 (VD : Int)), (11, 59, L11), (12, 60, .int .i64 (VA : Int)), (17, 65, L17), (18, 66, .int .i64 (VB : Int)), (19, 67, .int .i64 (VAB : Int)), (24, 72, L24), (25, 73, .int .i64 (VC : Int)), (26, 74, .int .i64 (VD : Int)), (27, 75, .bool true), (28, 76, .bool true), (29, 6, .bool true)] ∧ (Below w.heap.size w w') ∧ (Kd.R (Kd.int .i64) 3 w' w.heap.size (fun _ => True) (.slice (some ⟨gLT, 0, none⟩) 256 cLT) tableZ) ∧ (Kd.R (Kd.int .u8) 5 w' w.heap.size (fun _ => True) (.slice A4 i c4) (fill f i i)) ∧ (b 5 = true → Kd.R Kd.string 9 w' w.heap.size (fun _ => True) L5 [strOfNums (fill f i i)]) ∧ (b 11 = true → Kd.R Kd.string 9 w' w.heap.size (fun _ => True) L11 [a0.extract 0 i]) ∧ (b 17 = true → Kd.R Kd.string 9 w' w.heap.size (fun _ => True) L17 [a1.extract 0 i]) ∧ (b 24 = true → Kd.R Kd.string 9 w' w.heap.size (fun _ => True) L24 [a2.extract 0 i])) HT_.out HW_.out (by kernel_rfl) (by kernel_rfl) ?_ ?_ ?_
        · exact ⟨.bool false, .bool false, .bool false, .bool false, by simp only [putSel, Bool.false_eq_true, if_false], HB.out, LT.out, HO.out, fun h_ => absurd h_ (by decide), fun h_ => absurd h_ (by decide), fun h_ => absurd h_ (by decide), fun h_ => absurd h_ (by decide)⟩
        · skip
          clear HB HO LT
          refine steps_cons ?_ ?_
          · rintro b a w' ⟨L5, L11, L17, L24, ha, Q_HB, Q_LT, Q_HO, Q_R5, Q_R11, Q_R17, Q_R24⟩ hb_ hon hoff
            refine ⟨_, rfl, fun K hK => ?_⟩
            have e51 : a.tmps[51]? = some (.slice A4 i c4) := by rw [ha]; exact (putSel_off rfl).trans rfl
            have e49 : a.tmps[49]? = some (.bool true) := by rw [ha]; exact (putSel_off rfl).trans rfl
            replace ha := Aside0.mk ha
            have HB := Aside0.mk Q_HB
            have LT := Aside0.mk Q_LT
            have HO := Aside0.mk Q_HO
            have hcv := own_string (P := Try.prog) Try.underlying34 Try.underlying5 Try.underlying9 (Kd.own_of_R HO.out)
            refine value_ (w1 := w') (v := .string (strOfNums (fill f i i))) (wanted_on rfl rfl rfl (e49.trans (by first | rfl | (simp [*]; done)))) rfl ?_ ?_
            · go_simp
              (try simp only [i64_w])
              try rfl
            refine hK.out _ _ ⟨L5, L11, L17, L24, (by rw [ha.out]; exact putSel_upk 0 hb_ rfl rfl rfl), Q_HB, Q_LT, Q_HO, fun h0_ => absurd ((hoff 5 (by kernel_rfl)).symm.trans h0_) (by decide), Q_R11, Q_R17, Q_R24⟩
          refine steps_cons ?_ ?_
          · rintro b a w' ⟨L5, L11, L17, L24, ha, Q_HB, Q_LT, Q_HO, Q_R5, Q_R11, Q_R17, Q_R24⟩ hb_ hon hoff
            refine ⟨_, rfl, fun K hK => ?_⟩
            have e52 : a.tmps[52]? = some (.string (strOfNums (fill f i i))) := by rw [ha]; exact putSel_on (e := (4, 52, .string (strOfNums (fill f i i)))) 0 rfl rfl (hon 4 (by kernel_rfl)) rfl
            have e49 : a.tmps[49]? = some (.bool true) := by rw [ha]; exact (putSel_off rfl).trans rfl
            replace ha := Aside0.mk ha
            have HB := Aside0.mk Q_HB
            have LT := Aside0.mk Q_LT
            have HO := Aside0.mk Q_HO
            refine Kd.R_lit_step Kd.string _ 9 ?hg (N := 53) ?hd (xs := ([strOfNums (fill f i i)] : List ByteArray)) (inner := [.string (strOfNums (fill f i i))]) (ok := fun _ => True) (okp := fun _ => True) ?hr ?hp (fun _ hk => hk) trivial (Below.refl _ _) (Nat.le_refl _) (by simp) ?_
            case hd => rfl
            case hg => exact (wanted_on rfl rfl rfl (e49.trans (by first | rfl | (simp [*]; done))))
            case hr => first | (go_simp; done) | (go_simp; rfl)
            case hp => exact (Reps.one (show Kd.M Kd.string _ _ _ (strOfNums (fill f i i)) [.string (strOfNums (fill f i i))] from rfl) (Reps.none _ _))
            intro v5 w5 ho_ hb hg_ hnew_
            clear hg_ hnew_
            refine hK.out _ _ ⟨v5, L11, L17, L24, (by rw [ha.out]; exact putSel_upk 1 hb_ rfl rfl rfl), (below_step HB.out hb), (Kd.R_below LT.out hb), (Kd.R_below HO.out hb), fun _ => (Kd.R_lower ho_ (below_size HB.out)), fun h0_ => (Kd.R_below (Q_R11 h0_) hb), fun h0_ => (Kd.R_below (Q_R17 h0_) hb), fun h0_ => (Kd.R_below (Q_R24 h0_) hb)⟩
          refine steps_cons ?_ ?_
          · rintro b a w' ⟨L5, L11, L17, L24, ha, Q_HB, Q_LT, Q_HO, Q_R5, Q_R11, Q_R17, Q_R24⟩ hb_ hon hoff
            refine ⟨_, rfl, fun K hK => ?_⟩
            have e50 : a.tmps[50]? = some (.slice (some ⟨gLT, 0, none⟩) 256 cLT) := by rw [ha]; exact (putSel_off rfl).trans rfl
            have e53 : a.tmps[53]? = some (L5) := by rw [ha]; exact putSel_on (e := (5, 53, L5)) 1 rfl rfl (hon 5 (by kernel_rfl)) rfl
            have e49 : a.tmps[49]? = some (.bool true) := by rw [ha]; exact (putSel_off rfl).trans rfl
            replace ha := Aside0.mk ha
            have HB := Aside0.mk Q_HB
            have LT := Aside0.mk Q_LT
            have HO := Aside0.mk Q_HO
            have R5 := Aside0.mk (Q_R5 (hon 5 (by kernel_rfl)))
            obtain ⟨Ao5, co5, eo_⟩ := Kd.R_slice R5.out
            subst eo_
            refine goes_ Try.func13 (by kernel_rfl) rfl #[.slice (some ⟨gLT, 0, none⟩) 256 cLT, .slice Ao5 [strOfNums (fill f i i)].length co5] (wanted_on rfl rfl rfl (e49.trans (by first | rfl | (simp [*]; done)))) rfl rfl (by first | (simp only [List.map_toArray, List.map_cons, List.map_nil, Act.eval, Array.getD_eq_getD_getElem?, Option.getD_some, e50, e53, e49]; done) | (simp only [List.map_toArray, List.map_cons, List.map_nil, Act.eval, Array.getD_eq_getD_getElem?, Option.getD_some, e50, e53, e49]; rfl)) ?_
            with_reducible refine (sum_calls _ _ _ 256 _ _ [strOfNums (fill f i i)] _ ?side3 ?side4 HZD.out (Or.inl rfl) ?side1 ?side2).mono ?_
            case side1 => exact (fun _ => C256 (Kd.R_reads' LT.out).2.2)
            case side2 => exact (Kd.R_reads' R5.out).2.2
            case side3 => rfl
            case side4 => simp
            rw [kVD.out]
            rintro e w6 ⟨rfl, hb⟩
            refine ⟨_, rfl, ?_⟩
            refine hK.out _ _ ⟨.slice Ao5 [strOfNums (fill f i i)].length co5, L11, L17, L24, (by rw [ha.out]; exact putSel_upk 2 hb_ rfl rfl rfl), (below_step HB.out hb), (Kd.R_below LT.out hb), (Kd.R_below HO.out hb), fun _ => (Kd.R_below R5.out hb), fun h0_ => (Kd.R_below (Q_R11 h0_) hb), fun h0_ => (Kd.R_below (Q_R17 h0_) hb), fun h0_ => (Kd.R_below (Q_R24 h0_) hb)⟩
          refine steps_cons ?_ ?_
          · rintro b a w' ⟨L5, L11, L17, L24, ha, Q_HB, Q_LT, Q_HO, Q_R5, Q_R11, Q_R17, Q_R24⟩ hb_ hon hoff
            refine ⟨_, rfl, fun K hK => ?_⟩
            have e58 : a.tmps[58]? = some (.string (a0.extract 0 i)) := by rw [ha]; exact (putSel_off rfl).trans rfl
            have e49 : a.tmps[49]? = some (.bool true) := by rw [ha]; exact (putSel_off rfl).trans rfl
            replace ha := Aside0.mk ha
            have HB := Aside0.mk Q_HB
            have LT := Aside0.mk Q_LT
            have HO := Aside0.mk Q_HO
            refine Kd.R_lit_step Kd.string _ 9 ?hg (N := 59) ?hd (xs := ([a0.extract 0 i] : List ByteArray)) (inner := [.string (a0.extract 0 i)]) (ok := fun _ => True) (okp := fun _ => True) ?hr ?hp (fun _ hk => hk) trivial (Below.refl _ _) (Nat.le_refl _) (by simp) ?_
            case hd => rfl
            case hg => exact (wanted_on rfl rfl rfl (e49.trans (by first | rfl | (simp [*]; done))))
            case hr => first | (go_simp; done) | (go_simp; rfl)
            case hp => exact (Reps.one (show Kd.M Kd.string _ _ _ (a0.extract 0 i) [.string (a0.extract 0 i)] from rfl) (Reps.none _ _))
            intro v11 w11 ho_ hb hg_ hnew_
            clear hg_ hnew_
            refine hK.out _ _ ⟨L5, v11, L17, L24, (by rw [ha.out]; exact putSel_upk 3 hb_ rfl rfl rfl), (below_step HB.out hb), (Kd.R_below LT.out hb), (Kd.R_below HO.out hb), fun h0_ => (Kd.R_below (Q_R5 h0_) hb), fun _ => (Kd.R_lower ho_ (below_size HB.out)), fun h0_ => (Kd.R_below (Q_R17 h0_) hb), fun h0_ => (Kd.R_below (Q_R24 h0_) hb)⟩
          refine steps_cons ?_ ?_
          · rintro b a w' ⟨L5, L11, L17, L24, ha, Q_HB, Q_LT, Q_HO, Q_R5, Q_R11, Q_R17, Q_R24⟩ hb_ hon hoff
            refine ⟨_, rfl, fun K hK => ?_⟩
            have e55 : a.tmps[55]? = some (.slice (some ⟨gLT, 0, none⟩) 256 cLT) := by rw [ha]; exact (putSel_off rfl).trans rfl
            have e59 : a.tmps[59]? = some (L11) := by rw [ha]; exact putSel_on (e := (11, 59, L11)) 3 rfl rfl (hon 11 (by kernel_rfl)) rfl
            have e49 : a.tmps[49]? = some (.bool true) := by rw [ha]; exact (putSel_off rfl).trans rfl
            replace ha := Aside0.mk ha
            have HB := Aside0.mk Q_HB
            have LT := Aside0.mk Q_LT
            have HO := Aside0.mk Q_HO
            have R5 := Aside0.mk (Q_R5 (hon 5 (by kernel_rfl)))
            have R11 := Aside0.mk (Q_R11 (hon 11 (by kernel_rfl)))
            obtain ⟨Ao11, co11, eo_⟩ := Kd.R_slice R11.out
            subst eo_
            refine goes_ Try.func13 (by kernel_rfl) rfl #[.slice (some ⟨gLT, 0, none⟩) 256 cLT, .slice Ao11 [a0.extract 0 i].length co11] (wanted_on rfl rfl rfl (e49.trans (by first | rfl | (simp [*]; done)))) rfl rfl (by first | (simp only [List.map_toArray, List.map_cons, List.map_nil, Act.eval, Array.getD_eq_getD_getElem?, Option.getD_some, e55, e59, e49]; done) | (simp only [List.map_toArray, List.map_cons, List.map_nil, Act.eval, Array.getD_eq_getD_getElem?, Option.getD_some, e55, e59, e49]; rfl)) ?_
            with_reducible refine (sum_calls _ _ _ 256 _ _ [a0.extract 0 i] _ ?side3 ?side4 HZA.out (Or.inl rfl) ?side1 ?side2).mono ?_
            case side1 => exact (fun _ => C256 (Kd.R_reads' LT.out).2.2)
            case side2 => exact (Kd.R_reads' R11.out).2.2
            case side3 => rfl
            case side4 => simp
            rw [kVA.out]
            rintro e w12 ⟨rfl, hb⟩
            refine ⟨_, rfl, ?_⟩
            refine hK.out _ _ ⟨L5, .slice Ao11 [a0.extract 0 i].length co11, L17, L24, (by rw [ha.out]; exact putSel_upk 4 hb_ rfl rfl rfl), (below_step HB.out hb), (Kd.R_below LT.out hb), (Kd.R_below HO.out hb), fun _ => (Kd.R_below R5.out hb), fun _ => (Kd.R_below R11.out hb), fun h0_ => (Kd.R_below (Q_R17 h0_) hb), fun h0_ => (Kd.R_below (Q_R24 h0_) hb)⟩
          refine steps_cons ?_ ?_
          · rintro b a w' ⟨L5, L11, L17, L24, ha, Q_HB, Q_LT, Q_HO, Q_R5, Q_R11, Q_R17, Q_R24⟩ hb_ hon hoff
            refine ⟨_, rfl, fun K hK => ?_⟩
            have e64 : a.tmps[64]? = some (.string (a1.extract 0 i)) := by rw [ha]; exact (putSel_off rfl).trans rfl
            have e49 : a.tmps[49]? = some (.bool true) := by rw [ha]; exact (putSel_off rfl).trans rfl
            replace ha := Aside0.mk ha
            have HB := Aside0.mk Q_HB
            have LT := Aside0.mk Q_LT
            have HO := Aside0.mk Q_HO
            refine Kd.R_lit_step Kd.string _ 9 ?hg (N := 65) ?hd (xs := ([a1.extract 0 i] : List ByteArray)) (inner := [.string (a1.extract 0 i)]) (ok := fun _ => True) (okp := fun _ => True) ?hr ?hp (fun _ hk => hk) trivial (Below.refl _ _) (Nat.le_refl _) (by simp) ?_
            case hd => rfl
            case hg => exact (wanted_on rfl rfl rfl (e49.trans (by first | rfl | (simp [*]; done))))
            case hr => first | (go_simp; done) | (go_simp; rfl)
            case hp => exact (Reps.one (show Kd.M Kd.string _ _ _ (a1.extract 0 i) [.string (a1.extract 0 i)] from rfl) (Reps.none _ _))
            intro v17 w17 ho_ hb hg_ hnew_
            clear hg_ hnew_
            refine hK.out _ _ ⟨L5, L11, v17, L24, (by rw [ha.out]; exact putSel_upk 5 hb_ rfl rfl rfl), (below_step HB.out hb), (Kd.R_below LT.out hb), (Kd.R_below HO.out hb), fun h0_ => (Kd.R_below (Q_R5 h0_) hb), fun h0_ => (Kd.R_below (Q_R11 h0_) hb), fun _ => (Kd.R_lower ho_ (below_size HB.out)), fun h0_ => (Kd.R_below (Q_R24 h0_) hb)⟩
          refine steps_cons ?_ ?_
          · rintro b a w' ⟨L5, L11, L17, L24, ha, Q_HB, Q_LT, Q_HO, Q_R5, Q_R11, Q_R17, Q_R24⟩ hb_ hon hoff
            refine ⟨_, rfl, fun K hK => ?_⟩
            have e61 : a.tmps[61]? = some (.slice (some ⟨gLT, 0, none⟩) 256 cLT) := by rw [ha]; exact (putSel_off rfl).trans rfl
            have e65 : a.tmps[65]? = some (L17) := by rw [ha]; exact putSel_on (e := (17, 65, L17)) 5 rfl rfl (hon 17 (by kernel_rfl)) rfl
            have e49 : a.tmps[49]? = some (.bool true) := by rw [ha]; exact (putSel_off rfl).trans rfl
            replace ha := Aside0.mk ha
            have HB := Aside0.mk Q_HB
            have LT := Aside0.mk Q_LT
            have HO := Aside0.mk Q_HO
            have R5 := Aside0.mk (Q_R5 (hon 5 (by kernel_rfl)))
            have R11 := Aside0.mk (Q_R11 (hon 11 (by kernel_rfl)))
            have R17 := Aside0.mk (Q_R17 (hon 17 (by kernel_rfl)))
            obtain ⟨Ao17, co17, eo_⟩ := Kd.R_slice R17.out
            subst eo_
            refine goes_ Try.func13 (by kernel_rfl) rfl #[.slice (some ⟨gLT, 0, none⟩) 256 cLT, .slice Ao17 [a1.extract 0 i].length co17] (wanted_on rfl rfl rfl (e49.trans (by first | rfl | (simp [*]; done)))) rfl rfl (by first | (simp only [List.map_toArray, List.map_cons, List.map_nil, Act.eval, Array.getD_eq_getD_getElem?, Option.getD_some, e61, e65, e49]; done) | (simp only [List.map_toArray, List.map_cons, List.map_nil, Act.eval, Array.getD_eq_getD_getElem?, Option.getD_some, e61, e65, e49]; rfl)) ?_
            with_reducible refine (sum_calls _ _ _ 256 _ _ [a1.extract 0 i] _ ?side3 ?side4 HZB.out (Or.inl rfl) ?side1 ?side2).mono ?_
            case side1 => exact (fun _ => C256 (Kd.R_reads' LT.out).2.2)
            case side2 => exact (Kd.R_reads' R17.out).2.2
            case side3 => rfl
            case side4 => simp
            rw [kVB.out]
            rintro e w18 ⟨rfl, hb⟩
            refine ⟨_, rfl, ?_⟩
            refine hK.out _ _ ⟨L5, L11, .slice Ao17 [a1.extract 0 i].length co17, L24, (by rw [ha.out]; exact putSel_upk 6 hb_ rfl rfl rfl), (below_step HB.out hb), (Kd.R_below LT.out hb), (Kd.R_below HO.out hb), fun _ => (Kd.R_below R5.out hb), fun _ => (Kd.R_below R11.out hb), fun _ => (Kd.R_below R17.out hb), fun h0_ => (Kd.R_below (Q_R24 h0_) hb)⟩
          refine steps_cons ?_ ?_
          · rintro b a w' ⟨L5, L11, L17, L24, ha, Q_HB, Q_LT, Q_HO, Q_R5, Q_R11, Q_R17, Q_R24⟩ hb_ hon hoff
            refine ⟨_, rfl, fun K hK => ?_⟩
            have e60 : a.tmps[60]? = some (.int .i64 (VA : Int)) := by rw [ha]; exact putSel_on (e := (12, 60, .int .i64 (VA : Int))) 4 rfl rfl (hon 12 (by kernel_rfl)) rfl
            have e66 : a.tmps[66]? = some (.int .i64 (VB : Int)) := by rw [ha]; exact putSel_on (e := (18, 66, .int .i64 (VB : Int))) 6 rfl rfl (hon 18 (by kernel_rfl)) rfl
            have e49 : a.tmps[49]? = some (.bool true) := by rw [ha]; exact (putSel_off rfl).trans rfl
            replace ha := Aside0.mk ha
            have HB := Aside0.mk Q_HB
            have LT := Aside0.mk Q_LT
            have HO := Aside0.mk Q_HO
            have R5 := Aside0.mk (Q_R5 (hon 5 (by kernel_rfl)))
            have R11 := Aside0.mk (Q_R11 (hon 11 (by kernel_rfl)))
            have R17 := Aside0.mk (Q_R17 (hon 17 (by kernel_rfl)))
            refine value_ (w1 := w') (v := .int .i64 (VAB : Int)) (wanted_on rfl rfl rfl (e49.trans (by first | rfl | (simp [*]; done)))) rfl ?_ ?_
            · go_simp
              (try simp only [i64_w])
              try rfl
            refine hK.out _ _ ⟨L5, L11, L17, L24, (by rw [ha.out]; exact putSel_upk 7 hb_ rfl rfl rfl), Q_HB, Q_LT, Q_HO, Q_R5, Q_R11, Q_R17, Q_R24⟩
          refine steps_cons ?_ ?_
          · rintro b a w' ⟨L5, L11, L17, L24, ha, Q_HB, Q_LT, Q_HO, Q_R5, Q_R11, Q_R17, Q_R24⟩ hb_ hon hoff
            refine ⟨_, rfl, fun K hK => ?_⟩
            have e71 : a.tmps[71]? = some (.string (a2.extract 0 i)) := by rw [ha]; exact (putSel_off rfl).trans rfl
            have e49 : a.tmps[49]? = some (.bool true) := by rw [ha]; exact (putSel_off rfl).trans rfl
            replace ha := Aside0.mk ha
            have HB := Aside0.mk Q_HB
            have LT := Aside0.mk Q_LT
            have HO := Aside0.mk Q_HO
            refine Kd.R_lit_step Kd.string _ 9 ?hg (N := 72) ?hd (xs := ([a2.extract 0 i] : List ByteArray)) (inner := [.string (a2.extract 0 i)]) (ok := fun _ => True) (okp := fun _ => True) ?hr ?hp (fun _ hk => hk) trivial (Below.refl _ _) (Nat.le_refl _) (by simp) ?_
            case hd => rfl
            case hg => exact (wanted_on rfl rfl rfl (e49.trans (by first | rfl | (simp [*]; done))))
            case hr => first | (go_simp; done) | (go_simp; rfl)
            case hp => exact (Reps.one (show Kd.M Kd.string _ _ _ (a2.extract 0 i) [.string (a2.extract 0 i)] from rfl) (Reps.none _ _))
            intro v24 w24 ho_ hb hg_ hnew_
            clear hg_ hnew_
            refine hK.out _ _ ⟨L5, L11, L17, v24, (by rw [ha.out]; exact putSel_upk 8 hb_ rfl rfl rfl), (below_step HB.out hb), (Kd.R_below LT.out hb), (Kd.R_below HO.out hb), fun h0_ => (Kd.R_below (Q_R5 h0_) hb), fun h0_ => (Kd.R_below (Q_R11 h0_) hb), fun h0_ => (Kd.R_below (Q_R17 h0_) hb), fun _ => (Kd.R_lower ho_ (below_size HB.out))⟩
          refine steps_cons ?_ ?_
          · rintro b a w' ⟨L5, L11, L17, L24, ha, Q_HB, Q_LT, Q_HO, Q_R5, Q_R11, Q_R17, Q_R24⟩ hb_ hon hoff
            refine ⟨_, rfl, fun K hK => ?_⟩
            have e68 : a.tmps[68]? = some (.slice (some ⟨gLT, 0, none⟩) 256 cLT) := by rw [ha]; exact (putSel_off rfl).trans rfl
            have e72 : a.tmps[72]? = some (L24) := by rw [ha]; exact putSel_on (e := (24, 72, L24)) 8 rfl rfl (hon 24 (by kernel_rfl)) rfl
            have e49 : a.tmps[49]? = some (.bool true) := by rw [ha]; exact (putSel_off rfl).trans rfl
            replace ha := Aside0.mk ha
            have HB := Aside0.mk Q_HB
            have LT := Aside0.mk Q_LT
            have HO := Aside0.mk Q_HO
            have R5 := Aside0.mk (Q_R5 (hon 5 (by kernel_rfl)))
            have R11 := Aside0.mk (Q_R11 (hon 11 (by kernel_rfl)))
            have R17 := Aside0.mk (Q_R17 (hon 17 (by kernel_rfl)))
            have R24 := Aside0.mk (Q_R24 (hon 24 (by kernel_rfl)))
            obtain ⟨Ao24, co24, eo_⟩ := Kd.R_slice R24.out
            subst eo_
            refine goes_ Try.func13 (by kernel_rfl) rfl #[.slice (some ⟨gLT, 0, none⟩) 256 cLT, .slice Ao24 [a2.extract 0 i].length co24] (wanted_on rfl rfl rfl (e49.trans (by first | rfl | (simp [*]; done)))) rfl rfl (by first | (simp only [List.map_toArray, List.map_cons, List.map_nil, Act.eval, Array.getD_eq_getD_getElem?, Option.getD_some, e68, e72, e49]; done) | (simp only [List.map_toArray, List.map_cons, List.map_nil, Act.eval, Array.getD_eq_getD_getElem?, Option.getD_some, e68, e72, e49]; rfl)) ?_
            with_reducible refine (sum_calls _ _ _ 256 _ _ [a2.extract 0 i] _ ?side3 ?side4 HZC.out (Or.inl rfl) ?side1 ?side2).mono ?_
            case side1 => exact (fun _ => C256 (Kd.R_reads' LT.out).2.2)
            case side2 => exact (Kd.R_reads' R24.out).2.2
            case side3 => rfl
            case side4 => simp
            rw [kVC.out]
            rintro e w25 ⟨rfl, hb⟩
            refine ⟨_, rfl, ?_⟩
            refine hK.out _ _ ⟨L5, L11, L17, .slice Ao24 [a2.extract 0 i].length co24, (by rw [ha.out]; exact putSel_upk 9 hb_ rfl rfl rfl), (below_step HB.out hb), (Kd.R_below LT.out hb), (Kd.R_below HO.out hb), fun _ => (Kd.R_below R5.out hb), fun _ => (Kd.R_below R11.out hb), fun _ => (Kd.R_below R17.out hb), fun _ => (Kd.R_below R24.out hb)⟩
          refine steps_cons ?_ ?_
          · rintro b a w' ⟨L5, L11, L17, L24, ha, Q_HB, Q_LT, Q_HO, Q_R5, Q_R11, Q_R17, Q_R24⟩ hb_ hon hoff
            refine ⟨_, rfl, fun K hK => ?_⟩
            have e67 : a.tmps[67]? = some (.int .i64 (VAB : Int)) := by rw [ha]; exact putSel_on (e := (19, 67, .int .i64 (VAB : Int))) 7 rfl rfl (hon 19 (by kernel_rfl)) rfl
            have e73 : a.tmps[73]? = some (.int .i64 (VC : Int)) := by rw [ha]; exact putSel_on (e := (25, 73, .int .i64 (VC : Int))) 9 rfl rfl (hon 25 (by kernel_rfl)) rfl
            have e49 : a.tmps[49]? = some (.bool true) := by rw [ha]; exact (putSel_off rfl).trans rfl
            replace ha := Aside0.mk ha
            have HB := Aside0.mk Q_HB
            have LT := Aside0.mk Q_LT
            have HO := Aside0.mk Q_HO
            have R5 := Aside0.mk (Q_R5 (hon 5 (by kernel_rfl)))
            have R11 := Aside0.mk (Q_R11 (hon 11 (by kernel_rfl)))
            have R17 := Aside0.mk (Q_R17 (hon 17 (by kernel_rfl)))
            have R24 := Aside0.mk (Q_R24 (hon 24 (by kernel_rfl)))
            refine value_ (w1 := w') (v := .int .i64 (VD : Int)) (wanted_on rfl rfl rfl (e49.trans (by first | rfl | (simp [*]; done)))) rfl ?_ ?_
            · go_simp
              (try simp only [i64_w])
              try rfl
            refine hK.out _ _ ⟨L5, L11, L17, L24, (by rw [ha.out]; exact putSel_upk 10 hb_ rfl rfl rfl), Q_HB, Q_LT, Q_HO, Q_R5, Q_R11, Q_R17, Q_R24⟩
          refine steps_cons ?_ ?_
          · rintro b a w' ⟨L5, L11, L17, L24, ha, Q_HB, Q_LT, Q_HO, Q_R5, Q_R11, Q_R17, Q_R24⟩ hb_ hon hoff
            refine ⟨_, rfl, fun K hK => ?_⟩
            have e54 : a.tmps[54]? = some (.int .i64 (VD : Int)) := by rw [ha]; exact putSel_on (e := (6, 54, .int .i64 (VD : Int))) 2 rfl rfl (hon 6 (by kernel_rfl)) rfl
            have e74 : a.tmps[74]? = some (.int .i64 (VD : Int)) := by rw [ha]; exact putSel_on (e := (26, 74, .int .i64 (VD : Int))) 10 rfl rfl (hon 26 (by kernel_rfl)) rfl
            have e49 : a.tmps[49]? = some (.bool true) := by rw [ha]; exact (putSel_off rfl).trans rfl
            replace ha := Aside0.mk ha
            have HB := Aside0.mk Q_HB
            have LT := Aside0.mk Q_LT
            have HO := Aside0.mk Q_HO
            have R5 := Aside0.mk (Q_R5 (hon 5 (by kernel_rfl)))
            have R11 := Aside0.mk (Q_R11 (hon 11 (by kernel_rfl)))
            have R17 := Aside0.mk (Q_R17 (hon 17 (by kernel_rfl)))
            have R24 := Aside0.mk (Q_R24 (hon 24 (by kernel_rfl)))
            refine value_ (w1 := w') (v := .bool true) (wanted_on rfl rfl rfl (e49.trans (by first | rfl | (simp [*]; done)))) rfl ?_ ?_
            · go_simp
              (try simp only [i64_w])
              try rfl
            refine hK.out _ _ ⟨L5, L11, L17, L24, (by rw [ha.out]; exact putSel_upk 11 hb_ rfl rfl rfl), Q_HB, Q_LT, Q_HO, Q_R5, Q_R11, Q_R17, Q_R24⟩
          refine steps_cons ?_ ?_
          · rintro b a w' ⟨L5, L11, L17, L24, ha, Q_HB, Q_LT, Q_HO, Q_R5, Q_R11, Q_R17, Q_R24⟩ hb_ hon hoff
            refine ⟨_, rfl, fun K hK => ?_⟩
            have e49 : a.tmps[49]? = some (.bool true) := by rw [ha]; exact (putSel_off rfl).trans rfl
            have e75 : a.tmps[75]? = some (.bool true) := by rw [ha]; exact putSel_on (e := (27, 75, .bool true)) 11 rfl rfl (hon 27 (by kernel_rfl)) rfl
            replace ha := Aside0.mk ha
            have HB := Aside0.mk Q_HB
            have LT := Aside0.mk Q_LT
            have HO := Aside0.mk Q_HO
            have R5 := Aside0.mk (Q_R5 (hon 5 (by kernel_rfl)))
            have R11 := Aside0.mk (Q_R11 (hon 11 (by kernel_rfl)))
            have R17 := Aside0.mk (Q_R17 (hon 17 (by kernel_rfl)))
            have R24 := Aside0.mk (Q_R24 (hon 24 (by kernel_rfl)))
            refine value_ (w1 := w') (v := .bool true) (by rfl) rfl ?_ ?_
            · go_simp
              (try simp only [i64_w])
              try rfl
            refine hK.out _ _ ⟨L5, L11, L17, L24, (by rw [ha.out]; exact putSel_upk 12 hb_ rfl rfl rfl), Q_HB, Q_LT, Q_HO, Q_R5, Q_R11, Q_R17, Q_R24⟩
          refine steps_cons ?_ ?_
          · rintro b a w' ⟨L5, L11, L17, L24, ha, Q_HB, Q_LT, Q_HO, Q_R5, Q_R11, Q_R17, Q_R24⟩ hb_ hon hoff
            refine ⟨_, rfl, fun K hK => ?_⟩
            have e76 : a.tmps[76]? = some (.bool true) := by rw [ha]; exact putSel_on (e := (28, 76, .bool true)) 12 rfl rfl (hon 28 (by kernel_rfl)) rfl
            replace ha := Aside0.mk ha
            have HB := Aside0.mk Q_HB
            have LT := Aside0.mk Q_LT
            have HO := Aside0.mk Q_HO
            have R5 := Aside0.mk (Q_R5 (hon 5 (by kernel_rfl)))
            have R11 := Aside0.mk (Q_R11 (hon 11 (by kernel_rfl)))
            have R17 := Aside0.mk (Q_R17 (hon 17 (by kernel_rfl)))
            have R24 := Aside0.mk (Q_R24 (hon 24 (by kernel_rfl)))
            refine value_ (w1 := w') (v := .bool true) (by rfl) rfl ?_ ?_
            · go_simp
              (try simp only [i64_w])
              try rfl
            refine hK.out _ _ ⟨L5, L11, L17, L24, (by rw [ha.out]; exact putSel_upk 13 hb_ rfl rfl rfl), Q_HB, Q_LT, Q_HO, Q_R5, Q_R11, Q_R17, Q_R24⟩
          exact steps_nil
        rintro b a w90 hall ⟨L5, L11, L17, L24, ha, Q_HB, Q_LT, Q_HO, Q_R5, Q_R11, Q_R17, Q_R24⟩
        clear HB HO LT
        have hb4_ := hall 4 (by kernel_rfl)
        have hb5_ := hall 5 (by kernel_rfl)
        have hb6_ := hall 6 (by kernel_rfl)
        have hb11_ := hall 11 (by kernel_rfl)
        have hb12_ := hall 12 (by kernel_rfl)
        have hb17_ := hall 17 (by kernel_rfl)
        have hb18_ := hall 18 (by kernel_rfl)
        have hb19_ := hall 19 (by kernel_rfl)
        have hb24_ := hall 24 (by kernel_rfl)
        have hb25_ := hall 25 (by kernel_rfl)
        have hb26_ := hall 26 (by kernel_rfl)
        have hb27_ := hall 27 (by kernel_rfl)
        have hb28_ := hall 28 (by kernel_rfl)
        have hb29_ := hall 29 (by kernel_rfl)
        subst ha
        simp only [putSel, hb4_, hb5_, hb6_, hb11_, hb12_, hb17_, hb18_, hb19_, hb24_, hb25_, hb26_, hb27_, hb28_, hb29_, if_true, Act.put, List.setIfInBounds_toArray, List.set_cons_zero, List.set_cons_succ]
        have HB := Aside0.mk Q_HB
        clear Q_HB
        have LT := Aside0.mk Q_LT
        clear Q_LT
        have HO := Aside0.mk Q_HO
        clear Q_HO
        have R5 := Aside0.mk (Q_R5 hb5_)
        clear Q_R5
        have R11 := Aside0.mk (Q_R11 hb11_)
        clear Q_R11
        have R17 := Aside0.mk (Q_R17 hb17_)
        clear Q_R17
        have R24 := Aside0.mk (Q_R24 hb24_)
        clear Q_R24
        clear hall hb4_ hb5_ hb6_ hb11_ hb12_ hb17_ hb18_ hb19_ hb24_ hb25_ hb26_ hb27_ hb28_ hb29_
        go_wp2
        go_ret
        exact ⟨rfl, by repeat (first | (with_reducible first | exact HB.out | apply below_alloc | apply pw_below_drewN | apply below_drew1) | exact HB.out)⟩

end Go.Proofs.Ytdphbfohjgmkaaa.CLinear
