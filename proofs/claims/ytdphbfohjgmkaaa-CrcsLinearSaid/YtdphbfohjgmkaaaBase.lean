/- crcs' step and Make, and the document's Byte, answer what the plain functions byteN and table say. -/
import Derived.Test.YtdphbfohjgmkaaaPCrcsSumsx0
import Derived.Test.YtdphbfohjgmkaaaMath
namespace Go.Proofs.Ytdphbfohjgmkaaa.Base
open Go.RowKit Go.Proofs.Ytdphbfohjgmkaaa.PCrcsSums Go.Proofs.YtdphbfohjgmkaaaW.PrintWords Go.Proofs.YtdphbfohjgmkaaaW.PrintLast Go.Proofs.YtdphbfohjgmkaaaW.PrintMore Go.Proofs.Ytdphbfohjgmkaaa.Math
set_option linter.unusedVariables false
set_option linter.unusedSimpArgs false

theorem and1 (a : Int) : Go.bits .and .i64 a 1 = a % 2 := by
  have e : Go.bits .and .i64 a 1 = IntKind.i64.wrap (((BitVec.ofInt 64 a).toNat &&& 1 : Nat) : Int) := rfl
  rw [e, show (1 : Nat) = 2 ^ 1 - 1 from rfl, Nat.and_two_pow_sub_one_eq_mod, IntKind.wrap_i64, BitVec.toNat_ofInt]
  omega
theorem and255 (a : Int) : Go.bits .and .i64 a 255 = a % 256 := by
  have e : Go.bits .and .i64 a 255 = IntKind.i64.wrap (((BitVec.ofInt 64 a).toNat &&& 255 : Nat) : Int) := rfl
  rw [e, show (255 : Nat) = 2 ^ 8 - 1 from rfl, Nat.and_two_pow_sub_one_eq_mod, IntKind.wrap_i64, BitVec.toNat_ofInt]
  omega
theorem and32 (a : Int) : Go.bits .and .i64 a 4294967295 = a % 4294967296 := by
  have e : Go.bits .and .i64 a 4294967295 = IntKind.i64.wrap (((BitVec.ofInt 64 a).toNat &&& 4294967295 : Nat) : Int) := rfl
  rw [e, show (4294967295 : Nat) = 2 ^ 32 - 1 from rfl, Nat.and_two_pow_sub_one_eq_mod, IntKind.wrap_i64, BitVec.toNat_ofInt]
  omega
theorem xor_cast (a b : Nat) (ha : a < 9223372036854775808) (hb : b < 9223372036854775808) : Go.bits .xor .i64 (a : Int) (b : Int) = ((a ^^^ b : Nat) : Int) := by
  have e : Go.bits .xor .i64 (a : Int) (b : Int) = IntKind.i64.wrap (((BitVec.ofInt 64 (a : Int)).toNat ^^^ (BitVec.ofInt 64 (b : Int)).toNat : Nat) : Int) := rfl
  rw [e, BitVec.ofInt_natCast, BitVec.ofInt_natCast, BitVec.toNat_ofNat, BitVec.toNat_ofNat, Nat.mod_eq_of_lt (by omega), Nat.mod_eq_of_lt (by omega), IntKind.wrap_i64]
  have h : a ^^^ b < 2 ^ 63 := Nat.xor_lt_two_pow (by omega) (by omega)
  have h2 : (2 : Nat) ^ 63 = 9223372036854775808 := by decide
  generalize a ^^^ b = x at *
  omega
theorem val_eq {k : IntKind} {a b : Int} (h : a = b) : Value.int k a = .int k b := by rw [h]
theorem ret_int {k : IntKind} {a b : Int} (h : a = b) : Ending.returned (.int k a) = .returned (.int k b) := by rw [h]
theorem wrap_succ (j : Nat) (h : j < 4611686018427387904) : Value.int .i64 (wrap64 ((j : Int) + 1)) = .int .i64 ((j + 1 : Nat) : Int) := by
  congr 1
  unfold wrap64
  omega

set_option maxHeartbeats 4000000 in
theorem step_calls (c : Nat) (hc : c < 4294967296) (w : World) : Calls Try.prog 15 #[.int .i64 (c : Int)] w fun e w' => e = .returned (.int .i64 (byteN c : Int)) ∧ w = w' := by
  obtain ⟨R, hR⟩ : ∃ R, byteN c = R := ⟨_, rfl⟩
  rw [hR]
  have HX := Aside0.mk (show steps (8 - 0) c = R from hR)
  have HC := Aside0.mk hc
  clear hR hc
  go_enter Try.func15, Try.ntmps15
  go_wp2
  go_loopg [0, 3, 4] 8 (fun g v0 v3 v4 wr => ∃ (i d : Nat), v4 = .int .i64 (i : Int) ∧ v0 = .int .i64 (d : Int) ∧ Aside0 (g = 8 - i ∧ i ≤ 8) ∧ Aside0 (d < 4294967296) ∧ Aside0 (steps (8 - i) d = R) ∧ w = wr)
  case atStart => exact ⟨0, c, rfl, rfl, ⟨by omega, by omega⟩, HC, HX, rfl⟩
  case round =>
    clear HX HC
    obtain ⟨i, d, rfl, rfl, HG, HC, HX, rfl⟩ := hrel
    by_cases hi : i < 8
    · have d0 : decide ((i : Int) < 8) = true := decide_eq_true (by omega)
      have d1 : decide (i < 8) = true := decide_eq_true hi
      have HX2 := Aside0.mk (show steps (8 - (i + 1)) (stepB d) = R by
        have h := HX.out
        rw [show 8 - i = (8 - (i + 1)) + 1 from by omega] at h
        exact h)
      by_cases ho : d % 2 = 1
      · have b0 : Go.bits .and .i64 (d : Int) 1 = 1 := by rw [and1]; omega
        have HB := Aside0.mk ho
        clear ho
        go_wp2
        go_roundg (8 - (i + 1))
        case measure => have := HG.out; omega
        case rel => exact ⟨i + 1, stepB d, val_eq (by omega), val_eq (by
          have hd := HC.out
          have e : ((d : Int) / 2) = ((d / 2 : Nat) : Int) := by omega
          unfold stepB
          rw [if_pos HB.out]
          first | (rw [e]; exact xor_cast (d / 2) 3988292384 (by omega) (by omega)) | exact xor_cast (d / 2) 3988292384 (by omega) (by omega)), ⟨rfl, by omega⟩, ⟨stepB_lt d HC.out⟩, HX2, rfl⟩
      · have b0 : Go.bits .and .i64 (d : Int) 1 = 0 := by rw [and1]; omega
        have HB := Aside0.mk ho
        clear ho
        go_wp2
        go_roundg (8 - (i + 1))
        case measure => have := HG.out; omega
        case rel => exact ⟨i + 1, stepB d, val_eq (by omega), val_eq (by
          unfold stepB
          rw [if_neg HB.out]
          omega), ⟨rfl, by omega⟩, ⟨stepB_lt d HC.out⟩, HX2, rfl⟩
    · have d0 : decide ((i : Int) < 8) = false := decide_eq_false (by omega)
      have d1 : decide (i < 8) = false := decide_eq_false hi
      go_wp2
      go_ret
      exact ⟨ret_int (by
        have h := HX.out
        have hg := HG.out
        rw [show 8 - i = 0 from by omega] at h
        have h2 : d = R := h
        rw [h2]), rfl⟩

set_option maxHeartbeats 4000000 in
theorem byte_calls (c : Nat) (hc : c < 4294967296) (w : World) : Calls Try.prog 10 #[.int .i64 (c : Int)] w fun e w' => e = .returned (.int .i64 (byteN c : Int)) ∧ w = w' := by
  obtain ⟨R, hR⟩ : ∃ R, byteN c = R := ⟨_, rfl⟩
  rw [hR]
  have HX := Aside0.mk (show steps (8 - 0) c = R from hR)
  have HC := Aside0.mk hc
  clear hR hc
  go_enter Try.func10, Try.ntmps10
  go_wp2
  go_loopg [0, 3] 8 (fun g v0 v3 wr => ∃ (i d : Nat), v3 = .int .i64 (i : Int) ∧ v0 = .int .i64 (d : Int) ∧ Aside0 (g = 8 - i ∧ i ≤ 8) ∧ Aside0 (d < 4294967296) ∧ Aside0 (steps (8 - i) d = R) ∧ w = wr)
  case atStart => exact ⟨0, c, rfl, rfl, ⟨by omega, by omega⟩, HC, HX, rfl⟩
  case round =>
    clear HX HC
    obtain ⟨i, d, rfl, rfl, HG, HC, HX, rfl⟩ := hrel
    by_cases hi : i < 8
    · have d0 : decide ((i : Int) < 8) = true := decide_eq_true (by omega)
      have d1 : decide (i < 8) = true := decide_eq_true hi
      have HX2 := Aside0.mk (show steps (8 - (i + 1)) (stepB d) = R by
        have h := HX.out
        rw [show 8 - i = (8 - (i + 1)) + 1 from by omega] at h
        exact h)
      have hq : (d : Int).tdiv 2 = ((d / 2 : Nat) : Int) := by rw [Int.tdiv_eq_ediv_of_nonneg (by omega)]; omega
      by_cases ho : d % 2 = 1
      · have b0 : ((d : Int).tmod 2 == 1) = true := beq_iff_eq.mpr (by rw [Int.tmod_eq_emod_of_nonneg (by omega)]; omega)
        have b1 : ((d : Int) % 2 == 1) = true := beq_iff_eq.mpr (by omega)
        have b2 : (d % 2 == 1) = true := beq_iff_eq.mpr ho
        have HB := Aside0.mk ho
        clear ho
        go_wp2
        go_roundg (8 - (i + 1))
        case measure => have := HG.out; omega
        case rel => exact ⟨i + 1, stepB d, val_eq (by omega), val_eq (by
          have hd := HC.out
          have hx := xor_cast (d / 2) 3988292384 (by omega) (by omega)
          have e : ((d : Int) / 2) = ((d / 2 : Nat) : Int) := by omega
          unfold stepB
          rw [if_pos HB.out]
          have hw2 : wrap64 ((d / 2 : Nat) : Int) = ((d / 2 : Nat) : Int) := by unfold wrap64; omega
          first | exact hx | (rw [e]; exact hx) | (rw [hw2]; exact hx) | (rw [e, hw2]; exact hx)), ⟨rfl, by omega⟩, ⟨stepB_lt d HC.out⟩, HX2, rfl⟩
      · have b0 : ((d : Int).tmod 2 == 1) = false := beq_eq_false_iff_ne.mpr (by rw [Int.tmod_eq_emod_of_nonneg (by omega)]; omega)
        have b1 : ((d : Int) % 2 == 1) = false := beq_eq_false_iff_ne.mpr (by omega)
        have b2 : (d % 2 == 1) = false := beq_eq_false_iff_ne.mpr ho
        have HB := Aside0.mk ho
        clear ho
        go_wp2
        go_roundg (8 - (i + 1))
        case measure => have := HG.out; omega
        case rel => exact ⟨i + 1, stepB d, val_eq (by omega), val_eq (by
          unfold stepB
          rw [if_neg HB.out]
          have hd := HC.out
          first | omega | (unfold wrap64; omega)), ⟨rfl, by omega⟩, ⟨stepB_lt d HC.out⟩, HX2, rfl⟩
    · have d0 : decide ((i : Int) < 8) = false := decide_eq_false (by omega)
      have d1 : decide (i < 8) = false := decide_eq_false hi
      go_wp2
      go_ret
      exact ⟨ret_int (by
        have h := HX.out
        have hg := HG.out
        rw [show 8 - i = 0 from by omega] at h
        have h2 : d = R := h
        rw [h2]), rfl⟩

/-- The table while it is made. -/
def tabM (m i : Nat) : List Int := (List.range m).map fun j => if j < i then (byteN j : Int) else 0
theorem tabM_len (m i : Nat) : (tabM m i).length = m := by unfold tabM; rw [List.length_map, List.length_range]
theorem tabM_get (m i n : Nat) (h : n < (tabM m i).length) : (tabM m i)[n] = if n < i then (byteN n : Int) else 0 := by
  have e : (tabM m i)[n]? = some (if n < i then (byteN n : Int) else 0) := by
    rw [tabM_len] at h
    unfold tabM
    rw [List.getElem?_map, List.getElem?_range h]
    rfl
  rw [List.getElem?_eq_getElem h] at e
  exact Option.some.inj e
theorem tabM_zero (m : Nat) : List.replicate m (0 : Int) = tabM m 0 := by
  apply List.ext_getElem
  · rw [tabM_len, List.length_replicate]
  · intro n h1 h2
    rw [tabM_get, if_neg (by omega), List.getElem_replicate]
theorem tabM_set (m i : Nat) : (tabM m i).set i (byteN i : Int) = tabM m (i + 1) := by
  apply List.ext_getElem
  · rw [List.length_set, tabM_len, tabM_len]
  · intro n h1 h2
    rw [List.getElem_set, tabM_get, tabM_get]
    by_cases h : i = n
    · subst h
      rw [if_pos rfl, if_pos (by omega)]
    · rw [if_neg h]
      by_cases h3 : n < i
      · rw [if_pos h3, if_pos (by omega)]
      · rw [if_neg h3, if_neg (by omega)]
def tabN (i : Nat) : List Int := tabM 256 i
def tableZ : List Int := (List.range 256).map fun j => (byteN j : Int)
theorem tabN_len (i : Nat) : (tabN i).length = 256 := tabM_len 256 i
theorem tabN_zero : List.replicate 256 (0 : Int) = tabN 0 := tabM_zero 256
theorem tabN_set (i : Nat) (_hi : i < 256) : (tabN i).set i (byteN i : Int) = tabN (i + 1) := tabM_set 256 i
theorem tabN_all : tabN 256 = tableZ := by
  unfold tabN tabM tableZ
  apply List.map_congr_left
  intro j hj
  rw [if_pos (List.mem_range.1 hj)]
theorem tableZ_len : tableZ.length = 256 := by unfold tableZ; rw [List.length_map, List.length_range]
theorem tableZ_at (k : Nat) (hk : k < 256) : rd tableZ (k : Int) = (byteN k : Int) := by
  unfold rd tableZ
  rw [Int.toNat_natCast, List.getD_eq_getElem?_getD, List.getElem?_map, List.getElem?_range hk]
  rfl

/-- What Make answers: a row of its own that reads as the table. -/
def GivesTable (w : World) (e : Ending) (w' : World) : Prop := ∃ g c, e = .returned (.slice (some ⟨g, 0, none⟩) 256 c) ∧ Kd.R (Kd.int .i64) 3 w' w.heap.size (fun _ => True) (.slice (some ⟨g, 0, none⟩) 256 c) tableZ ∧ Below w.heap.size w w'

set_option maxHeartbeats 8000000 in
set_option maxRecDepth 100000 in
theorem make_calls (w : World) : Calls Try.prog 9 #[] w (GivesTable w) := by
  have HB := Aside0.mk (Below.refl w.heap.size w)
  go_enter Try.func9, Try.ntmps9
  go_wp2_with ((with_reducible refine gate_dst (N := 3) rfl ?_); refine Kd.R_make (Kd.int .i64) _ 3 rfl (N := 3) rfl 24 _ _ rfl 256 rfl rfl Try.underlying24 (.int .i64 0) 8 info3 rfl (by decide) (by omega) 0 (ok := fun _ => True) (okp := fun _ => True) rfl (fun _ hk => hk) trivial (by omega) (by omega) (Below.refl _ _) (Nat.le_refl _) ?_; intro v102 w2 ho_ hb hg_ hnew_; clear hg_ hnew_; (try simp only [Int.reduceToNat] at ho_); rw [tabN_zero] at ho_; have HO := Aside0.mk (Kd.R_lower ho_ (below_size (by repeat (first | (with_reducible first | exact HB.out | apply below_alloc | apply pw_below_drewN | apply below_drew1) | exact HB.out)))); have nb_ := Aside0.mk (below_step (by repeat (first | (with_reducible first | exact HB.out | apply below_alloc | apply pw_below_drewN | apply below_drew1) | exact HB.out)) hb); clear HB; have HB := nb_; clear nb_; clear hb ho_; obtain ⟨go4, co4, eo4, _, _⟩ := Kd.R_form HO.out (by rw [tabN_len]; decide); rw [tabN_len] at eo4; subst eo4)
  go_loopg [6] 256 (fun g v6 wr => ∃ (i : Nat), v6 = .int .i64 (i : Int) ∧ Aside0 (g = 256 - i ∧ i ≤ 256) ∧ Aside0 (Kd.R (Kd.int .i64) 3 wr w.heap.size (fun _ => True) (.slice (some ⟨go4, 0, none⟩) 256 co4) (tabN i)) ∧ Aside0 (Below w.heap.size w wr))
  case atStart => exact ⟨0, rfl, ⟨by omega, by omega⟩, HO, HB⟩
  case round =>
    clear HO HB
    obtain ⟨i, rfl, HG, HO, HB⟩ := hrel
    by_cases hi : i < 256
    · have d0 : decide ((i : Int) < 256) = true := decide_eq_true (by omega)
      have d1 : decide (i < 256) = true := decide_eq_true hi
      have p1 : (0 ≤ (i : Int)) = True := eq_true (by omega)
      have p2 : ((i : Int) < 256) = True := eq_true (by omega)
      obtain ⟨hx0, hf0⟩ := Kd.R_celln 0 HO.out (i : Int) (by omega) (by omega)
      have HP := Aside0.mk (Kd.R_putg HO.out (i : Int) (byteN i : Int))
      obtain ⟨g5, c5, e5, hge, hlt, _⟩ := Kd.R_form HO.out (by rw [tabN_len]; decide)
      rw [tabN_len] at e5
      cases e5
      have GB := Aside0.mk hge
      clear hge hlt
      rw [Int.toNat_natCast] at hx0 hf0
      have HI := Aside0.mk hi
      go_wp2_with (first | (go_at_call 15; (with_reducible refine (step_calls i (by omega) _).mono ?_); rintro e w' ⟨rfl, rfl⟩) | ((with_reducible refine gate_store (t := 3) (p := 13) rfl ?_); refine store_event (t := 3) (p := 13) (v := ?vo_w11) (w1 := (wr.setCell ⟨go4, i, none⟩ (.int .i64 (byteN i : Int)))) ?hg ?ho ?hn ?hr ?_; (case ho => rfl); (case hg => rfl); (case hn => rfl); (case hr => first | (go_simp; done) | (go_simp; rfl)); intro w11 hw; have hp_ : Kd.R (Kd.int .i64) 3 w11 w.heap.size (fun _ => True) (.slice (some ⟨go4, 0, none⟩) 256 co4) (tabN (i + 1)) := (by rw [hw, ← tabN_set i HI.out]; have h := HP.out.1; rw [Int.toNat_natCast] at h; exact h); have n0_ := Aside0.mk hp_; have n1_ := Aside0.mk ((by rw [hw]; exact below_set HB.out GB.out : Below w.heap.size w w11)); clear HO; clear HB; have HO := n0_; have HB := n1_; clear n0_ n1_; clear hw hp_))
      go_roundg (256 - (i + 1))
      case measure => have := HG.out; omega
      case rel => exact ⟨i + 1, val_eq (by omega), ⟨rfl, by omega⟩, HO, HB⟩
    · have d0 : decide ((i : Int) < 256) = false := decide_eq_false (by omega)
      have d1 : decide (i < 256) = false := decide_eq_false hi
      have hi2 : i = 256 := by have := HG.out; omega
      subst hi2
      go_wp2
      go_ret
      exact ⟨go4, co4, rfl, by rw [← tabN_all]; exact HO.out, HB.out⟩

end Go.Proofs.Ytdphbfohjgmkaaa.Base
