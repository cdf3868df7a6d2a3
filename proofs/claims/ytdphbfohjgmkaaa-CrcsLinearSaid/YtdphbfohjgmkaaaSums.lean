/- crcs' More and Sum, and the document's, answer what the plain functions run and sumN say. -/
import Derived.Test.YtdphbfohjgmkaaaBase
namespace Go.Proofs.Ytdphbfohjgmkaaa.Sums
open Go.RowKit Go.Proofs.Ytdphbfohjgmkaaa.PCrcsSums Go.Proofs.YtdphbfohjgmkaaaW.PrintWords Go.Proofs.YtdphbfohjgmkaaaW.PrintLast Go.Proofs.YtdphbfohjgmkaaaW.PrintMore Go.Proofs.Ytdphbfohjgmkaaa.Math Go.Proofs.Ytdphbfohjgmkaaa.Base
set_option linter.unusedVariables false
set_option linter.unusedSimpArgs false

theorem C256 {w : World} {A : Option Addr} (h : Kd.C (Kd.int .i64) w A tableZ.length tableZ) : Kd.C (Kd.int .i64) w A 256 tableZ := by
  rw [tableZ_len] at h
  exact h
/-- A number's lowest 32 bits. -/
def low (c : Int) : Nat := (c % 4294967296).toNat
theorem low_lt (c : Int) : low c < 4294967296 := by unfold low; omega
theorem low_cast (c : Int) : c % 4294967296 = (low c : Int) := by unfold low; omega

set_option maxHeartbeats 8000000 in
set_option maxRecDepth 100000 in
theorem refmore_calls (c : Int) (s : ByteArray) (w : World) (hs : s.size ≤ 140737488355328) : Calls Try.prog 11 #[.int .i64 c, .string s] w fun e w' => e = .returned (.int .i64 (run (low c) s.data.toList : Int)) ∧ w = w' := by
  obtain ⟨R, hR⟩ : ∃ R, run (low c) s.data.toList = R := ⟨_, rfl⟩
  rw [hR]
  have HX := Aside0.mk (show run (low c) (s.data.toList.drop 0) = R from hR)
  have HC := Aside0.mk (low_lt c)
  have hlow : Go.bits .and .i64 c 4294967295 = (low c : Int) := by rw [and32, low_cast]
  have HS := Aside0.mk hs
  clear hR hs
  go_enter Try.func11, Try.ntmps11
  go_wp2
  go_loopg [0, 5] s.size (fun g v0 v5 wr => ∃ (i d : Nat), v5 = .int .i64 (i : Int) ∧ v0 = .int .i64 (d : Int) ∧ Aside0 (g = s.size - i ∧ i ≤ s.size) ∧ Aside0 (d < 4294967296) ∧ Aside0 (run d (s.data.toList.drop i) = R) ∧ w = wr)
  case atStart => exact ⟨0, low c, rfl, rfl, ⟨by omega, by omega⟩, HC, HX, rfl⟩
  case round =>
    clear HX HC
    obtain ⟨i, d, rfl, rfl, HG, HC, HX, rfl⟩ := hrel
    by_cases hi : i < s.size
    · have d0 : decide ((i : Int) < (s.size : Int)) = true := decide_eq_true (by omega)
      have d1 : decide (i < s.size) = true := decide_eq_true hi
      have p1 : (0 ≤ (i : Int)) = True := eq_true (by omega)
      have p2 : ((i : Int) < (s.size : Int)) = True := eq_true (by omega)
      have hll : i < s.data.toList.length := by simpa using hi
      obtain ⟨x, hx⟩ : ∃ x : Nat, (s.data.toList[i]'hll).toNat = x := ⟨_, rfl⟩
      have hxl : x < 256 := by rw [← hx]; exact UInt8.toNat_lt _
      have hsx : ∀ h : i < s.size, ((s[i]'h).toNat : Int) = (x : Int) := fun h => by rw [← hx]; rfl
      have hsn : ∀ h : i < s.size, (s[i]'h).toNat = x := fun h => by rw [← hx]; rfl
      have hxw : wrap64 (x : Int) = (x : Int) := by unfold wrap64; omega
      have hd := HC.out
      have HX2 := Aside0.mk (show run (next d x) (s.data.toList.drop (i + 1)) = R by
        have h := HX.out
        rw [List.drop_eq_getElem_cons hll, run_cons, hx] at h
        exact h)
      have hxor := xor_cast d x (by omega) (by omega)
      obtain ⟨k, hk⟩ : ∃ k, (d ^^^ x) % 256 = k := ⟨_, rfl⟩
      have hkl : k < 256 := by omega
      have hand : Go.bits .and .i64 ((d ^^^ x : Nat) : Int) 255 = (k : Int) := by rw [and255]; omega
      have hnext : Go.bits .xor .i64 ((byteN k : Nat) : Int) ((d : Int) / 256) = ((next d x : Nat) : Int) := by
        have h1 := xor_cast (byteN k) (d / 256) (by have := byteN_lt k (by omega); omega) (by omega)
        have e : ((d : Int) / 256) = ((d / 256 : Nat) : Int) := by omega
        rw [e, h1]
        unfold next
        rw [hk]
      have HN := Aside0.mk (next_lt d x hd)
      clear hk hx hd
      go_wp2_with (go_at_call 10; (with_reducible refine (byte_calls k (by omega) _).mono ?_); rintro e w' ⟨rfl, rfl⟩)
      go_roundg (s.size - (i + 1))
      case measure => have := HG.out; omega
      case rel => exact ⟨i + 1, next d x, wrap_succ i (by have := HS.out; omega), rfl, ⟨rfl, by omega⟩, HN, HX2, rfl⟩
    · have d0 : decide ((i : Int) < (s.size : Int)) = false := decide_eq_false (by omega)
      have d1 : decide (i < s.size) = false := decide_eq_false hi
      have HE := Aside0.mk (show d = R by
        have h := HX.out
        rw [List.drop_eq_nil_of_le (by simp; omega)] at h
        exact h)
      go_wp2
      go_ret
      exact ⟨ret_int (congrArg (fun n : Nat => (n : Int)) HE.out), rfl⟩

set_option maxHeartbeats 8000000 in
set_option maxRecDepth 100000 in
theorem more_table (A : Option Addr) (cp : Nat) (c : Int) (s : ByteArray) (w : World) (hs : s.size ≤ 140737488355328) (ht : Kd.C (Kd.int .i64) w A 256 tableZ) :
    Calls Try.prog 12 #[.slice A 256 cp, .int .i64 c, .string s] w fun e w' => e = .returned (.int .i64 (run (low c) s.data.toList : Int)) ∧ w = w' := by
  obtain ⟨R, hR⟩ : ∃ R, run (low c) s.data.toList = R := ⟨_, rfl⟩
  rw [hR]
  have HX := Aside0.mk (show run (low c) (s.data.toList.drop 0) = R from hR)
  have HC := Aside0.mk (low_lt c)
  have hlow : Go.bits .and .i64 c 4294967295 = (low c : Int) := by rw [and32, low_cast]
  have HS := Aside0.mk hs
  have HT := Aside0.mk (Kd.reads_of_C (enc := Value.int .i64) (d := (0 : Int)) (h1 := fun _ => rfl) ht)
  clear hR hs ht
  go_enter Try.func12, Try.ntmps12
  go_wp2
  go_loopg [1, 16] s.size (fun g v1 v16 wr => ∃ (i d : Nat), v16 = .int .i64 (i : Int) ∧ v1 = .int .i64 (d : Int) ∧ Aside0 (g = s.size - i ∧ i ≤ s.size) ∧ Aside0 (d < 4294967296) ∧ Aside0 (run d (s.data.toList.drop i) = R) ∧ w = wr)
  case atStart => exact ⟨0, low c, rfl, rfl, ⟨by omega, by omega⟩, HC, HX, rfl⟩
  case round =>
    clear HX HC
    obtain ⟨i, d, rfl, rfl, HG, HC, HX, rfl⟩ := hrel
    by_cases hi : i < s.size
    · have d0 : decide ((i : Int) < (s.size : Int)) = true := decide_eq_true (by omega)
      have d1 : decide (i < s.size) = true := decide_eq_true hi
      have p1 : (0 ≤ (i : Int)) = True := eq_true (by omega)
      have p2 : ((i : Int) < (s.size : Int)) = True := eq_true (by omega)
      have hll : i < s.data.toList.length := by simpa using hi
      obtain ⟨x, hx⟩ : ∃ x : Nat, (s.data.toList[i]'hll).toNat = x := ⟨_, rfl⟩
      have hxl : x < 256 := by rw [← hx]; exact UInt8.toNat_lt _
      have hsx : ∀ h : i < s.size, ((s[i]'h).toNat : Int) = (x : Int) := fun h => by rw [← hx]; rfl
      have hsn : ∀ h : i < s.size, (s[i]'h).toNat = x := fun h => by rw [← hx]; rfl
      have hxw : wrap64 (x : Int) = (x : Int) := by unfold wrap64; omega
      have hd := HC.out
      have HX2 := Aside0.mk (show run (next d x) (s.data.toList.drop (i + 1)) = R by
        have h := HX.out
        rw [List.drop_eq_getElem_cons hll, run_cons, hx] at h
        exact h)
      have hxor := xor_cast d x (by omega) (by omega)
      obtain ⟨k, hk⟩ : ∃ k, (d ^^^ x) % 256 = k := ⟨_, rfl⟩
      have hkl : k < 256 := by omega
      have hand : Go.bits .and .i64 ((d ^^^ x : Nat) : Int) 255 = (k : Int) := by rw [and255]; omega
      have q1 : (0 ≤ (k : Int)) = True := eq_true (by omega)
      have q2 : ((k : Int) < 256) = True := eq_true (by omega)
      have q3 : (k < 256) = True := eq_true (by omega)
      obtain ⟨ad, ead, hcell⟩ := ReadsInt.at_ HT.out (k : Int) (by omega) (by omega)
      cases ead
      rw [tableZ_at k hkl, Int.toNat_natCast] at hcell
      have hnext : Go.bits .xor .i64 ((byteN k : Nat) : Int) ((d : Int) / 256) = ((next d x : Nat) : Int) := by
        have h1 := xor_cast (byteN k) (d / 256) (by have := byteN_lt k (by omega); omega) (by omega)
        have e : ((d : Int) / 256) = ((d / 256 : Nat) : Int) := by omega
        rw [e, h1]
        unfold next
        rw [hk]
      have HN := Aside0.mk (next_lt d x hd)
      clear hk hx hd
      go_wp2
      go_roundg (s.size - (i + 1))
      case measure => have := HG.out; omega
      case rel => exact ⟨i + 1, next d x, wrap_succ i (by have := HS.out; omega), rfl, ⟨rfl, by omega⟩, HN, HX2, rfl⟩
    · have d0 : decide ((i : Int) < (s.size : Int)) = false := decide_eq_false (by omega)
      have d1 : decide (i < s.size) = false := decide_eq_false hi
      have HE := Aside0.mk (show d = R by
        have h := HX.out
        rw [List.drop_eq_nil_of_le (by simp; omega)] at h
        exact h)
      go_wp2
      go_ret
      exact ⟨ret_int (congrArg (fun n : Nat => (n : Int)) HE.out), rfl⟩

set_option maxHeartbeats 8000000 in
set_option maxRecDepth 100000 in
theorem more_none (A : Option Addr) (cp n : Nat) (c : Int) (s : ByteArray) (w : World) (hs : s.size ≤ 140737488355328) (hn : n ≠ 256) (hn2 : n ≤ 100) :
    Calls Try.prog 12 #[.slice A n cp, .int .i64 c, .string s] w fun e w' => e = .returned (.int .i64 (run (low c) s.data.toList : Int)) ∧ Below w.heap.size w w' := by
  obtain ⟨R, hR⟩ : ∃ R, run (low c) s.data.toList = R := ⟨_, rfl⟩
  rw [hR]
  have HX := Aside0.mk (show run (low c) (s.data.toList.drop 0) = R from hR)
  have HC := Aside0.mk (low_lt c)
  have hlow : Go.bits .and .i64 c 4294967295 = (low c : Int) := by rw [and32, low_cast]
  have HS := Aside0.mk hs
  have b0 : ((n : Int) == 256) = false := beq_eq_false_iff_ne.mpr (by omega)
  have b1 : ((n : Int) != 256) = true := bne_iff_ne.mpr (by omega)
  have b2 : (n == 256) = false := beq_eq_false_iff_ne.mpr hn
  have b3 : (n = 256) = False := eq_false hn
  have HB := Aside0.mk (Below.refl w.heap.size w)
  clear hR hs hn hn2
  go_enter Try.func12, Try.ntmps12
  go_wp2_with (go_at_call 9; (with_reducible refine (make_calls _).mono ?_); rintro e w1 ⟨g1, c1, rfl, ho_, hb_⟩; have HT := Aside0.mk (Kd.reads_of_C (enc := Value.int .i64) (d := (0 : Int)) (h1 := fun _ => rfl) (C256 (Kd.R_reads' ho_).2.2)); have nb_ := Aside0.mk (below_step (by repeat (first | (with_reducible first | exact HB.out | apply below_alloc | apply pw_below_drewN | apply below_drew1) | exact HB.out)) hb_); clear HB; have HB := nb_; clear nb_ ho_ hb_)
  go_loopg [1, 16] s.size (fun g v1 v16 wr => ∃ (i d : Nat), v16 = .int .i64 (i : Int) ∧ v1 = .int .i64 (d : Int) ∧ Aside0 (g = s.size - i ∧ i ≤ s.size) ∧ Aside0 (d < 4294967296) ∧ Aside0 (run d (s.data.toList.drop i) = R) ∧ w1 = wr)
  case atStart => exact ⟨0, low c, rfl, rfl, ⟨by omega, by omega⟩, HC, HX, rfl⟩
  case round =>
    clear HX HC
    obtain ⟨i, d, rfl, rfl, HG, HC, HX, rfl⟩ := hrel
    by_cases hi : i < s.size
    · have d0 : decide ((i : Int) < (s.size : Int)) = true := decide_eq_true (by omega)
      have d1 : decide (i < s.size) = true := decide_eq_true hi
      have p1 : (0 ≤ (i : Int)) = True := eq_true (by omega)
      have p2 : ((i : Int) < (s.size : Int)) = True := eq_true (by omega)
      have hll : i < s.data.toList.length := by simpa using hi
      obtain ⟨x, hx⟩ : ∃ x : Nat, (s.data.toList[i]'hll).toNat = x := ⟨_, rfl⟩
      have hxl : x < 256 := by rw [← hx]; exact UInt8.toNat_lt _
      have hsx : ∀ h : i < s.size, ((s[i]'h).toNat : Int) = (x : Int) := fun h => by rw [← hx]; rfl
      have hsn : ∀ h : i < s.size, (s[i]'h).toNat = x := fun h => by rw [← hx]; rfl
      have hxw : wrap64 (x : Int) = (x : Int) := by unfold wrap64; omega
      have hd := HC.out
      have HX2 := Aside0.mk (show run (next d x) (s.data.toList.drop (i + 1)) = R by
        have h := HX.out
        rw [List.drop_eq_getElem_cons hll, run_cons, hx] at h
        exact h)
      have hxor := xor_cast d x (by omega) (by omega)
      obtain ⟨k, hk⟩ : ∃ k, (d ^^^ x) % 256 = k := ⟨_, rfl⟩
      have hkl : k < 256 := by omega
      have hand : Go.bits .and .i64 ((d ^^^ x : Nat) : Int) 255 = (k : Int) := by rw [and255]; omega
      have q1 : (0 ≤ (k : Int)) = True := eq_true (by omega)
      have q2 : ((k : Int) < 256) = True := eq_true (by omega)
      have q3 : (k < 256) = True := eq_true (by omega)
      obtain ⟨ad, ead, hcell⟩ := ReadsInt.at_ HT.out (k : Int) (by omega) (by omega)
      cases ead
      rw [tableZ_at k hkl, Int.toNat_natCast, Addr.add_lit, Nat.zero_add] at hcell
      have hnext : Go.bits .xor .i64 ((byteN k : Nat) : Int) ((d : Int) / 256) = ((next d x : Nat) : Int) := by
        have h1 := xor_cast (byteN k) (d / 256) (by have := byteN_lt k (by omega); omega) (by omega)
        have e : ((d : Int) / 256) = ((d / 256 : Nat) : Int) := by omega
        rw [e, h1]
        unfold next
        rw [hk]
      have HN := Aside0.mk (next_lt d x hd)
      clear hk hx hd
      go_wp2
      go_roundg (s.size - (i + 1))
      case measure => have := HG.out; omega
      case rel => exact ⟨i + 1, next d x, wrap_succ i (by have := HS.out; omega), rfl, ⟨rfl, by omega⟩, HN, HX2, rfl⟩
    · have d0 : decide ((i : Int) < (s.size : Int)) = false := decide_eq_false (by omega)
      have d1 : decide (i < s.size) = false := decide_eq_false hi
      have HE := Aside0.mk (show d = R by
        have h := HX.out
        rw [List.drop_eq_nil_of_le (by simp; omega)] at h
        exact h)
      go_wp2
      go_ret
      exact ⟨ret_int (congrArg (fun n : Nat => (n : Int)) HE.out), HB.out⟩

/-- More at a table or at what is none. -/
theorem more_any (A : Option Addr) (cp n : Nat) (c : Int) (s : ByteArray) (w : World) (hs : s.size ≤ 140737488355328) (hn : n = 256 ∨ n ≤ 100) (ht : n = 256 → Kd.C (Kd.int .i64) w A 256 tableZ) :
    Calls Try.prog 12 #[.slice A n cp, .int .i64 c, .string s] w fun e w' => e = .returned (.int .i64 (run (low c) s.data.toList : Int)) ∧ Below w.heap.size w w' := by
  by_cases h : n = 256
  · subst h
    refine (more_table A cp c s w hs (ht rfl)).mono ?_
    rintro e w' ⟨h1, rfl⟩
    exact ⟨h1, Below.refl _ _⟩
  · exact more_none A cp n c s w hs h (by omega)

/-- The state behind all parts. -/
def sumS (c : Nat) (ls : List ByteArray) : Nat := ls.foldl (fun c s => run c s.data.toList) c
def sumN (ls : List ByteArray) : Nat := sumS 4294967295 ls ^^^ 4294967295
theorem sumS_lt (ls : List ByteArray) (c : Nat) (h : c < 4294967296) : sumS c ls < 4294967296 := by
  induction ls generalizing c with
  | nil => exact h
  | cons s ls ih => exact ih _ (run_lt c _ h)
theorem low_of (d : Nat) (h : d < 4294967296) : low (d : Int) = d := by unfold low; omega

set_option maxHeartbeats 8000000 in
set_option maxRecDepth 100000 in
theorem sum_calls (A B : Option Addr) (cp n cq m : Nat) (ls : List ByteArray) (w : World) (hm : m = ls.length) (hl : ls.length ≤ 1000) (hs : ∀ s ∈ ls, s.size ≤ 140737488355328) (hn : n = 256 ∨ n ≤ 100) (ht : n = 256 → Kd.C (Kd.int .i64) w A 256 tableZ) (hr : Kd.C Kd.string w B ls.length ls) :
    Calls Try.prog 13 #[.slice A n cp, .slice B m cq] w fun e w' => e = .returned (.int .i64 (sumN ls : Int)) ∧ Below w.heap.size w w' := by
  subst hm
  obtain ⟨R, hR⟩ : ∃ R, sumN ls = R := ⟨_, rfl⟩
  rw [hR]
  have HX := Aside0.mk (show sumS 4294967295 (ls.drop 0) ^^^ 4294967295 = R from hR)
  have HC := Aside0.mk (show 4294967295 < 4294967296 by decide)
  have HL := Aside0.mk hl
  have HS := Aside0.mk hs
  have HN := Aside0.mk hn
  have HT := Aside0.mk ht
  have HR := Aside0.mk hr
  have HB := Aside0.mk (Below.refl w.heap.size w)
  clear hR hl hs hn ht hr
  go_enter Try.func13, Try.ntmps13
  go_wp2
  go_loopg [5, 10] ls.length (fun g v5 v10 wr => ∃ (i d : Nat), v10 = .int .i64 (i : Int) ∧ v5 = .int .i64 (d : Int) ∧ Aside0 (g = ls.length - i ∧ i ≤ ls.length) ∧ Aside0 (d < 4294967296) ∧ Aside0 (sumS d (ls.drop i) ^^^ 4294967295 = R) ∧ Aside0 (Below w.heap.size w wr))
  case atStart => exact ⟨0, 4294967295, rfl, rfl, ⟨by omega, by omega⟩, HC, HX, HB⟩
  case round =>
    clear HX HC HB
    obtain ⟨i, d, rfl, rfl, HG, HC, HX, HB⟩ := hrel
    by_cases hi : i < ls.length
    · have d0 : decide ((i : Int) < (ls.length : Int)) = true := decide_eq_true (by omega)
      have d1 : decide (i < ls.length) = true := decide_eq_true hi
      have p1 : (0 ≤ (i : Int)) = True := eq_true (by omega)
      have p2 : ((i : Int) < (ls.length : Int)) = True := eq_true (by omega)
      obtain ⟨s, hs⟩ : ∃ s, ls[i] = s := ⟨_, rfl⟩
      obtain ⟨ad, ead, hx0⟩ := Kd.at_string HR.out (i : Int) (by omega) (by omega)
      cases ead
      have hrd : rdOf ByteArray.empty ls (i : Int) = s := by
        unfold rdOf
        rw [Int.toNat_natCast, List.getD_eq_getElem?_getD, List.getElem?_eq_getElem hi, ← hs]
        rfl
      rw [hrd, Int.toNat_natCast] at hx0
      replace hx0 := (HB.out.cell (World.block_lt_of_cell? w _ hx0)).trans hx0
      have HM := Aside0.mk (show s.size ≤ 140737488355328 by rw [← hs]; exact HS.out _ (List.getElem_mem hi))
      have HX2 := Aside0.mk (show sumS (run (low (d : Int)) s.data.toList) (ls.drop (i + 1)) ^^^ 4294967295 = R by
        have h := HX.out
        rw [List.drop_eq_getElem_cons hi, hs] at h
        rw [low_of d HC.out]
        exact h)
      have HN2 := Aside0.mk (run_lt (low (d : Int)) s.data.toList (low_lt _))
      clear hrd hs
      go_wp2_with (go_at_call 12; (with_reducible refine (more_any A cp n (d : Int) s _ HM.out HN.out ?side1).mono ?_); (case side1 => intro h; exact Kd.C_below (HT.out h) (by repeat (first | (with_reducible first | exact HB.out | apply below_alloc | apply pw_below_drewN | apply below_drew1) | exact HB.out))); rintro e w2 ⟨rfl, hb⟩; have nb_ := Aside0.mk (below_step (by repeat (first | (with_reducible first | exact HB.out | apply below_alloc | apply pw_below_drewN | apply below_drew1) | exact HB.out)) hb); clear HB; have HB := nb_; clear nb_ hb)
      go_roundg (ls.length - (i + 1))
      case measure => have := HG.out; omega
      case rel => exact ⟨i + 1, run (low (d : Int)) s.data.toList, wrap_succ i (by have := HL.out; omega), rfl, ⟨rfl, by omega⟩, HN2, HX2, HB⟩
    · have d0 : decide ((i : Int) < (ls.length : Int)) = false := decide_eq_false (by omega)
      have d1 : decide (i < ls.length) = false := decide_eq_false hi
      have hx := HX.out
      rw [List.drop_eq_nil_of_le (by omega)] at hx
      have hxor := xor_cast d 4294967295 (by have := HC.out; omega) (by decide)
      have hxor2 : Go.bits .xor .i64 (d : Int) 4294967295 = (R : Int) := by rw [← hx]; exact hxor
      clear hx hxor
      go_wp2
      go_ret
      exact ⟨rfl, HB.out⟩

theorem refsum_calls (s : ByteArray) (w : World) (hs : s.size ≤ 140737488355328) : Calls Try.prog 14 #[.string s] w fun e w' => e = .returned (.int .i64 (sumN [s] : Int)) ∧ w = w' := by
  have hl : low 4294967295 = 4294967295 := by decide
  have hr : run (low 4294967295) s.data.toList = sumS 4294967295 [s] := by rw [hl]; rfl
  have hxor : Go.bits .xor .i64 (sumS 4294967295 [s] : Int) 4294967295 = ((sumN [s] : Nat) : Int) := xor_cast (sumS 4294967295 [s]) 4294967295 (by have := sumS_lt [s] 4294967295 (by decide); omega) (by decide)
  have HS := Aside0.mk hs
  have HR := Aside0.mk hr
  clear hs hr hl
  go_enter Try.func14, Try.ntmps14
  go_wp2_with (go_at_call 11; (with_reducible refine (refmore_calls 4294967295 s _ HS.out).mono ?_); rintro e w' ⟨rfl, rfl⟩; rw [HR.out])
  go_ret
  exact ⟨rfl, rfl⟩

end Go.Proofs.Ytdphbfohjgmkaaa.Sums
