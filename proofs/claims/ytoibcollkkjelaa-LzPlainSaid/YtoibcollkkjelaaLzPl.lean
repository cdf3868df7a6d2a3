/- LzPlain holds: plain tokens are the bytes, one by one, and make the text. -/
import Derived.Test.YtoibcollkkjelaaKnown
namespace Go.Proofs.Ytoibcollkkjelaa.LzPl
open Go.RowKit Go.Proofs.Ytoibcollkkjelaa.PLzGlue Go.Proofs.YtoibcollkkjelaaW.PrintWords Go.Proofs.YtoibcollkkjelaaW.PrintLast Go.Proofs.YtoibcollkkjelaaW.PrintMore Go.Proofs.Ytoibcollkkjelaa.Outs Go.Proofs.Ytoibcollkkjelaa.Spec
set_option linter.unusedVariables false
set_option linter.unusedSimpArgs false

def pl12.T : Bool × List (List Nat × List Nat) := (true, [([], []), ([], []), ([0, 1], [0, 1]), ([2], [2]), ([], []), ([], []), ([4, 5], [4, 5]), ([6], [6]), ([7], [7]), ([3, 8], [3, 8])])
def pl12.B : List Nat := [0, 0, 3, 7, 0, 0, 48, 112, 240, 511]
theorem pl12.tab : rtab .any (opsOf Try.f4 12) = pl12.T := by kernel_rfl
theorem pl12.bits : waitsOk pl12.T.2 pl12.B = true := by kernel_rfl


theorem run_plain (fr : Nat) (xs : List Int) (hx : ∀ x ∈ xs, 0 ≤ x ∧ x ≤ 255) : ∀ o : List Int, runL fr (Plain.plain xs) o = (strOfNums ((o ++ xs).drop fr), 0) := by
  induction xs with
  | nil =>
    intro o
    rw [List.append_nil]
    rfl
  | cons x xs ih =>
    intro o
    have hv : validB ⟨x, 0, 0⟩ = true := by
      have := hx x (by simp)
      unfold validB
      simp
      omega
    have h := ih (fun y hy => hx y (by simp [hy])) (o ++ [x % 256])
    have hm : x % 256 = x := by have := hx x (by simp); omega
    show (if validB ⟨x, 0, 0⟩ = true then (if (0 : Int) = 0 then runL fr (Plain.plain xs) (o ++ [x % 256]) else _) else _) = _
    rw [if_pos hv, if_pos rfl, h, hm, List.append_assoc]
    rfl
theorem bytes_range (s : ByteArray) : ∀ x ∈ bytesOf s, 0 ≤ x ∧ x ≤ 255 := by
  intro x hx
  unfold bytesOf at hx
  obtain ⟨c, _, rfl⟩ := List.mem_map.1 hx
  have := c.toNat_lt
  omega
theorem str_bytes (s : ByteArray) : strOfNums (bytesOf s) = s := by
  unfold strOfNums bytesOf
  rw [List.map_map]
  have e : ((fun n : Int => UInt8.ofNat n.toNat) ∘ fun b : UInt8 => (b.toNat : Int)) = id := by
    funext b
    simp
  rw [e, List.map_id]
theorem ex_plain (w s : ByteArray) : ex w (Plain.plain (bytesOf s)) = (s, 0) := by
  unfold ex
  rw [run_plain _ _ (bytes_range s)]
  have e : (bytesOf (tail w) ++ bytesOf s).drop (tail w).size = bytesOf s := by
    rw [← bytesOf_length (tail w), List.drop_left]
  rw [e, str_bytes]

set_option maxHeartbeats 8000000 in
set_option maxRecDepth 100000 in
theorem walk (a0 a1 : ByteArray) (w : World) (hs0 : a0.size ≤ 140737488351232) :
    Calls Try.prog 4 #[.string a0, .string a1] w fun e w' => e = .returned (.bool true) ∧ Below w.heap.size w w' := by
  have hu30 := Try.underlying30
  have HB := Aside0.mk (Below.refl w.heap.size w)
  have HS := Aside0.mk (show a0.size ≤ 140737488355328 by omega)
  clear hs0
  by_cases c2 : 100000 < a0.size
  · have b0 : decide (100000 < (a0.size : Int)) = true := decide_eq_true (by omega)
    have b1 : decide (100000 < a0.size) = true := decide_eq_true c2
    clear c2
    go_enter Try.func4, Try.ntmps4
    go_wp2_with (first | ((with_reducible refine gate_callee (f := 10) rfl ?_); refine goesL_ (some 10) rfl rfl Try.func10 (by kernel_rfl) rfl #[] rfl (by (try simp only [List.map_toArray, List.map_cons, List.map_nil]); first | done | rfl) ?_; (with_reducible refine (Works.works_calls _).mono ?_); rintro e w1 ⟨rfl, hb⟩; refine ⟨_, rfl, ?_⟩; have nb_ := Aside0.mk (below_step (by repeat (first | (with_reducible first | exact HB.out | apply below_alloc | apply pw_below_drewN | apply below_drew1) | exact HB.out)) hb); clear HB; have HB := nb_; clear nb_; clear hb))
    go_ret
    exact ⟨rfl, by repeat (first | (with_reducible first | exact HB.out | apply below_alloc | apply pw_below_drewN | apply below_drew1) | exact HB.out)⟩
  · have b0 : decide (100000 < (a0.size : Int)) = false := decide_eq_false (by omega)
    have b1 : decide (100000 < a0.size) = false := decide_eq_false c2
    clear c2
    by_cases c3 : 2000 < a1.size
    · have b2 : decide (2000 < (a1.size : Int)) = true := decide_eq_true (by omega)
      have b3 : decide (2000 < a1.size) = true := decide_eq_true c3
      clear c3
      go_enter Try.func4, Try.ntmps4
      go_wp2_with (first | ((with_reducible refine gate_callee (f := 10) rfl ?_); refine goesL_ (some 10) rfl rfl Try.func10 (by kernel_rfl) rfl #[] rfl (by (try simp only [List.map_toArray, List.map_cons, List.map_nil]); first | done | rfl) ?_; (with_reducible refine (Works.works_calls _).mono ?_); rintro e w1 ⟨rfl, hb⟩; refine ⟨_, rfl, ?_⟩; have nb_ := Aside0.mk (below_step (by repeat (first | (with_reducible first | exact HB.out | apply below_alloc | apply pw_below_drewN | apply below_drew1) | exact HB.out)) hb); clear HB; have HB := nb_; clear nb_; clear hb))
      go_ret
      exact ⟨rfl, by repeat (first | (with_reducible first | exact HB.out | apply below_alloc | apply pw_below_drewN | apply below_drew1) | exact HB.out)⟩
    · have b2 : decide (2000 < (a1.size : Int)) = false := decide_eq_false (by omega)
      have b3 : decide (2000 < a1.size) = false := decide_eq_false c3
      have HS1 := Aside0.mk (show a1.size ≤ 1000000 by omega)
      obtain ⟨ts, hts⟩ : ∃ ts, Plain.plain (bytesOf a1) = ts := ⟨_, rfl⟩
      have hlen : ts.length = a1.size := by rw [← hts]; unfold Plain.plain; rw [List.length_map, bytesOf_length]
      have HE1 := Aside0.mk hts
      have HT := Aside0.mk hlen
      have b4 : ((ts.length : Int) == (a1.size : Int)) = true := beq_iff_eq.mpr (by rw [hlen])
      have b5 : ((ts.length : Int) != (a1.size : Int)) = false := bne_eq_false_iff_eq.mpr (by rw [hlen])
      have b6 : (ts.length == a1.size) = true := beq_iff_eq.mpr hlen
      have HL := Aside0.mk (show ts.length ≤ 1000000 by omega)
      have HX := Aside0.mk (show ex a0 ts = (a1, 0) by rw [← hts]; exact ex_plain a0 a1)
      clear c3 hts hlen
      go_enter Try.func4, Try.ntmps4
      go_wp2_with (first | ((with_reducible refine gate_callee (f := 10) rfl ?_); refine goesL_ (some 10) rfl rfl Try.func10 (by kernel_rfl) rfl #[] rfl (by (try simp only [List.map_toArray, List.map_cons, List.map_nil]); first | done | rfl) ?_; (with_reducible refine (Works.works_calls _).mono ?_); rintro e w1 ⟨rfl, hb⟩; refine ⟨_, rfl, ?_⟩; have nb_ := Aside0.mk (below_step (by repeat (first | (with_reducible first | exact HB.out | apply below_alloc | apply pw_below_drewN | apply below_drew1) | exact HB.out)) hb); clear HB; have HB := nb_; clear nb_; clear hb) | (go_at_call 18; (with_reducible refine (Plain.plain_calls a1 _ HS1.out).mono ?_); rintro e w40 ⟨AP, cP, rfl, ho_, hb⟩; rw [HE1.out] at ho_ ⊢; have m_ := Aside0.mk (Kd.R_lower ho_ (below_size (by repeat (first | (with_reducible first | exact HB.out | apply below_alloc | apply pw_below_drewN | apply below_drew1) | exact HB.out)))); clear ho_; have nb_ := Aside0.mk (below_step (by repeat (first | (with_reducible first | exact HB.out | apply below_alloc | apply pw_below_drewN | apply below_drew1) | exact HB.out)) hb); clear HB; have HB := nb_; clear nb_; clear hb; have LP := m_; clear m_))
      go_loopg [7] a1.size (fun g v7 wr => ∃ (i : Nat), v7 = .int .i64 (i : Int) ∧ Aside0 (g = a1.size - i ∧ i ≤ a1.size) ∧ Aside0 (Kd.R k30 30 wr w.heap.size (fun _ => True) (.slice AP ts.length cP) ts) ∧ Aside0 (Below w.heap.size w wr))
      case atStart => exact ⟨0, rfl, ⟨by omega, by omega⟩, LP, ⟨(by repeat (first | (with_reducible first | exact HB.out | apply below_alloc | apply pw_below_drewN | apply below_drew1) | exact HB.out))⟩⟩
      case round =>
        clear HB LP
        obtain ⟨i, rfl, HG, LP, HB⟩ := hrel
        by_cases hi : i < a1.size
        · have d0 : decide ((i : Int) < (a1.size : Int)) = true := decide_eq_true (by omega)
          have d1 : decide (i < a1.size) = true := decide_eq_true hi
          have p1 : (0 ≤ (i : Int)) = True := eq_true (by omega)
          have p2 : ((i : Int) < (a1.size : Int)) = True := eq_true (by omega)
          have p3 : ((i : Int) < (ts.length : Int)) = True := eq_true (by have := HT.out; omega)
          obtain ⟨b, hb⟩ : ∃ b, bt a1 (i : Int) = b := ⟨_, rfl⟩
          have hbr : wrap64 b = b := by
            have := Plain.rd_range a1 (i : Int)
            rw [rd_bytesOf, hb] at this
            unfold wrap64
            omega
          have ht : rd_T30 ts (i : Int) = ⟨b, 0, 0⟩ := by
            rw [← HE1.out, ← hb, ← rd_bytesOf]
            unfold rd_T30 Plain.plain rd
            have hl : i < (bytesOf a1).length := by rw [bytesOf_length]; exact hi
            rw [Int.toNat_natCast, List.getD_eq_getElem?_getD, List.getElem?_map, List.getElem?_eq_getElem hl, List.getD_eq_getElem?_getD, List.getElem?_eq_getElem hl]
            rfl
          have hba : ∀ h : i < a1.size, ((a1[i]'h).toNat : Int) = b := fun h => by
            rw [← hb]
            unfold bt
            simp [h]
          obtain ⟨ad, ead, hx0, hx1, hx2⟩ := at_T30 (Kd.R_reads' LP.out).2.2 (i : Int) (by omega) (by have := HT.out; omega)
          cases ead
          rw [ht] at hx0 hx1 hx2
          rw [Int.toNat_natCast] at hx0 hx1 hx2
          clear ht hb
          go_wp2
          refine start_ (n := 10) (S := fun w' => w'.cell? (ad.add (i * 3)) = some (.int .i64 b) ∧ w'.cell? ⟨(ad.add (i * 3)).block, (ad.add (i * 3)).off + 1, none⟩ = some (.int .i64 0) ∧ w'.cell? ⟨(ad.add (i * 3)).block, (ad.add (i * 3)).off + 2, none⟩ = some (.int .i64 0) ∧ Below w.heap.size w w' ∧ Kd.R k30 30 w' w.heap.size (fun _ => True) (.slice (some ad) ts.length cP) ts) (ds := []) #[false, false, false, false, false, false, false, false, false, false] (by kernel_rfl) rfl rfl ⟨hx0, hx1, hx2, below_drew1 HB.out, Kd.R_drew LP.out⟩ (fun hHeld => ?_); refine with_tabW pl12.tab pl12.bits (fun HT_ HW_ => ?_)
          refine pure_ (i := 0) (N := some 35) (v := ?_) (a' := ?_) #[true, false, false, false, false, false, false, false, false, false] rfl rfl (any_of HT_.out (by kernel_rfl)) (fun _ _ _ h => h) (Or.inl ⟨by rfl, ?_⟩) ?_ ?_
          rotate_left
          · intro w'
            go_simp
            with_reducible rfl
          rotate_left
          · simp only [Act.put, List.setIfInBounds_toArray, List.set_cons_zero, List.set_cons_succ, i64_w, i32_w]
            rfl
          refine pure_ (i := 1) (N := some 36) (v := ?_) (a' := ?_) #[true, true, false, false, false, false, false, false, false, false] rfl rfl (any_of HT_.out (by kernel_rfl)) (fun _ _ _ h => h) (Or.inl ⟨by rfl, ?_⟩) ?_ ?_
          rotate_left
          · intro w'
            go_simp
            with_reducible rfl
          rotate_left
          · simp only [Act.put, List.setIfInBounds_toArray, List.set_cons_zero, List.set_cons_succ, i64_w, i32_w]
            rfl
          refine pure_ (i := 2) (N := some 37) (v := ?_) (a' := ?_) #[true, true, true, false, false, false, false, false, false, false] rfl rfl (any_of HT_.out (by kernel_rfl)) (fun _ _ _ h => h) (Or.inl ⟨by rfl, ?_⟩) ?_ ?_
          rotate_left
          · intro w'
            go_simp
            with_reducible rfl
          rotate_left
          · simp only [Act.put, List.setIfInBounds_toArray, List.set_cons_zero, List.set_cons_succ, i64_w, i32_w]
            rfl
          refine pure_ (i := 4) (N := some 39) (v := ?_) (a' := ?_) #[true, true, true, false, true, false, false, false, false, false] rfl rfl (any_of HT_.out (by kernel_rfl)) (fun _ _ _ h => h) (Or.inl ⟨by rfl, ?_⟩) ?_ ?_
          rotate_left
          · intro w'
            go_simp
            with_reducible rfl
          rotate_left
          · simp only [Act.put, List.setIfInBounds_toArray, List.set_cons_zero, List.set_cons_succ, i64_w, i32_w]
            rfl
          refine pure_ (i := 5) (N := some 40) (v := ?_) (a' := ?_) #[true, true, true, false, true, true, false, false, false, false] rfl rfl (any_of HT_.out (by kernel_rfl)) (fun _ _ _ h => h) (Or.inl ⟨by rfl, ?_⟩) ?_ ?_
          rotate_left
          · intro w'
            go_simp
            with_reducible rfl
          rotate_left
          · simp only [Act.put, List.setIfInBounds_toArray, List.set_cons_zero, List.set_cons_succ, i64_w, i32_w]
            rfl
          refine take_ (i := 3) (N := some 38) (v := ?_) (a' := ?_) #[true, true, true, true, true, true, false, false, false, false] rfl rfl (take_ofW HT_.out HW_.out (by kernel_rfl)) (fun _ _ _ h => h) (Or.inl ⟨by rfl, ?_⟩) hHeld ?_ ?_
          rotate_left
          · rintro w' ⟨s0, s1, s2, s3, s4⟩
            go_simp
            with_reducible rfl
          rotate_left
          · simp only [Act.put, List.setIfInBounds_toArray, List.set_cons_zero, List.set_cons_succ, i64_w, i32_w]
            rfl
          refine take_ (i := 6) (N := some 41) (v := ?_) (a' := ?_) #[true, true, true, true, true, true, true, false, false, false] rfl rfl (take_ofW HT_.out HW_.out (by kernel_rfl)) (fun _ _ _ h => h) (Or.inl ⟨by rfl, ?_⟩) hHeld ?_ ?_
          rotate_left
          · rintro w' ⟨s0, s1, s2, s3, s4⟩
            go_simp
            with_reducible rfl
          rotate_left
          · simp only [Act.put, List.setIfInBounds_toArray, List.set_cons_zero, List.set_cons_succ, i64_w, i32_w]
            rfl
          refine pure_ (i := 7) (N := some 42) (v := ?_) (a' := ?_) #[true, true, true, true, true, true, true, true, false, false] rfl rfl (any_of HT_.out (by kernel_rfl)) (fun _ _ _ h => h) (Or.inl ⟨by rfl, ?_⟩) ?_ ?_
          rotate_left
          · intro w'
            go_simp
            with_reducible rfl
          rotate_left
          · simp only [Act.put, List.setIfInBounds_toArray, List.set_cons_zero, List.set_cons_succ, i64_w, i32_w]
            rfl
          refine pure_ (i := 8) (N := some 43) (v := ?_) (a' := ?_) #[true, true, true, true, true, true, true, true, true, false] rfl rfl (any_of HT_.out (by kernel_rfl)) (fun _ _ _ h => h) (Or.inl ⟨by rfl, ?_⟩) ?_ ?_
          rotate_left
          · intro w'
            go_simp
            with_reducible rfl
          rotate_left
          · simp only [Act.put, List.setIfInBounds_toArray, List.set_cons_zero, List.set_cons_succ, i64_w, i32_w]
            rfl
          refine pure_ (i := 9) (N := some 44) (v := ?_) (a' := ?_) #[true, true, true, true, true, true, true, true, true, true] rfl rfl (any_of HT_.out (by kernel_rfl)) (fun _ _ _ h => h) (Or.inl ⟨by rfl, ?_⟩) ?_ ?_
          rotate_left
          · intro w'
            go_simp
            with_reducible rfl
          rotate_left
          · simp only [Act.put, List.setIfInBounds_toArray, List.set_cons_zero, List.set_cons_succ, i64_w, i32_w]
            rfl
          refine done_ (done_of HT_.out (by kernel_rfl)) ?_
          have HB := Aside0.mk hHeld.2.2.2.1
          have LP := Aside0.mk hHeld.2.2.2.2
          clear hHeld
          go_wp2
          go_roundg (a1.size - (i + 1))
          case measure => have := HG.out; omega
          case rel => exact ⟨i + 1, Exp.wrap_succ i (by have := HS1.out; omega), ⟨rfl, by omega⟩, LP, HB⟩
        · have d0 : decide ((i : Int) < (a1.size : Int)) = false := decide_eq_false (by omega)
          have d1 : decide (i < a1.size) = false := decide_eq_false hi
          go_wp2_with (first | (go_at_call 12; (with_reducible refine (Known.expand_calls a0 _ _ ts a1 0 _ HX.out ?side1 (Kd.R_reads' LP.out).2.1 HS.out HL.out).mono ?_); (case side1 => exact (Kd.R_reads' LP.out).2.2); rintro e w41 ⟨rfl, hb⟩; have nb_ := Aside0.mk (below_step (by repeat (first | (with_reducible first | exact HB.out | apply below_alloc | apply pw_below_drewN | apply below_drew1) | exact HB.out)) hb); clear HB; have HB := nb_; clear nb_; clear hb))
          go_ret
          exact ⟨rfl, by repeat (first | (with_reducible first | exact HB.out | apply below_alloc | apply pw_below_drewN | apply below_drew1) | exact HB.out)⟩

end Go.Proofs.Ytoibcollkkjelaa.LzPl
