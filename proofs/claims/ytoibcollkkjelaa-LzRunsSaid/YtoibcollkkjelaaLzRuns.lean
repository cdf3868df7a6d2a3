/- LzRuns holds: one byte that comes again and again makes few tokens. It is stated for all arguments, without a condition. -/
import Derived.Test.YtoibcollkkjelaaPkPack
import Derived.Test.YtoibcollkkjelaaRefExp
import Derived.Test.YtoibcollkkjelaaWorks
namespace Go.Proofs.Ytoibcollkkjelaa.LzRuns
open Go.RowKit Go.Proofs.Ytoibcollkkjelaa.PLzGlue Go.Proofs.YtoibcollkkjelaaW.PrintWords Go.Proofs.YtoibcollkkjelaaW.PrintLast Go.Proofs.YtoibcollkkjelaaW.PrintMore Go.Proofs.Ytoibcollkkjelaa.Spec Go.Proofs.Ytoibcollkkjelaa.PkMath Go.Proofs.Ytoibcollkkjelaa.PkAlike Go.Proofs.Ytoibcollkkjelaa.PkPack
set_option linter.unusedVariables false
set_option linter.unusedSimpArgs false
theorem tail_none : tail ⟨#[]⟩ = ⟨#[]⟩ := tail_short _ (by decide)
theorem none_add (s : ByteArray) : (⟨#[]⟩ : ByteArray) ++ s = s := ByteArray.empty_append
theorem info5 : (Try.prog.info? 5).map (fun i => (i.zero, i.size, i.bytes)) = some (some (.int .u8 0), 1, 1) := by kernel_rfl
/-- A row while it is filled with one byte. -/
def fill (c : Int) (m i : Nat) : List Int := (List.range m).map fun j => if j < i then c else 0
theorem fill_len (c : Int) (m i : Nat) : (fill c m i).length = m := by unfold fill; rw [List.length_map, List.length_range]
theorem fill_get (c : Int) (m i n : Nat) (h : n < (fill c m i).length) : (fill c m i)[n] = if n < i then c else 0 := by
  have e : (fill c m i)[n]? = some (if n < i then c else 0) := by
    rw [fill_len] at h
    unfold fill
    rw [List.getElem?_map, List.getElem?_range h]
    rfl
  rw [List.getElem?_eq_getElem h] at e
  exact Option.some.inj e
theorem fill_zero (c : Int) (m : Nat) : List.replicate m (0 : Int) = fill c m 0 := by
  apply List.ext_getElem
  · rw [fill_len, List.length_replicate]
  · intro n h1 h2
    rw [fill_get, if_neg (by omega), List.getElem_replicate]
theorem fill_set (c : Int) (m i : Nat) : (fill c m i).set i c = fill c m (i + 1) := by
  apply List.ext_getElem
  · rw [List.length_set, fill_len, fill_len]
  · intro n h1 h2
    rw [List.getElem_set, fill_get, fill_get]
    by_cases h : i = n
    · subst h
      rw [if_pos rfl, if_pos (by omega)]
    · rw [if_neg h]
      by_cases h3 : n < i
      · rw [if_pos h3, if_pos (by omega)]
      · rw [if_neg h3, if_neg (by omega)]
theorem str_size (xs : List Int) : (strOfNums xs).size = xs.length := by
  show (xs.map _).toArray.size = _
  simp
theorem bt_fill (c : Int) (hc : 0 ≤ c ∧ c ≤ 255) (m i : Nat) (hi : i < m) : bt (strOfNums (fill c m m)) (i : Int) = c := by
  have hl : i < (fill c m m).length := by rw [fill_len]; exact hi
  have hr : GlueLaw.InRange (fill c m m) := fun x hx => by
    obtain ⟨n, hn, rfl⟩ := List.mem_iff_getElem.1 hx
    rw [fill_get]
    split <;> omega
  rw [← rd_bytesOf, GlueLaw.bytes_str _ hr]
  unfold rd
  rw [Int.toNat_natCast, List.getD_eq_getElem?_getD, List.getElem?_eq_getElem hl]
  show (fill c m m)[i] = c
  rw [fill_get, if_pos hi]
set_option maxHeartbeats 8000000 in
set_option maxRecDepth 100000 in
theorem walk (a0 a1 : Int) (w : World) (hc : 0 ≤ a0 ∧ a0 ≤ 255) : Calls Try.prog 8 #[.int .u8 a0, .int .i64 a1] w fun e w' => e = .returned (.bool true) ∧ Below w.heap.size w w' := by
  have HB := Aside0.mk (Below.refl w.heap.size w)
  by_cases c0 : a1 < 0
  · have d0 : decide (a1 < 0) = true := decide_eq_true c0
    clear c0 hc
    go_enter Try.func8, Try.ntmps8
    go_wp2_with (first | (go_at_call 10; (with_reducible refine (Works.works_calls _).mono ?_); rintro e w1 ⟨rfl, hb⟩; have nb_ := Aside0.mk (below_step (by repeat (first | (with_reducible first | exact HB.out | apply below_alloc | apply pw_below_drewN | apply below_drew1) | exact HB.out)) hb); clear HB; have HB := nb_; clear nb_; clear hb))
    go_ret
    exact ⟨rfl, by repeat (first | (with_reducible first | exact HB.out | apply below_alloc | apply pw_below_drewN | apply below_drew1) | exact HB.out)⟩
  · have d0 : decide (a1 < 0) = false := decide_eq_false c0
    by_cases c1 : 5000 < a1
    · have d2 : decide (5000 < a1) = true := decide_eq_true c1
      clear c0 c1 hc
      go_enter Try.func8, Try.ntmps8
      go_wp2_with (first | (go_at_call 10; (with_reducible refine (Works.works_calls _).mono ?_); rintro e w1 ⟨rfl, hb⟩; have nb_ := Aside0.mk (below_step (by repeat (first | (with_reducible first | exact HB.out | apply below_alloc | apply pw_below_drewN | apply below_drew1) | exact HB.out)) hb); clear HB; have HB := nb_; clear nb_; clear hb))
      go_ret
      exact ⟨rfl, by repeat (first | (with_reducible first | exact HB.out | apply below_alloc | apply pw_below_drewN | apply below_drew1) | exact HB.out)⟩
    · have d2 : decide (5000 < a1) = false := decide_eq_false c1
      obtain ⟨m, rfl⟩ := Int.eq_ofNat_of_zero_le (show 0 ≤ a1 by omega)
      have HM := Aside0.mk (show m ≤ 5000 by omega)
      have hmN : decide (5000 < m) = false := decide_eq_false (by omega)
      have HS0 := Aside0.mk (show (⟨#[]⟩ : ByteArray).size ≤ 140737488355328 by decide)
      have hsz : (strOfNums (fill a0 m m)).size = m := by rw [str_size, fill_len]
      have hx := pk_ex ⟨#[]⟩ (strOfNums (fill a0 m m)) (strOfNums (fill a0 m m)).size (Nat.le_refl _)
      rw [tail_none, none_add] at hx
      have hl : (pkL (strOfNums (fill a0 m m)) (strOfNums (fill a0 m m)).size 0).length ≤ 4 + m / 258 := by
        have h := runs_all (strOfNums (fill a0 m m)) a0 (fun i hi => bt_fill a0 hc m i (by rw [hsz] at hi; exact hi)) (by omega) (strOfNums (fill a0 m m)).size
        rw [hsz] at h ⊢
        exact h
      change ex ⟨#[]⟩ (pkL (strOfNums (fill a0 m m)) (strOfNums (fill a0 m m)).size 0) = _ at hx
      obtain ⟨ts, hts⟩ : ∃ ts, pkL (strOfNums (fill a0 m m)) (strOfNums (fill a0 m m)).size 0 = ts := ⟨_, rfl⟩
      rw [hts] at hx hl
      have KP := Aside0.mk (show ∀ W : World, Calls Try.prog 19 #[.string ⟨#[]⟩, .string (strOfNums (fill a0 m m))] W (Packed W ts) from fun W => by
        have h := pack_calls (⟨#[]⟩) (strOfNums (fill a0 m m)) W HS0.out (by omega)
        rw [tail_none, none_add] at h
        change Calls _ _ _ _ (Packed W (pkL (strOfNums (fill a0 m m)) (strOfNums (fill a0 m m)).size 0)) at h
        rw [hts] at h
        exact h)
      have HX1 := Aside0.mk (show (ex (⟨#[]⟩) ts).1 = strOfNums (fill a0 m m) by rw [hx])
      have HX2 := Aside0.mk (show (ex (⟨#[]⟩) ts).2 = 0 by rw [hx])
      have HTL := Aside0.mk (show ts.length ≤ 1000000 by omega)
      obtain ⟨q, hq⟩ : ∃ q : Int, (m : Int) / 258 = q := ⟨_, rfl⟩
      have hq1 : (m : Int).tdiv 258 = q := by rw [Int.tdiv_eq_ediv_of_nonneg (by omega)]; exact hq
      have hq2 : wrap64 q = q := by unfold wrap64; omega
      have hq0 : wrap64 ((m : Int) / 258) = q := by rw [hq]; exact hq2
      obtain ⟨M, hM⟩ : ∃ M : Int, wrap64 (4 + q) = M := ⟨_, rfl⟩
      have hM2 : M = 4 + q := by rw [← hM]; unfold wrap64; omega
      have l1 : decide ((ts.length : Int) ≤ M) = true := decide_eq_true (by omega)
      obtain ⟨X, hX⟩ : ∃ X, strOfNums (fill a0 m m) = X := ⟨_, rfl⟩
      rw [hX] at KP HX1
      have HXX := Aside0.mk hX
      clear hx hl hts c0 c1 hM2 hsz hX hc
      go_enter Try.func8, Try.ntmps8
      go_wp2_with (first | (go_at_call 10; (with_reducible refine (Works.works_calls _).mono ?_); rintro e w1 ⟨rfl, hb⟩; have nb_ := Aside0.mk (below_step (by repeat (first | (with_reducible first | exact HB.out | apply below_alloc | apply pw_below_drewN | apply below_drew1) | exact HB.out)) hb); clear HB; have HB := nb_; clear nb_; clear hb) | ((with_reducible refine gate_dst (N := 22) rfl ?_); refine Kd.R_make (Kd.int .u8) _ 5 rfl (N := 22) rfl 38 _ _ rfl (m : Int) rfl rfl Try.underlying38 (.int .u8 0) 1 info5 rfl (by decide) (by omega) 0 (ok := fun _ => True) (okp := fun _ => True) rfl (fun _ hk => hk) trivial (by omega) (by have := HM.out; omega) (Below.refl _ _) (Nat.le_refl _) ?_; intro v102 w2 ho_ hb hg_ hnew_; clear hg_ hnew_; rw [Int.toNat_natCast, fill_zero a0] at ho_; have HO := Aside0.mk (Kd.R_lower ho_ (below_size (by repeat (first | (with_reducible first | exact HB.out | apply below_alloc | apply pw_below_drewN | apply below_drew1) | exact HB.out)))); have nb_ := Aside0.mk (below_step (by repeat (first | (with_reducible first | exact HB.out | apply below_alloc | apply pw_below_drewN | apply below_drew1) | exact HB.out)) hb); clear HB; have HB := nb_; clear nb_; clear hb ho_; obtain ⟨A4, c4, e4⟩ := Kd.R_slice HO.out; rw [fill_len] at e4; subst e4))
      go_loopg [7] m (fun g v7 wr => ∃ (i : Nat), v7 = .int .i64 (i : Int) ∧ Aside0 (g = m - i ∧ i ≤ m) ∧ Aside0 (Kd.R (Kd.int .u8) 5 wr w.heap.size (fun _ => True) (.slice A4 m c4) (fill a0 m i)) ∧ Aside0 (Below w.heap.size w wr))
      case atStart => exact ⟨0, rfl, ⟨by omega, by omega⟩, HO, HB⟩
      case round =>
        clear HO HB
        obtain ⟨i, rfl, HG, HO, HB⟩ := hrel
        by_cases hi : i < m
        · have d3 : decide ((i : Int) < (m : Int)) = true := decide_eq_true (by omega)
          have d4 : decide (i < m) = true := decide_eq_true hi
          have p1 : (0 ≤ (i : Int)) = True := eq_true (by omega)
          have p2 : ((i : Int) < (m : Int)) = True := eq_true (by omega)
          have p3 : (i < m) = True := eq_true hi
          obtain ⟨hx0, hf0⟩ : True ∧ True := ⟨trivial, trivial⟩
          clear hx0 hf0
          obtain ⟨g5, c5, e5, hge, hlt, _⟩ := Kd.R_form HO.out (by rw [fill_len]; omega)
          rw [fill_len] at e5
          cases e5
          obtain ⟨hx0, hf0⟩ := Kd.R_celln 0 HO.out (i : Int) (by omega) (by omega)
          rw [Int.toNat_natCast] at hx0 hf0
          have HP := Aside0.mk (Kd.R_putg HO.out (i : Int) a0)
          have GB := Aside0.mk hge
          have HI := Aside0.mk hi
          clear hge hlt hi
          go_wp2_with (first | ((with_reducible refine gate_store (t := 5) (p := 31) rfl ?_); refine store_event (t := 5) (p := 31) (v := .tmp 30) (w1 := (wr.setCell ⟨g5, i, none⟩ (.int .u8 a0))) ?hg ?ho ?hn ?hr ?_; (case ho => rfl); (case hg => rfl); (case hn => rfl); (case hr => first | (go_simp; done) | (go_simp; rfl)); intro w11 hw; have hp_ : Kd.R (Kd.int .u8) 5 w11 w.heap.size (fun _ => True) (.slice (some ⟨g5, 0, none⟩) m c4) (fill a0 m (i + 1)) := (by rw [hw, ← fill_set]; have h := HP.out.1; rw [Int.toNat_natCast] at h; exact h); have n0_ := Aside0.mk hp_; have n1_ := Aside0.mk ((by rw [hw]; exact below_set HB.out GB.out : Below w.heap.size w w11)); clear HO; clear HB; have HO := n0_; have HB := n1_; clear n0_ n1_; clear hw hp_))
          go_roundg (m - (i + 1))
          case measure => have := HG.out; have := HI.out; omega
          case rel => exact ⟨i + 1, wrap_succ i (by have := HM.out; have := HI.out; omega), ⟨rfl, by have := HI.out; omega⟩, HO, HB⟩
        · have d3 : decide ((i : Int) < (m : Int)) = false := decide_eq_false (by omega)
          have d4 : decide (i < m) = false := decide_eq_false hi
          have him : m = i := by have := HG.out; omega
          subst him
          clear hi
          have hcv := own_string (P := Try.prog) Try.underlying38 Try.underlying5 Try.underlying9 (Kd.own_of_R HO.out)
          rw [HXX.out] at hcv
          go_wp2_with (first | (go_at_call 19; (with_reducible refine (KP.out _).mono ?_); rintro e w40 ⟨AP, cP, rfl, ho_, hb⟩; have m_ := Aside0.mk (Kd.R_lower ho_ (below_size (by repeat (first | (with_reducible first | exact HB.out | apply below_alloc | apply pw_below_drewN | apply below_drew1) | exact HB.out)))); clear ho_; have n0_ := Aside0.mk (Kd.R_below (by (with_reducible repeat (first | apply Kd.R_alloc | apply Kd.R_drewN | apply Kd.R_drew)); exact HO.out) hb); have nb_ := Aside0.mk (below_step (by repeat (first | (with_reducible first | exact HB.out | apply below_alloc | apply pw_below_drewN | apply below_drew1) | exact HB.out)) hb); clear HO; clear HB; have HO := n0_; have HB := nb_; clear nb_ n0_; clear hb; have LP := m_; clear m_) | (go_at_call 13; (with_reducible refine (RefExp.expand_calls ⟨#[]⟩ _ _ _ ts _ rfl ?side1 (Kd.R_reads' LP.out).2.1 HS0.out HTL.out).mono ?_); (case side1 => exact (Kd.R_reads' LP.out).2.2); rw [HX1.out, HX2.out]; rintro e w41 ⟨rfl, hb⟩; have n0_ := Aside0.mk (Kd.R_below (by (with_reducible repeat (first | apply Kd.R_alloc | apply Kd.R_drewN | apply Kd.R_drew)); exact HO.out) hb); have n1_ := Aside0.mk (Kd.R_below (by (with_reducible repeat (first | apply Kd.R_alloc | apply Kd.R_drewN | apply Kd.R_drew)); exact LP.out) hb); have nb_ := Aside0.mk (below_step (by repeat (first | (with_reducible first | exact HB.out | apply below_alloc | apply pw_below_drewN | apply below_drew1) | exact HB.out)) hb); clear HO; clear LP; clear HB; have HO := n0_; have LP := n1_; have HB := nb_; clear nb_ n0_ n1_; clear hb; have hcv2 := own_string (P := Try.prog) Try.underlying38 Try.underlying5 Try.underlying9 (Kd.own_of_R HO.out); rw [HXX.out] at hcv2))
          go_ret
          exact ⟨rfl, by repeat (first | (with_reducible first | exact HB.out | apply below_alloc | apply pw_below_drewN | apply below_drew1) | exact HB.out)⟩

end Go.Proofs.Ytoibcollkkjelaa.LzRuns
