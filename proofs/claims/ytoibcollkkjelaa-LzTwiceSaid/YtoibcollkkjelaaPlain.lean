/- lz's Plain answers a token for each byte. -/
import Derived.Test.YtoibcollkkjelaaOuts
import Derived.Test.YtoibcollkkjelaaSpec
namespace Go.Proofs.Ytoibcollkkjelaa.Plain
open Go.RowKit Go.Proofs.Ytoibcollkkjelaa.PLzGlue Go.Proofs.YtoibcollkkjelaaW.PrintWords Go.Proofs.YtoibcollkkjelaaW.PrintLast Go.Proofs.YtoibcollkkjelaaW.PrintMore Go.Proofs.Ytoibcollkkjelaa.Outs Go.Proofs.Ytoibcollkkjelaa.Spec
set_option linter.unusedVariables false
set_option linter.unusedSimpArgs false

/-- The tokens of the bytes. -/
def plain (xs : List Int) : List S30 := xs.map fun b => ⟨b, 0, 0⟩
theorem info30 : (Try.prog.info? 30).map (fun i => (i.zero, i.size, i.bytes)) = some (some (.agg #[.int .i64 0, .int .i64 0, .int .i64 0]), 3, 24) := by kernel_rfl
theorem wrap_succ (j : Nat) (h : j < 4611686018427387904) : Value.int .i64 (wrap64 ((j : Int) + 1)) = .int .i64 ((j + 1 : Nat) : Int) := by
  congr 1
  unfold wrap64
  omega
theorem rd_range (s : ByteArray) (i : Int) : 0 ≤ rd (bytesOf s) i ∧ rd (bytesOf s) i ≤ 255 := by
  rw [rd_bytesOf]
  unfold bt
  split
  · have := (s[i.toNat]).toNat_lt
    omega
  · omega
/-- What a call answers that hands back tokens. -/
def Gives (w : World) (ts : List S30) (e : Ending) (w' : World) : Prop := ∃ A c, e = .returned (.slice A ts.length c) ∧ Kd.R k30 30 w' w.heap.size (fun _ => True) (.slice A ts.length c) ts ∧ Below w.heap.size w w'

set_option maxHeartbeats 8000000 in
set_option maxRecDepth 100000 in
theorem plain_calls (s : ByteArray) (w : World) (hs : s.size ≤ 1000000) : Calls Try.prog 18 #[.string s] w (Gives w (plain (bytesOf s))) := by
  have hu30 := Try.underlying30
  have HS := Aside0.mk hs
  have kb := fun W => print_bytes (P := Try.prog) 9 38 5 Try.underlying9 Try.underlying38 Try.underlying5 s W
  clear hs
  obtain ⟨xs, hxs⟩ : ∃ xs, bytesOf s = xs := ⟨_, rfl⟩
  have HL := Aside0.mk (show s.size = xs.length by rw [← hxs, bytesOf_length])
  rw [hxs]
  have HX0 := Aside0.mk hxs
  clear hxs
  go_enter Try.func18, Try.ntmps18
  go_wp2
  obtain ⟨W1, hW1⟩ : ∃ W1, Lib.bytesWorld w 5 s = W1 := ⟨_, rfl⟩
  have HR := Aside0.mk (show ReadsInt W1 .u8 (some ⟨w.heap.size, 0, none⟩) s.size (bytesOf s) by rw [← hW1]; exact bytes_reads w 5 s (by have := HS.out; omega))
  have HB0 := Aside0.mk (show Below w.heap.size w W1 by rw [← hW1]; exact bytes_below (Below.refl _ _) (Nat.le_refl _) 5 s)
  have HB := Aside0.mk (Below.refl W1.heap.size W1)
  rw [hW1]
  clear hW1 kb
  rw [HX0.out] at HR
  go_loopg [3, 9] s.size (fun g v3 v9 wr => ∃ (i : Nat), v9 = .int .i64 (i : Int) ∧ Aside0 (g = s.size - i ∧ i ≤ s.size) ∧ Aside0 (Kd.R k30 30 wr W1.heap.size (fun _ => True) v3 (plain (xs.take i))) ∧ Aside0 (Below W1.heap.size W1 wr))
  case atStart => exact ⟨0, rfl, ⟨by omega, by omega⟩, ⟨Kd.R_nil _ _ _ _ _⟩, HB⟩
  case round =>
    clear HB
    obtain ⟨i, rfl, HG, HO, HB⟩ := hrel
    by_cases hi : i < s.size
    · have d0 : decide ((i : Int) < (s.size : Int)) = true := decide_eq_true (by omega)
      have d1 : decide (i < s.size) = true := decide_eq_true hi
      have p0 : decide (0 ≤ (i : Int)) = true := decide_eq_true (by omega)
      have p1 : (0 ≤ (i : Int)) = True := eq_true (by omega)
      have p2 : ((i : Int) < (s.size : Int)) = True := eq_true (by omega)
      obtain ⟨ad, ead, hc⟩ := HR.out.at_ (i : Int) (by omega) (by omega)
      cases ead
      rw [Int.toNat_natCast, Addr.add_lit, Nat.zero_add] at hc
      replace hc := (HB.out.cell (World.block_lt_of_cell? W1 _ hc)).trans hc
      obtain ⟨b, hb⟩ : ∃ b, rd xs (i : Int) = b := ⟨_, rfl⟩
      rw [hb] at hc
      have HX := Aside0.mk (show plain (xs.take (i + 1)) = plain (xs.take i) ++ [⟨b, 0, 0⟩] by
        have hl : i < xs.length := by rw [← HL.out]; exact hi
        unfold plain
        have e : xs[i] = b := by
          rw [← hb]
          unfold rd
          rw [Int.toNat_natCast, List.getD_eq_getElem?_getD, List.getElem?_eq_getElem hl]
          rfl
        rw [List.take_add_one, List.getElem?_eq_getElem hl, Option.toList_some, List.map_append, e]
        rfl)
      have hbw : wrap64 b = b := by
        have := rd_range s (i : Int)
        rw [HX0.out, hb] at this
        unfold wrap64
        omega
      clear hb
      go_wp2_with ((with_reducible refine gate_builtin (b := .append) (xs := #[.tmp 13, .tmp 17]) rfl ?_); at_builtin; refine Kd.R_append k30 (w0 := W1) W1.heap.size rfl (.tmp 13) (.tmp 17) 22 30 (.agg #[.int .i64 0, .int .i64 0, .int .i64 0]) 24 rfl Try.underlying22 info30 rfl (by decide) (by omega) u3 (plain (xs.take i)) (⟨b, 0, 0⟩ : S30) [.int .i64 b, .int .i64 0, .int .i64 0] (fun _ => True) (fun _ => False) rfl rfl ?aP (fun _ hk => hk.elim) ?aF ?aO ?aB ?aS ?aL ?_; (case aP => exact k30_mkM _ _ _ (⟨b, 0, 0⟩ : S30)); (case aB => exact HB.out); (case aF => exact (fun _ _ => trivial)); (case aO => exact HO.out); (case aS => exact HB.out.size); (case aL => have := HS.out; unfold plain; rw [List.length_map, List.length_take]; omega); intro v123 w14 ho_ hb_ hg_ hat_; clear HB; clear HO; have HB := Aside0.mk hb_; have HO := Aside0.mk ho_; clear ho_ hb_ hg_ hat_)
      go_roundg (s.size - (i + 1))
      case measure => have := HG.out; omega
      case rel => exact ⟨i + 1, wrap_succ i (by have := HS.out; omega), ⟨rfl, by omega⟩, ⟨by rw [HX.out]; exact HO.out⟩, HB⟩
    · have d0 : decide ((i : Int) < (s.size : Int)) = false := decide_eq_false (by omega)
      have d1 : decide (i < s.size) = false := decide_eq_false hi
      have ho := HO.out
      have hi2 : xs.take i = xs := List.take_of_length_le (by have := HL.out; omega)
      rw [hi2] at ho
      obtain ⟨A, c, e3⟩ := Kd.R_slice ho
      subst e3
      clear HO
      have HO := Aside0.mk ho
      clear ho hi2
      go_wp2
      go_ret
      exact ⟨A, c, rfl, Kd.R_lower HO.out HB0.out.size, below_step HB0.out HB.out⟩

end Go.Proofs.Ytoibcollkkjelaa.Plain
