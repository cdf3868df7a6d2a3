/- The map of lz.Pack: a block that holds, for each beginning, the last place. -/
import Derived.Test.YtoibcollkkjelaaPkMath
import Derived.Maps.OwnSet
import Derived.StringKeys
namespace Go.Proofs.Ytoibcollkkjelaa.PkMap
open Go.RowKit Go.Maps Go.Proofs.Ytoibcollkkjelaa.PLzGlue Go.Proofs.YtoibcollkkjelaaW.PrintWords Go.Proofs.YtoibcollkkjelaaW.PrintLast Go.Proofs.YtoibcollkkjelaaW.PrintMore Go.Proofs.Ytoibcollkkjelaa.PkMath

theorem lawK : Keyed Try.prog 9 := string_keyed Try.underlying9
theorem zeroE (w : World) : (zeroValue 3).run Try.prog w = .ok (.int .i64 0) w := by kernel_rfl
def kl (key : ByteArray) : Lit := .string key.data.toList
def valO : Option Nat → Int
  | some v => (v : Int)
  | none => 0
/-- Block b is a map that holds f. -/
def MapAt (w : World) (b : Nat) (f : ByteArray → Option Nat) (n : Nat) : Prop :=
  ∃ D : DataW Unit, w.ownsMap Try.prog 9 (plainElem Try.prog 3) b n D ∧ ∀ key : ByteArray, Maps.has D (kl key) = (f key).isSome ∧ ∀ v, f key = some v → D.atKey (kl key) (.lit (.int .i64 0)) = .lit (.int .i64 (v : Int))
theorem hkl (k : ByteArray) : WideAt.IsKeyLit (kl k) := by unfold kl WideAt.IsKeyLit; trivial
theorem kl_inj {a b : ByteArray} (h : kl a = kl b) : a = b := by
  unfold kl at h
  injection h with h
  exact ByteArray.ext (Array.ext' h)
theorem MapAt.move {w w1 : World} {b n : Nat} {f : ByteArray → Option Nat} (h : MapAt w b f n) (hm : w1.heap[b]? = w.heap[b]?) : MapAt w1 b f n := by
  obtain ⟨D, ⟨es, clock, hb, hF, hs, hD⟩, hf⟩ := h
  exact ⟨D, ⟨es, clock, hm.trans hb, hF, hs, hD⟩, hf⟩
theorem MapAt.obj {w : World} {b n : Nat} {f : ByteArray → Option Nat} (h : MapAt w b f n) : ∃ es clock, w.heap[b]? = some (.map es clock) := by
  obtain ⟨D, ⟨es, clock, hb, hF, hs, hD⟩, hf⟩ := h
  exact ⟨es, clock, hb⟩
theorem MapAt.made (w : World) : MapAt (w.alloc (.map #[] 0)) w.heap.size (fun _ => none) 0 :=
  ⟨.map [], World.ownsMap_made w _ _ _, fun key => ⟨rfl, fun v hv => by cases hv⟩⟩
theorem MapAt.look {w : World} {b n : Nat} {f : ByteArray → Option Nat} (h : MapAt w b f n) (key : ByteArray) (hk : key.size ≤ maxLen) :
    (Instr.lookup 43 (.map (some b)) (.string key) true).run Try.prog w = .ok (.tuple #[.int .i64 (valO (f key)), .bool (f key).isSome]) w := by
  obtain ⟨D, hown, hf⟩ := h
  have hkey := Go.WideMaps.keyOf_string_mk (P := Try.prog) Try.underlying9 hk
  obtain ⟨v, ps, hrun, hv⟩ := hown.look_ok lawK Try.underlying43 (zeroE w) (plainElem_int Try.underlying3 (by decide)) hkey
  obtain ⟨c, rfl, hc, hwc⟩ := plainElem_int_inv Try.underlying3 hv
  have h1 := (hf key).1
  have e : Maps.has D (.string key.data.toList) = (f key).isSome := h1
  rw [e] at hrun
  rw [hrun]
  have hc1 : D.atKey (kl key) (.lit (.int .i64 0)) = .lit (.int .i64 c) := congrArg Prod.fst hc
  cases hfk : f key with
  | none =>
    rw [hfk] at h1
    have h2 := Maps.atKey_of_not_has h1 (.lit (.int .i64 0))
    rw [h2] at hc1
    injection hc1 with hc1
    injection hc1 with _ hc1
    rw [← hc1]
    rfl
  | some v =>
    have h2 := (hf key).2 v hfk
    rw [h2] at hc1
    injection hc1 with hc1
    injection hc1 with _ hc1
    rw [← hc1]
    rfl
def upd (f : ByteArray → Option Nat) (key : ByteArray) (v : Nat) : ByteArray → Option Nat := fun k => if k = key then some v else f k
theorem MapAt.store {w : World} {b n : Nat} {f : ByteArray → Option Nat} (h : MapAt w b f n) (key : ByteArray) (hk : key.size ≤ maxLen) (v : Nat) (hv : v ≤ 1000000) (hn : n ≤ 1000000) :
    ∃ w', (Instr.mapUpdate 43 (.map (some b)) (.string key) (.int .i64 (v : Int))).run Try.prog w = .ok () w' ∧ MapAt w' b (upd f key v) (n + 1) ∧ w.grownBy w' (some b) := by
  obtain ⟨D, hown, hf⟩ := h
  have hkey := Go.WideMaps.keyOf_string_mk (P := Try.prog) Try.underlying9 hk
  have hwf : (Lit.int .i64 (v : Int)).wf = true := WalkArith.wf_i64 (by omega)
  obtain ⟨w', hrun, hown', hg⟩ := hown.update lawK Try.underlying43 (by unfold maxLen; omega) hkey (plainElem_int Try.underlying3 hwf)
  refine ⟨w', hrun, ⟨_, hown', fun k => ?_⟩, hg⟩
  have hm := hown.isMap
  by_cases hkk : k = key
  · subst hkk
    have e : upd f k v k = some v := if_pos rfl
    rw [e]
    refine ⟨Maps.has_put_same hm (hkl k) _, fun u hu => ?_⟩
    cases hu
    exact Maps.atKey_put_same hm (hkl k) _ _
  · have e : upd f key v k = f k := if_neg hkk
    have hne : kl k ≠ kl key := fun e => hkk (kl_inj e)
    rw [e]
    refine ⟨(Maps.has_put_other hne _).trans (hf k).1, fun u hu => ?_⟩
    exact (Maps.atKey_put_other hne _ _).trans ((hf k).2 u hu)
theorem MapAt.congr {w : World} {b n m : Nat} {f g : ByteArray → Option Nat} (h : MapAt w b f n) (he : ∀ k, f k = g k) (hm : n ≤ m) : MapAt w b g m := by
  have e : f = g := funext he
  subst e
  obtain ⟨D, hown, hf⟩ := h
  exact ⟨D, hown.mono hm, hf⟩
theorem lastK_upd (T : ByteArray) (n : Nat) (h : n + 3 ≤ T.size) (k : ByteArray) : upd (lastK T n) (T.extract n (n + 3)) n k = lastK T (n + 1) k := by
  unfold upd
  rw [lastK]
  by_cases hk : k = T.extract n (n + 3)
  · rw [if_pos hk, if_pos ⟨h, hk.symm⟩]
  · rw [if_neg hk, if_neg (fun e => hk e.2.symm)]
theorem lastK_same (T : ByteArray) (n : Nat) (h : ¬ n + 3 ≤ T.size) (k : ByteArray) : lastK T n k = lastK T (n + 1) k := by
  rw [lastK, if_neg (fun e => h e.1)]
end Go.Proofs.Ytoibcollkkjelaa.PkMap
