/- lz's Expand and Tail at arguments of which the answer is known; over at lists of tokens. -/
import Derived.Test.YtoibcollkkjelaaWorks
import Derived.Test.YtoibcollkkjelaaOpen
namespace Go.Proofs.Ytoibcollkkjelaa.Known
open Go.RowKit Go.Proofs.Ytoibcollkkjelaa.PLzGlue Go.Proofs.YtoibcollkkjelaaW.PrintWords Go.Proofs.YtoibcollkkjelaaW.PrintLast Go.Proofs.YtoibcollkkjelaaW.PrintMore Go.Proofs.Ytoibcollkkjelaa.Outs Go.Proofs.Ytoibcollkkjelaa.Spec

theorem expand_calls (a0 : ByteArray) (A1 : Option Addr) (c1 : Nat) (l1 : List S30) (s : ByteArray) (r : Int) (w : World) (hx : ex a0 l1 = (s, r)) (hr1 : Kd.C k30 w A1 l1.length l1) (hc1 : l1.length ≤ c1) (hs : a0.size ≤ 140737488355328) (hl : l1.length ≤ 1000000) :
    Calls Try.prog 12 #[.string a0, .slice A1 l1.length c1] w fun e w' => e = .returned (.tuple #[.string s, .int .i64 r]) ∧ Below w.heap.size w w' := by
  have h := Exp.expand_calls a0 A1 c1 _ l1 w rfl hr1 hc1 hs hl
  rw [hx] at h
  exact h
theorem expand_calls_n (a0 : ByteArray) (A1 : Option Addr) (c1 n : Nat) (l1 : List S30) (s : ByteArray) (r : Int) (w : World) (hx : ex a0 l1 = (s, r)) (hn : n = l1.length) (hr1 : Kd.C k30 w A1 l1.length l1) (hc1 : l1.length ≤ c1) (hs : a0.size ≤ 140737488355328) (hl : l1.length ≤ 1000000) :
    Calls Try.prog 12 #[.string a0, .slice A1 n c1] w fun e w' => e = .returned (.tuple #[.string s, .int .i64 r]) ∧ Below w.heap.size w w' := by
  subst hn
  exact expand_calls a0 A1 c1 l1 s r w hx hr1 hc1 hs hl
theorem over_calls (A0 : Option Addr) (c0 : Nat) (l0 : List S30) (w : World) (hr0 : Kd.C k30 w A0 l0.length l0) (hc0 : l0.length ≤ c0) :
    Calls Try.prog 11 #[.slice A0 l0.length c0] w fun e w' => e = .returned (.bool (decide ((l0.length : Int) > 60))) ∧ Drawn0 w w' := miradorlaw06_over.calls A0 c0 l0 _ w hr0 hc0 rfl

end Go.Proofs.Ytoibcollkkjelaa.Known
