/- ArLink: how a script comes in as an argument, and stays; what a law's walk hands on. -/
import Derived.Test.YtlmopdohgipbeaaArG
import Derived.WalkKit
import Derived.ProofKit
import Derived.OpenShut
import Derived.Carry
import Derived.Deep.SlicePairs
import Derived.Lib.SmallJoins
namespace Go.Proofs.Ytlmopdohgipbeaa
open Go.ChangeShapes Go.WideShapes Go.ChangeAt Go.RowKit
set_option linter.unusedVariables false

theorem own : ownKnob Try.prog.godebug = none := by kernel_rfl
theorem laidOut : laidOutB Try.prog = true := by kernel_rfl

/-- What a call that keeps all old rows leaves, as a row's statement asks it. -/
theorem below_of {W W' : World} (hk : Go.Den.keeps W W') (h : Go.Den.hext W.heap W'.heap) : Below W.heap.size W W' :=
  ⟨hk.1, hk.2.1, hk.2.2, h.1, fun k hlt => h.2 k hlt⟩

theorem walk_of {f : FuncId} {args : Array Value} {W : World}
    (h : Calls Try.prog f args W fun e w' => Go.Den.keeps W w' ∧ match e with
      | .returned v => v = .bool true ∧ Go.Den.hext W.heap w'.heap
      | .panicked c => False
      | .outgrown => False) : Calls Try.prog f args W fun e W' => e = .returned (.bool true) ∧ Below W.heap.size W W' := by
  refine h.mono fun e W' he => ?_
  obtain ⟨hk, he⟩ := he
  cases e with
  | returned v => exact ⟨by rw [he.1], below_of hk he.2⟩
  | panicked c => exact he.elim
  | outgrown => exact he.elim

section
variable {H : Type} {enc : TypeId × Value → H}
set_option maxRecDepth 100000 in
theorem script_open {W : World} {base : Nat} {v : Value} {d : DataW H} {p : List MemPlace} (hv : Value.okWide Try.prog W .any base 59 v) (h : DataW.Trod enc Try.prog W 0 (fun _ => true) true 59 v d p) :
    ∃ n q len cap, v = .agg #[.int .i64 n, .slice q len cap] ∧ Go.Ar.SV W.heap q len := by
  obtain ⟨v0, v1, y0, y1, n, rfl, rfl, rfl, h0, h1⟩ := Go.Joins.open_agg2 (P := Try.prog) Try.underlying59 (by kernel_rfl) (by kernel_rfl) hv h
  obtain ⟨k, hk, _, _⟩ := DataW.trod_int (P := Try.prog) Try.underlying3 h0
  obtain rfl : v0 = .int .i64 k := by simpa using hk
  rcases Go.Deep.open_slice_pairs (P := Try.prog) Try.underlying57 Try.underlying64 (by kernel_rfl) rfl rfl (by kernel_rfl) (by kernel_rfl) h1 with ⟨hc, _⟩ | ⟨a, len, cap, m, n', V0, V1, D0, D1, P0, P1, hc, _, hl, _, hm, _, hx⟩
  · obtain rfl : v1 = .slice none 0 0 := by simpa using hc
    exact ⟨k, none, 0, 0, rfl, fun i hi => absurd hi (Nat.not_lt_zero i)⟩
  · obtain rfl : v1 = .slice (some a) len cap := by simpa using hc
    refine ⟨k, some a, len, cap, rfl, fun i hi => ?_⟩
    have him : i < m := by rw [hm]; split <;> omega
    obtain ⟨g0, g1, t0, t1⟩ := hx i him
    obtain ⟨c, hc0, _, _⟩ := DataW.trod_int (P := Try.prog) Try.underlying3 t0
    obtain ⟨b, hb0, _, _⟩ := DataW.trod_int (P := Try.prog) Try.underlying3 t1
    have e0 : V0 i = .int .i64 c := by simpa using hc0
    have e1 : V1 i = .int .i64 b := by simpa using hb0
    rw [e0] at g0
    rw [e1] at g1
    exact ⟨a, c, b, rfl, g0, g1⟩
theorem script_trod {W W' : World} {v : Value} {d : DataW H} {p : List MemPlace} (h : DataW.Trod enc Try.prog W 0 (fun _ => true) true 59 v d p) (hb : Below W.heap.size W W') (hlt : ∀ x ∈ p, x.block < W.heap.size) :
    DataW.Trod enc Try.prog W' 0 (fun b => decide (b < W.heap.size)) true 59 v d p :=
  Below.trod laidOut (by kernel_rfl) (of_decide_eq_true (by kernel_rfl)) h hb hlt
end
end Go.Proofs.Ytlmopdohgipbeaa
