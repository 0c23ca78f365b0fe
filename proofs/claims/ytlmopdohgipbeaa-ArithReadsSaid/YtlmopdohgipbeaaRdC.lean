/- RdC: a reading as it comes in as an argument: the law ArithReads over it. -/
import Derived.Test.YtlmopdohgipbeaaRdB
import Derived.Test.YtlmopdohgipbeaaDen
set_option linter.unusedVariables false
set_option linter.unusedSimpArgs false
namespace Go.Ar
open Go Go.Den Go.Den.Ytlmopdohgipbeaa

theorem u8s_ints {l : List Int} (h : ∀ x ∈ l, IntKind.u8.min ≤ x ∧ x ≤ IntKind.u8.max) : (l.map fun x => (.int .u8 x : Value)) = u8s (l.map Int.toNat) ∧ ∀ x ∈ l.map Int.toNat, x < 256 := by
  have hb : ∀ x ∈ l, 0 ≤ x ∧ x ≤ 255 := fun x hx => by have := h x hx; simpa [IntKind.min, IntKind.max, IntKind.signed, IntKind.bits] using this
  constructor
  · unfold u8s
    rw [List.map_map]
    refine List.map_congr_left fun x hx => ?_
    have := hb x hx
    show Value.int .u8 x = .int .u8 ((x.toNat : Nat) : Int)
    rw [Int.toNat_of_nonneg this.1]
  · intro y hy
    obtain ⟨x, hx, rfl⟩ := List.mem_map.1 hy
    have := hb x hx
    omega
/-- Bytes that come in. -/
theorem wd_bytes {h : Heap} {cs : List Value} (H : WDx Go.Proofs.Try.prog h T_s_uint8 cs) :
    ∃ q cap, ∃ bs : List Nat, cs = [.slice q bs.length cap] ∧ bs.length ≤ cap ∧ cap < 140737488351300 ∧ (q = none → cap = 0) ∧ rdO h q (bs.length * 1) (u8s bs) ∧ ∀ x ∈ bs, x < 256 := by
  obtain ⟨q, cap, l, rfl, h1, h2, h3, h4, h5⟩ := wd_ints (k := .u8) Go.Proofs.Try.underlying66 Go.Proofs.Try.underlying5 (by kernel_rfl) H
  obtain ⟨e1, e2⟩ := u8s_ints h5
  have k1 : Go.Proofs.Try.prog.bytesOf T_uint8 = 1 := by kernel_rfl
  rw [k1] at h2
  have hr : reachBytes = 140737488351232 := rfl
  rw [e1] at h4
  refine ⟨q, cap, l.map Int.toNat, by simp, by simpa using h1, by omega, h3, by simpa using h4, e2⟩

theorem reads_arg {h : Heap} {cs : Array Value} (hsz : cs.size = Go.Proofs.Try.prog.cellsOf T_burinlaw4_Reading) (hw : WDx Go.Proofs.Try.prog h T_burinlaw4_Reading cs.toList) {K : Value → Heap → Prop} {Kp : List PanicEntry → Heap → Prop} (hk : ∀ h', hext h h' → K (.bool true) h') :
    CP F_burinlaw4_ArithReads #[.agg cs] h K Kp := by
  have k : Go.Proofs.Try.prog.cellsOf T_burinlaw4_Reading = 3 := by kernel_rfl
  rw [k] at hsz
  obtain ⟨c0, c1, c2, rfl⟩ := Go.Joins.array3 hsz
  obtain ⟨_, hf⟩ := wd_struct Go.Proofs.Try.underlying101 hw
  have k0 : Go.Proofs.Try.prog.cellsOf T_s_uint8 = 1 := by kernel_rfl
  have k1 : Go.Proofs.Try.prog.cellsOf T_int = 1 := by kernel_rfl
  have k2 : Go.Proofs.Try.prog.cellsOf T_s_int = 1 := by kernel_rfl
  have f0 : WDx _ h T_s_uint8 (([c0, c1, c2].drop 0).take (Go.Proofs.Try.prog.cellsOf T_s_uint8)) := hf 0 _ rfl
  have f1 : WDx _ h T_int (([c0, c1, c2].drop 1).take (Go.Proofs.Try.prog.cellsOf T_int)) := hf 1 _ rfl
  have f2 : WDx _ h T_s_int (([c0, c1, c2].drop 2).take (Go.Proofs.Try.prog.cellsOf T_s_int)) := hf 2 _ rfl
  rw [k0] at f0
  rw [k1] at f1
  rw [k2] at f2
  obtain ⟨q, cap, bs, e0, h1, h2, h3, h4, h5⟩ := wd_bytes f0
  obtain ⟨n, e1, _⟩ := wd_int Go.Proofs.Try.underlying3 f1
  obtain ⟨q2, cap2, l, e2, _, _, _, g4, _⟩ := wd_ints (k := .i64) Go.Proofs.Try.underlying94 Go.Proofs.Try.underlying3 (by kernel_rfl) f2
  simp only [List.drop_zero, List.drop_succ_cons, List.take_succ_cons, List.take_zero, List.cons.injEq, and_true] at e0 e1 e2
  subst e0 e1 e2
  refine reads_law h5 (by omega) h4 ⟨fun i => l.getD i 0, fun i hi => ?_⟩ hk
  obtain ⟨a, ha, hc⟩ := rdO_cell g4 (i := i) (v := .int .i64 (l.getD i 0)) (by rw [List.getElem?_map, List.getD_eq_getElem?_getD, List.getElem?_eq_getElem hi]; rfl)
  exact ⟨a, ha, by rw [Nat.mul_one]; exact hc⟩

end Go.Ar
