/- ArW: what the coders answer where they do not code: contexts out of range, a bit that is none, a coder that is done; Over. -/
import Derived.Test.YtlmopdohgipbeaaArV
set_option linter.unusedVariables false
set_option linter.unusedSimpArgs false
namespace Go.Ar
open Go Go.Den Go.Den.Ytlmopdohgipbeaa

set_option maxRecDepth 100000 in
theorem made_bad {h : Heap} {n : Int} (hn : n < 1 ∨ 131072 < n) {K : Value → Heap → Prop} {Kp : List PanicEntry → Heap → Prop}
    (hk : ∀ (cs : List Value) (h' : Heap), cs.length = 190 → (∀ v ∈ cs, v.oneCell' = true) → hext h h' → K (.tuple #[.agg cs.toArray, .bool false]) h') : CP F_arith_made #[.int .i64 n] h K Kp := by
  refine call_arith_made ?_
  unfold arith_made
  have H := Hp.nil h []
  refine newC_hp H fun r h H => ?_
  rcases Int.lt_or_le n 1 with h1 | h1
  · refine bcase_true (by exact decide_eq_true h1) ?_
    refine stVs_all H 0 rfl (by kernel_rfl) (List.all_eq_true.1 (by kernel_rfl)) fun h' hsz H' => ?_
    refine ldAll_hp H' 0 rfl (by kernel_rfl) ?_
    exact hk _ _ (by kernel_rfl) (List.all_eq_true.1 (by kernel_rfl)) H'.hext
  · have h2 : 131072 < n := by omega
    refine bcase_false (by exact decide_eq_false (by omega)) ?_
    refine bcase_true (by exact decide_eq_true h2) ?_
    refine stVs_all H 0 rfl (by kernel_rfl) (List.all_eq_true.1 (by kernel_rfl)) fun h' hsz H' => ?_
    refine ldAll_hp H' 0 rfl (by kernel_rfl) ?_
    exact hk _ _ (by kernel_rfl) (List.all_eq_true.1 (by kernel_rfl)) H'.hext

set_option maxRecDepth 100000 in
theorem new_bad {h : Heap} {n : Int} (hn : n < 1 ∨ 131072 < n) {K : Value → Heap → Prop} {Kp : List PanicEntry → Heap → Prop}
    (hk : ∀ h', hext h h' → K (.tuple #[.pointer none, .int .i64 40]) h') : CP F_arith_New #[.int .i64 n] h K Kp := by
  refine call_arith_New ?_
  unfold arith_New
  refine made_bad hn fun cs h2 hcs hone e => ?_
  refine ⟨cs, hcs, false, rfl, ?_⟩
  have H := (Hp.nil h []).ext e
  refine newC_hp H fun t h H => ?_
  refine needs_of hcs ?_
  refine stVs_all H 0 rfl (hcs.trans (by kernel_rfl)) hone fun h' hsz H => ?_
  refine bcase_true (by rfl) ?_
  exact hk _ H.hext

theorem put_bad {h : Heap} {p q r : Nat} {s : Cod} {rest : List Value} {F : List Nat} {h0 : Heap} (H : Hp h0 F h (codL p q r s rest)) (hd : s.done = false) {ctx b : Int} (hb0 : b ≠ 0) (hb1 : b ≠ 1)
    {K : Value → Heap → Prop} {Kp : List PanicEntry → Heap → Prop} (hk : K (.int .i64 42) h) : CP F_arith_Coder_Put #[.pointer (at0 p), .int .i64 ctx, .int .i64 b] h K Kp := by
  refine call_arith_Coder_Put ?_
  unfold arith_Coder_Put
  refine ⟨fun vs h' => False, ?_, fun h u hf => hf.elim⟩
  try simp only [ptr_some_eq, add_mk, Nat.zero_add, Nat.add_zero]
  refine ldB_of (H.cell 0 rfl (app_get hR 6 (congrArg (fun b => some (Value.bool b)) hd))) ?_
  refine bcase_false (by rfl) ?_
  refine bcase_true (by simpa using hb0) ?_
  refine bcase_true (by simpa using hb1) ?_
  exact hk
theorem put_done {h : Heap} {p q r : Nat} {s : Cod} {rest : List Value} {F : List Nat} {h0 : Heap} (H : Hp h0 F h (codL p q r s rest)) (hd : s.done = true) {ctx b : Int}
    {K : Value → Heap → Prop} {Kp : List PanicEntry → Heap → Prop} (hk : K (.int .i64 43) h) : CP F_arith_Coder_Put #[.pointer (at0 p), .int .i64 ctx, .int .i64 b] h K Kp := by
  refine call_arith_Coder_Put ?_
  unfold arith_Coder_Put
  refine ⟨fun vs h' => False, ?_, fun h u hf => hf.elim⟩
  try simp only [ptr_some_eq, add_mk, Nat.zero_add, Nat.add_zero]
  refine ldB_of (H.cell 0 rfl (app_get hR 6 (congrArg (fun b => some (Value.bool b)) hd))) ?_
  refine bcase_true (by rfl) ?_
  exact hk
theorem flush_done {h : Heap} {p q r : Nat} {s : Cod} {rest : List Value} {F : List Nat} {h0 : Heap} (H : Hp h0 F h (codL p q r s rest)) (hd : s.done = true)
    {K : Value → Heap → Prop} {Kp : List PanicEntry → Heap → Prop} (hk : K (.tuple #[.slice none 0 0, .int .i64 43]) h) : CP F_arith_Coder_Flush #[.pointer (at0 p)] h K Kp := by
  refine call_arith_Coder_Flush ?_
  unfold arith_Coder_Flush
  try simp only [ptr_some_eq, add_mk, Nat.zero_add, Nat.add_zero]
  refine ldB_of (H.cell 0 rfl (app_get hR 6 (congrArg (fun b => some (Value.bool b)) hd))) ?_
  refine bcase_true (by rfl) ?_
  exact hk
theorem rput_bad {h : Heap} {A : RP} {r : Nat} {s : Cod} {rest : List Value} {F : List Nat} {h0 : Heap} (H : Hp h0 F h (refL A r s rest)) (hd : s.done = false) {ctx b : Int} (hb0 : b ≠ 0) (hb1 : b ≠ 1)
    {K : Value → Heap → Prop} {Kp : List PanicEntry → Heap → Prop} (hk : K (.int .i64 42) h) : CP F_burinref4_Coder_Put #[.pointer (at0 A.p), .int .i64 ctx, .int .i64 b] h K Kp := by
  refine call_burinref4_Coder_Put ?_
  unfold burinref4_Coder_Put
  try simp only [ptr_some_eq, add_mk, Nat.zero_add, Nat.add_zero]
  refine ldB_of (H.cell 0 rfl (i := 8) (congrArg (fun b => some (Value.bool b)) hd)) ?_
  refine bcase_false (by rfl) ?_
  refine ⟨fun vs h' => False, ?_, fun h u hf => hf.elim⟩
  refine bcase_true (by simpa using hb0) ?_
  refine bcase_true (by simpa using hb1) ?_
  exact hk

set_option maxRecDepth 100000 in
theorem over_ok {h : Heap} {o : Nat} {xs : List Nat} {rest : List Value} {F : List Nat} {h0 : Heap} (H : Hp h0 F h [⟨o, true, T_uint8, u8s xs ++ rest⟩]) (hl : xs.length < 1000000000000) {c : Nat} (hc : c = xs.length + rest.length)
    {K : Value → Heap → Prop} {Kp : List PanicEntry → Heap → Prop} (hk : ∀ e h', e.w = true → Hp h0 F h' [e] → K (.tuple #[]) h') : CP F_burinkit_Over #[.slice (at0 o) xs.length c] h K Kp := by
  refine call_burinkit_Over ?_
  unfold burinkit_Over
  subst hc
  refine ⟨fun n vs h' => ∃ (i : Nat) (ys : List Nat), i + n = xs.length ∧ vs = [.int .i64 (i : Int)] ∧ ys.length = xs.length ∧ Hp h0 F h' [⟨o, true, T_uint8, u8s ys ++ rest⟩], ⟨xs.length, 0, xs, by omega, rfl, rfl, H⟩, ?_⟩
  clear H
  rintro n h u x ⟨i, ys, hin, hx, hy, H⟩
  injection hx with hx
  injection hx with _ hx
  subst hx
  rcases Nat.lt_or_ge i xs.length with h1 | h1
  · refine bcase_true (by exact decide_eq_true (by omega)) ?_
    refine needs_of (by omega) ?_
    simp only [ptr_some_eq, add_mk, Nat.zero_add, Int.toNat_natCast, Nat.mul_one]
    refine stV_hp H 0 rfl (by rw [List.length_append, u8s_length]; omega) rfl fun h' hsz H => ?_
    refine bindI_of (((i + 1 : Nat) : Int)) (by exact i64_at _ _ (by omega) (by omega) (by omega)) ?_
    refine ⟨n - 1, by omega, i + 1, ys.set i 90, by omega, rfl, by simpa using hy, ?_⟩
    rw [u8s_set]
    rw [set_app (by rw [u8s_length]; omega)] at H
    exact H
  · refine bcase_false (by exact decide_eq_false (by omega)) ?_
    refine newC_hp H fun w h H => ?_
    rw [← hy]
    refine appC_own H 0 rfl (xs := u8s ys) (new := u8s [1, 2, 3]) (by rw [u8s_length]) (by rw [List.length_append, u8s_length]) (rdO_hp (o := 0) (n := 3 * 1) H 1 rfl (Nat.le_refl _)) rfl (u8s_cells _) (by omega) fun o' rest' h' H => ?_
    refine needs_of (by omega) ?_
    simp only [ptr_some_eq, add_mk, Nat.zero_add, Int.toNat_natCast, Nat.mul_one]
    refine stV_hp H 0 rfl (by simp only [List.length_append, u8s_length, List.length_cons, List.length_nil]; omega) rfl fun h' hsz H => ?_
    exact hk _ _ rfl (H.take 1)

end Go.Ar
