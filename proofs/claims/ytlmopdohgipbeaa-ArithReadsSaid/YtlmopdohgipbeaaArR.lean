/- ArR: the document's own coder (burinref4) in memory: its table, its side, what its functions do. The same plain coder as ArA's. -/
import Derived.Test.YtlmopdohgipbeaaArG
import Derived.Test.YtlmopdohgipbeaaBburinref4
set_option linter.unusedVariables false
set_option linter.unusedSimpArgs false
namespace Go.Ar
open Go Go.Den Go.Den.Ytlmopdohgipbeaa

def i64s (l : List Nat) : List Value := l.map fun x : Nat => .int .i64 (x : Int)
theorem i64s_length (l : List Nat) : (i64s l).length = l.length := by simp [i64s]
theorem i64s_get {l : List Nat} {i x : Nat} (h : l[i]? = some x) : (i64s l)[i]? = some (.int .i64 (x : Int)) := by
  unfold i64s; rw [List.getElem?_map, h]; rfl
theorem i64s_set (l : List Nat) (i x : Nat) : i64s (l.set i x) = (i64s l).set i (.int .i64 (x : Int)) := by simp [i64s, List.map_set]
theorem tab_get {l : List Nat} (hl : l.length = 47) {k : Nat} (hk : k < 47) : (i64s l)[k]? = some (.int .i64 ((l.getD k 0 : Nat) : Int)) := by
  refine i64s_get ?_
  rw [List.getD_eq_getElem?_getD, List.getElem?_eq_getElem (by omega)]; rfl

def grow (k : Nat) : List Value := [.int .i64 (qOf k : Nat), .int .i64 (mOf k : Nat), .int .i64 (lOf k : Nat), .bool (cOf k == 1)]
def growsN : Nat → List Value
  | 0 => []
  | n + 1 => growsN n ++ grow n
theorem growsN_length : ∀ n, (growsN n).length = 4 * n
  | 0 => rfl
  | n + 1 => by rw [growsN, List.length_append, growsN_length n]; show 4 * n + 4 = _; omega
theorem growsN_get : ∀ {n r j : Nat} {v : Value}, r < n → (grow r)[j]? = some v → (growsN n)[r * 4 + j]? = some v
  | 0, r, j, v, h, _ => by omega
  | n + 1, r, j, v, h, hv => by
    rw [growsN]
    have hj : j < 4 := (List.getElem?_eq_some_iff.1 hv).1
    rcases Nat.lt_or_ge r n with h1 | h1
    · exact get_app (growsN_get h1 hv)
    · have : r = n := by omega
      subst this
      have := app_get (growsN_length r) (R := growsN r) j hv
      rw [Nat.mul_comm] at this
      exact this

theorem c_row {k : Nat} (hk : k < 47) : (cOf k == 1) = (k == 0 || k == 6 || k == 14) := forall_lt_47 (p := fun k => (cOf k == 1) = (k == 0 || k == 6 || k == 14)) (by decide) hk

set_option maxRecDepth 100000 in
theorem row_ok {h : Heap} {k : Nat} (hk : k < 47) {K : Value → Heap → Prop} {Kp : List PanicEntry → Heap → Prop} (hK : ∀ h', hext h h' → K (.agg #[.int .i64 (qOf k : Nat), .int .i64 (mOf k : Nat), .int .i64 (lOf k : Nat), .bool (cOf k == 1)]) h') :
    CP F_burinref4_row #[.int .i64 (k : Nat)] h K Kp := by
  refine call_burinref4_row ?_
  unfold burinref4_row
  have H := Hp.nil h []
  have hc := c_row hk
  have hq : ∀ X, X = i64s qTab → X[k]? = some (.int .i64 ((qOf k : Nat) : Int)) := fun X e => e ▸ tab_get (by decide) hk
  have hm : ∀ X, X = i64s mTab → X[k]? = some (.int .i64 ((mOf k : Nat) : Int)) := fun X e => e ▸ tab_get (by decide) hk
  have hl : ∀ X, X = i64s lTab → X[k]? = some (.int .i64 ((lOf k : Nat) : Int)) := fun X e => e ▸ tab_get (by decide) hk
  refine newC_hp H fun r h H => ?_
  refine newC_hp H fun a h H => ?_
  refine newC_hp H fun b h H => ?_
  refine newC_hp H fun c h H => ?_
  refine needs_of (by omega) ?_
  refine needs_of (by omega) ?_
  refine needs_of (by omega) ?_
  simp only [Int.toNat_natCast, Nat.mul_one]
  refine bcase_of (fun h1 => ?_) fun h1 => ?_
  · have h1 : k = 0 := by simp at h1; omega
    try simp only [ptr_some_eq, add_mk, Nat.zero_add, Nat.add_zero]
    refine ldI_of (H.cell 1 rfl (hq _ (by kernel_rfl))) ?_
    refine ldI_of (H.cell 2 rfl (hm _ (by kernel_rfl))) ?_
    refine ldI_of (H.cell 3 rfl (hl _ (by kernel_rfl))) ?_
    refine stV_hp H 0 rfl (by first | exact Nat.le_of_ble_eq_true rfl | simp) rfl fun h hsz H => ?_
    refine stV_hp H 0 rfl (by first | exact Nat.le_of_ble_eq_true rfl | simp) rfl fun h hsz H => ?_
    refine stV_hp H 0 rfl (by first | exact Nat.le_of_ble_eq_true rfl | simp) rfl fun h hsz H => ?_
    refine stV_hp H 0 rfl (by first | exact Nat.le_of_ble_eq_true rfl | simp) rfl fun h hsz H => ?_
    refine ldI_of (H.cell 0 rfl rfl) ?_
    refine ldI_of (H.cell 0 rfl rfl) ?_
    refine ldI_of (H.cell 0 rfl rfl) ?_
    refine ldB_of (H.cell 0 rfl rfl) ?_
    have := hK _ H.hext
    have e : (cOf k == 1) = true := by rw [hc, h1]; rfl
    rw [e] at this
    exact this
  · have h1 : k ≠ 0 := by simp at h1; omega
    refine bcase_of (fun h2 => ?_) fun h2 => ?_
    · have h2 : k = 6 := by simp at h2; omega
      try simp only [ptr_some_eq, add_mk, Nat.zero_add, Nat.add_zero]
      refine ldI_of (H.cell 1 rfl (hq _ (by kernel_rfl))) ?_
      refine ldI_of (H.cell 2 rfl (hm _ (by kernel_rfl))) ?_
      refine ldI_of (H.cell 3 rfl (hl _ (by kernel_rfl))) ?_
      refine stV_hp H 0 rfl (by first | exact Nat.le_of_ble_eq_true rfl | simp) rfl fun h hsz H => ?_
      refine stV_hp H 0 rfl (by first | exact Nat.le_of_ble_eq_true rfl | simp) rfl fun h hsz H => ?_
      refine stV_hp H 0 rfl (by first | exact Nat.le_of_ble_eq_true rfl | simp) rfl fun h hsz H => ?_
      refine stV_hp H 0 rfl (by first | exact Nat.le_of_ble_eq_true rfl | simp) rfl fun h hsz H => ?_
      refine ldI_of (H.cell 0 rfl rfl) ?_
      refine ldI_of (H.cell 0 rfl rfl) ?_
      refine ldI_of (H.cell 0 rfl rfl) ?_
      refine ldB_of (H.cell 0 rfl rfl) ?_
      have := hK _ H.hext
      have e : (cOf k == 1) = true := by rw [hc, h2]; rfl
      rw [e] at this
      exact this
    · have h2 : k ≠ 6 := by simp at h2; omega
      try simp only [ptr_some_eq, add_mk, Nat.zero_add, Nat.add_zero]
      refine ldI_of (H.cell 1 rfl (hq _ (by kernel_rfl))) ?_
      refine ldI_of (H.cell 2 rfl (hm _ (by kernel_rfl))) ?_
      refine ldI_of (H.cell 3 rfl (hl _ (by kernel_rfl))) ?_
      refine stV_hp H 0 rfl (by first | exact Nat.le_of_ble_eq_true rfl | simp) rfl fun h hsz H => ?_
      refine stV_hp H 0 rfl (by first | exact Nat.le_of_ble_eq_true rfl | simp) rfl fun h hsz H => ?_
      refine stV_hp H 0 rfl (by first | exact Nat.le_of_ble_eq_true rfl | simp) rfl fun h hsz H => ?_
      refine stV_hp H 0 rfl (by first | exact Nat.le_of_ble_eq_true rfl | simp) rfl fun h hsz H => ?_
      refine ldI_of (H.cell 0 rfl rfl) ?_
      refine ldI_of (H.cell 0 rfl rfl) ?_
      refine ldI_of (H.cell 0 rfl rfl) ?_
      refine ldB_of (H.cell 0 rfl rfl) ?_
      have := hK _ H.hext
      have e : (((k : Nat) : Int) == 14) = (cOf k == 1) := by
        rw [hc]
        by_cases h3 : k = 14
        · subst h3; rfl
        · have e1 : (((k : Nat) : Int) == 14) = false := by simp; omega
          have e2 : (k == 0 || k == 6 || k == 14) = false := by simp [h1, h2, h3]
          rw [e1, e2]
      rw [e]
      exact this

/-! ### the table -/
theorem table_ok {h : Heap} {K : Value → Heap → Prop} {Kp : List PanicEntry → Heap → Prop} (hK : ∀ g rest c h', Hp h [] h' [⟨g, true, T_burinref4_Row, growsN 47 ++ rest⟩] → K (.slice (at0 g) 47 c) h') :
    CP F_burinref4_table #[] h K Kp := by
  refine call_burinref4_table ?_
  unfold burinref4_table
  refine ⟨fun n vs h' => ∃ i : Nat, i + n = 47 ∧ ((i = 0 ∧ vs = [.slice none 0 0, .int .i64 0] ∧ h' = h) ∨ ∃ g rest c, 1 ≤ i ∧ vs = [.slice (at0 g) i c, .int .i64 (i : Int)] ∧ (growsN i ++ rest).length = c * 4 ∧ Hp h [] h' [⟨g, true, T_burinref4_Row, growsN i ++ rest⟩]),
    ⟨47, 0, rfl, .inl ⟨rfl, rfl, rfl⟩⟩, ?_⟩
  rintro n h' u t tn tc x ⟨i, hin, ⟨rfl, hx, rfl⟩ | ⟨g, rest, c, hi1, hx, hlen, H⟩⟩
  · injection hx with hx1 hx
    injection hx1 with e1 e2 e3
    injection hx with hx
    injection hx with _ hx
    subst e1 e2 e3 hx
    refine bcase_true (by rfl) ?_
    refine row_ok (k := 0) (by decide) fun h2 e => ?_
    refine ⟨_, _, _, _, rfl, ?_⟩
    have H := (Hp.nil h' []).ext e
    refine newC_hp H fun r h H => ?_
    refine appC_newZ (sz := 4) (by_ := 32) (m := 1) (z := [.int .i64 0, .int .i64 0, .int .i64 0, .bool false]) H rfl (rdO_hp (o := 0) (n := 1 * 4) H 0 rfl (Nat.le_refl _)) rfl (Nat.le_refl _) (by decide) fun g rest c h3 hl hc e3 H => ?_
    refine bindI_of (((1 : Nat) : Int)) (by decide) ?_
    exact ⟨n - 1, by omega, 1, by omega, .inr ⟨g, rest, c, Nat.le_refl _, rfl, hl, H.pick [1] (by decide) rfl⟩⟩
  · injection hx with hx1 hx
    injection hx1 with e1 e2 e3
    injection hx with hx
    injection hx with _ hx
    subst e1 e2 e3 hx
    refine bcase_of (fun h1 => ?_) fun h1 => ?_
    · have h1 : tn < 47 := by simp at h1; omega
      refine row_ok h1 fun h2 e => ?_
      refine ⟨_, _, _, _, rfl, ?_⟩
      have H := H.ext e
      refine newC_hp H fun r h H => ?_
      refine appC_ownZ (sz := 4) (by_ := 32) (m := 1) (z := [.int .i64 0, .int .i64 0, .int .i64 0, .bool false]) H 0 rfl rfl (by rw [growsN_length]; omega) hlen (rdO_hp (o := 0) (n := 1 * 4) H 1 rfl (Nat.le_refl _)) rfl ?_ (by omega) fun g' rest' c' h3 hl hc H => ?_
      · intro v hv
        have hv : v ∈ grow tn := hv
        simp only [grow, List.mem_cons, List.not_mem_nil, or_false] at hv
        rcases hv with rfl | rfl | rfl | rfl <;> rfl
      · refine bindI_of (((tn + 1 : Nat) : Int)) (by exact i64_at _ _ (by omega) (by omega) (by omega)) ?_
        exact ⟨n - 1, by omega, tn + 1, by omega, .inr ⟨g', rest', c', by omega, rfl, hl, H.take 1⟩⟩
    · have h1 : tn = 47 := by simp at h1; omega
      subst h1
      exact hK g rest _ _ H

end Go.Ar
