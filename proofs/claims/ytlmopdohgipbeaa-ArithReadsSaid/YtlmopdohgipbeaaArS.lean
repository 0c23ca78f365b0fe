/- ArS: the document's own coder in memory: begun, Index, likely, other, New, out, renew, Put. -/
import Derived.Test.YtlmopdohgipbeaaArR
set_option linter.unusedVariables false
set_option linter.unusedSimpArgs false
namespace Go.Ar
open Go Go.Den Go.Den.Ytlmopdohgipbeaa

theorem i64s_cells (l : List Nat) : ∀ v ∈ i64s l, v.oneCell' = true := fun v hv => by
  obtain ⟨x, _, rfl⟩ := List.mem_map.1 hv; rfl
theorem i64s_zero (n : Nat) : repZ [.int .i64 0] n = i64s (List.replicate n 0) := by rw [repZ_one]; simp [i64s]
theorem set_same {α : Type} {l : List α} {k : Nat} {v : α} (h : l[k]? = some v) : l.set k v = l := by
  apply List.ext_getElem?
  intro j
  by_cases hj : k = j
  · subst hj
    rw [List.getElem?_set_self (List.getElem?_eq_some_iff.1 h).1, h]
  · rw [List.getElem?_set_ne hj]

set_option maxRecDepth 100000 in
theorem begun_ok {h : Heap} {n : Nat} (hn : n ≤ 131072) {K : Value → Heap → Prop} {Kp : List PanicEntry → Heap → Prop}
    (hK : ∀ g grest gc sq bq (sp : Ent) h', sp.w = true → Hp h [] h' [⟨g, true, T_burinref4_Row, growsN 47 ++ grest⟩, ⟨sq, true, T_int, i64s (List.replicate n 0)⟩, ⟨bq, true, T_int, i64s (List.replicate n 0)⟩, sp] →
      K (.agg #[.slice (at0 g) 47 gc, .slice (at0 sq) n n, .slice (at0 bq) n n, .int .i64 0]) h') :
    CP F_burinref4_begun #[.int .i64 (n : Nat)] h K Kp := by
  refine call_burinref4_begun ?_
  unfold burinref4_begun
  have H := Hp.nil h []
  refine newC_hp H fun r1 h H => ?_
  simp only [Int.toNat_natCast, i64s_zero]
  refine ⟨table_ok fun g grest gc h' H' => ⟨_, _, _, rfl, H'.hext, ?_⟩, ?_⟩
  · replace H := H.join H' rfl
    refine ⟨?_, ?_⟩
    · refine needs_of (by omega) ?_
      refine newC_hp H fun sq h H => ?_
      refine needs_of (by omega) ?_
      refine newC_hp H fun bq h H => ?_
      try simp only [ptr_some_eq, add_mk, Nat.zero_add, Nat.add_zero]
      refine stV_hp H 0 rfl (by first | exact Nat.le_of_ble_eq_true rfl | simp) rfl fun h hsz H => ?_
      refine stV_hp H 0 rfl (by first | exact Nat.le_of_ble_eq_true rfl | simp) rfl fun h hsz H => ?_
      refine stV_hp H 0 rfl (by first | exact Nat.le_of_ble_eq_true rfl | simp) rfl fun h hsz H => ?_
      refine stV_hp H 0 rfl (by first | exact Nat.le_of_ble_eq_true rfl | simp) rfl fun h hsz H => ?_
      refine ldS_of (H.cell 0 rfl rfl) ?_
      refine ldS_of (H.cell 0 rfl rfl) ?_
      refine ldS_of (H.cell 0 rfl rfl) ?_
      refine ldI_of (H.cell 0 rfl rfl) ?_
      exact hK g grest gc sq bq _ _ rfl (H.pick [1, 2, 3, 0] (by decide) rfl)
    · refine needs_of (by omega) ?_
      refine newC_hp H fun bq h H => ?_
      refine needs_of (by omega) ?_
      refine newC_hp H fun sq h H => ?_
      try simp only [ptr_some_eq, add_mk, Nat.zero_add, Nat.add_zero]
      refine stV_hp H 0 rfl (by first | exact Nat.le_of_ble_eq_true rfl | simp) rfl fun h hsz H => ?_
      refine stV_hp H 0 rfl (by first | exact Nat.le_of_ble_eq_true rfl | simp) rfl fun h hsz H => ?_
      refine stV_hp H 0 rfl (by first | exact Nat.le_of_ble_eq_true rfl | simp) rfl fun h hsz H => ?_
      refine stV_hp H 0 rfl (by first | exact Nat.le_of_ble_eq_true rfl | simp) rfl fun h hsz H => ?_
      refine ldS_of (H.cell 0 rfl rfl) ?_
      refine ldS_of (H.cell 0 rfl rfl) ?_
      refine ldS_of (H.cell 0 rfl rfl) ?_
      refine ldI_of (H.cell 0 rfl rfl) ?_
      exact hK g grest gc sq bq _ _ rfl (H.pick [1, 3, 2, 0] (by decide) rfl)
  · refine ⟨?_, ?_⟩
    · refine needs_of (by omega) ?_
      refine newC_hp H fun sq h H => ?_
      refine ⟨table_ok fun g grest gc h' H' => ⟨_, _, _, rfl, H'.hext, ?_⟩, ?_⟩
      · replace H := H.join H' rfl
        refine needs_of (by omega) ?_
        refine newC_hp H fun bq h H => ?_
        try simp only [ptr_some_eq, add_mk, Nat.zero_add, Nat.add_zero]
        refine stV_hp H 0 rfl (by first | exact Nat.le_of_ble_eq_true rfl | simp) rfl fun h hsz H => ?_
        refine stV_hp H 0 rfl (by first | exact Nat.le_of_ble_eq_true rfl | simp) rfl fun h hsz H => ?_
        refine stV_hp H 0 rfl (by first | exact Nat.le_of_ble_eq_true rfl | simp) rfl fun h hsz H => ?_
        refine stV_hp H 0 rfl (by first | exact Nat.le_of_ble_eq_true rfl | simp) rfl fun h hsz H => ?_
        refine ldS_of (H.cell 0 rfl rfl) ?_
        refine ldS_of (H.cell 0 rfl rfl) ?_
        refine ldS_of (H.cell 0 rfl rfl) ?_
        refine ldI_of (H.cell 0 rfl rfl) ?_
        exact hK g grest gc sq bq _ _ rfl (H.pick [2, 1, 3, 0] (by decide) rfl)
      · refine needs_of (by omega) ?_
        refine newC_hp H fun bq h H => ?_
        refine table_ok fun g grest gc h' H' => ⟨_, _, _, rfl, H'.hext, ?_⟩
        replace H := H.join H' rfl
        try simp only [ptr_some_eq, add_mk, Nat.zero_add, Nat.add_zero]
        refine stV_hp H 0 rfl (by first | exact Nat.le_of_ble_eq_true rfl | simp) rfl fun h hsz H => ?_
        refine stV_hp H 0 rfl (by first | exact Nat.le_of_ble_eq_true rfl | simp) rfl fun h hsz H => ?_
        refine stV_hp H 0 rfl (by first | exact Nat.le_of_ble_eq_true rfl | simp) rfl fun h hsz H => ?_
        refine stV_hp H 0 rfl (by first | exact Nat.le_of_ble_eq_true rfl | simp) rfl fun h hsz H => ?_
        refine ldS_of (H.cell 0 rfl rfl) ?_
        refine ldS_of (H.cell 0 rfl rfl) ?_
        refine ldS_of (H.cell 0 rfl rfl) ?_
        refine ldI_of (H.cell 0 rfl rfl) ?_
        exact hK g grest gc sq bq _ _ rfl (H.pick [3, 1, 2, 0] (by decide) rfl)
    · refine needs_of (by omega) ?_
      refine newC_hp H fun bq h H => ?_
      refine ⟨table_ok fun g grest gc h' H' => ⟨_, _, _, rfl, H'.hext, ?_⟩, ?_⟩
      · replace H := H.join H' rfl
        refine needs_of (by omega) ?_
        refine newC_hp H fun sq h H => ?_
        try simp only [ptr_some_eq, add_mk, Nat.zero_add, Nat.add_zero]
        refine stV_hp H 0 rfl (by first | exact Nat.le_of_ble_eq_true rfl | simp) rfl fun h hsz H => ?_
        refine stV_hp H 0 rfl (by first | exact Nat.le_of_ble_eq_true rfl | simp) rfl fun h hsz H => ?_
        refine stV_hp H 0 rfl (by first | exact Nat.le_of_ble_eq_true rfl | simp) rfl fun h hsz H => ?_
        refine stV_hp H 0 rfl (by first | exact Nat.le_of_ble_eq_true rfl | simp) rfl fun h hsz H => ?_
        refine ldS_of (H.cell 0 rfl rfl) ?_
        refine ldS_of (H.cell 0 rfl rfl) ?_
        refine ldS_of (H.cell 0 rfl rfl) ?_
        refine ldI_of (H.cell 0 rfl rfl) ?_
        exact hK g grest gc sq bq _ _ rfl (H.pick [2, 3, 1, 0] (by decide) rfl)
      · refine needs_of (by omega) ?_
        refine newC_hp H fun sq h H => ?_
        refine table_ok fun g grest gc h' H' => ⟨_, _, _, rfl, H'.hext, ?_⟩
        replace H := H.join H' rfl
        try simp only [ptr_some_eq, add_mk, Nat.zero_add, Nat.add_zero]
        refine stV_hp H 0 rfl (by first | exact Nat.le_of_ble_eq_true rfl | simp) rfl fun h hsz H => ?_
        refine stV_hp H 0 rfl (by first | exact Nat.le_of_ble_eq_true rfl | simp) rfl fun h hsz H => ?_
        refine stV_hp H 0 rfl (by first | exact Nat.le_of_ble_eq_true rfl | simp) rfl fun h hsz H => ?_
        refine stV_hp H 0 rfl (by first | exact Nat.le_of_ble_eq_true rfl | simp) rfl fun h hsz H => ?_
        refine ldS_of (H.cell 0 rfl rfl) ?_
        refine ldS_of (H.cell 0 rfl rfl) ?_
        refine ldS_of (H.cell 0 rfl rfl) ?_
        refine ldI_of (H.cell 0 rfl rfl) ?_
        exact hK g grest gc sq bq _ _ rfl (H.pick [3, 2, 1, 0] (by decide) rfl)

/-! ### the side: where a coder's or a decoder's row begins -/
def sideV (g gc sq bq m : Nat) (n : Nat) : List Value := [.slice (at0 g) 47 gc, .slice (at0 sq) m m, .slice (at0 bq) m m, .int .i64 (n : Nat)]
def half (st : List Nat) : List Nat := st.map (· / 2)
def low (st : List Nat) : List Nat := st.map (· % 2)
theorem half_get {st : List Nat} {k x : Nat} (h : st[k]? = some x) : (half st)[k]? = some (x / 2) := by unfold half; rw [List.getElem?_map, h]; rfl
theorem low_get {st : List Nat} {k x : Nat} (h : st[k]? = some x) : (low st)[k]? = some (x % 2) := by unfold low; rw [List.getElem?_map, h]; rfl
theorem half_set (st : List Nat) (k v : Nat) : half (st.set k v) = (half st).set k (v / 2) := List.map_set
theorem low_set (st : List Nat) (k v : Nat) : low (st.set k v) = (low st).set k (v % 2) := List.map_set

theorem index_ok {h : Heap} {p g gc sq bq m n : Nat} {F : List Nat} {h0 : Heap} {L : List Ent} (H : Hp h0 F h L) (kp : Nat) {w : Bool} {t : TypeId} {T : List Value} (hp : L[kp]? = some ⟨p, w, t, sideV g gc sq bq m n ++ T⟩) (hm : 1 ≤ m) (hm2 : m ≤ 131072)
    {ctx : Int} {K : Value → Heap → Prop} {Kp : List PanicEntry → Heap → Prop} (hk : K (.int .i64 (idx ctx m : Nat)) h) : CP F_burinref4_side_Index #[.pointer (at0 p), .int .i64 ctx] h K Kp := by
  refine call_burinref4_side_Index ?_
  unfold burinref4_side_Index
  have habs := tmod_abs ctx hm
  have e2 := Int.tmod_eq_emod (a := ctx) (b := (m : Int))
  have h1 := Int.emod_nonneg ctx (b := (m : Int)) (by omega)
  have hlt := Int.emod_lt_of_pos ctx (b := (m : Int)) (by omega)
  have e1 : ((idx ctx m : Nat) : Int) = ctx % m := by unfold idx; omega
  try simp only [ptr_some_eq, add_mk, Nat.zero_add, Nat.add_zero]
  refine ldS_of (H.cell kp hp rfl) ?_
  refine needs_of (by exact ⟨trivial, by omega⟩) ?_
  refine bindI_gen fun z ez => ?_
  subst ez
  refine bcase_of (fun h2 => ?_) fun h2 => ?_
  · have h2 : ctx.tmod m < 0 := of_decide_eq_true h2
    refine ldS_of (H.cell kp hp rfl) ?_
    refine bindI_of ((idx ctx m : Nat)) (by exact i64_at _ _ (by split at e2 <;> omega) (by omega) (by omega)) ?_
    exact hk
  · have h2 : ¬ ctx.tmod m < 0 := of_decide_eq_false h2
    have e3 : ctx.tmod m = ((idx ctx m : Nat) : Int) := by split at e2 <;> omega
    rw [e3]
    exact hk

theorem g_get {k j : Nat} {v : Value} {rest : List Value} (hk : k < 47) (h : (grow k)[j]? = some v) : (growsN 47 ++ rest)[k * 4 + j]? = some v := get_app (growsN_get hk h)

theorem slikely_ok {h : Heap} {p g gc sq bq n k x : Nat} {st : List Nat} {grest : List Value} {F : List Nat} {h0 : Heap} {L : List Ent} (H : Hp h0 F h L) (kp kg ks : Nat) {w wg : Bool} {t : TypeId} {T : List Value} (hp : L[kp]? = some ⟨p, w, t, sideV g gc sq bq st.length n ++ T⟩)
    (hg : L[kg]? = some ⟨g, wg, T_burinref4_Row, growsN 47 ++ grest⟩) (hs : L[ks]? = some ⟨sq, true, T_int, i64s (half st)⟩) (hx : st[k]? = some x) (hx94 : x < 94)
    {K : Value → Heap → Prop} {Kp : List PanicEntry → Heap → Prop} (hk : ∀ h', Hp h0 F h' (L.set ks ⟨sq, true, T_int, i64s (half (st.set k (upM x)))⟩) → K (.tuple #[]) h') :
    CP F_burinref4_side_likely #[.pointer (at0 p), .int .i64 (k : Nat)] h K Kp := by
  refine call_burinref4_side_likely ?_
  unfold burinref4_side_likely
  have hkl : k < st.length := (List.getElem?_eq_some_iff.1 hx).1
  have hr : x / 2 < 47 := by omega
  try simp only [ptr_some_eq, add_mk, Nat.zero_add, Nat.add_zero]
  refine ldS_of (H.cell kp hp rfl) (ldS_of (H.cell kp hp rfl) (ldS_of (H.cell kp hp rfl) ?_))
  refine needs_of (by omega) ?_
  try simp only [ptr_some_eq, add_mk, Nat.zero_add, Int.toNat_natCast, Nat.mul_one]
  refine ldI_of (H.cell ks hs (i64s_get (half_get hx))) ?_
  refine needs_of (by omega) ?_
  try simp only [ptr_some_eq, add_mk, Nat.zero_add, Int.toNat_natCast, Nat.mul_one]
  refine ldI_of (H.cell kg hg (g_get hr (j := 1) rfl)) ?_
  refine needs_of (by omega) ?_
  try simp only [ptr_some_eq, add_mk, Nat.zero_add]
  refine stV_hp H ks hs (by rw [i64s_length]; simpa [half] using hkl) rfl fun h' hsz H => hk _ ?_
  rw [half_set, i64s_set]
  have e : upM x / 2 = mOf (x / 2) := by unfold upM; omega
  rw [e]
  exact H

end Go.Ar
