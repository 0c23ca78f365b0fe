/- ArF: the law ArithKnown, said of memory. -/
import Derived.Test.YtlmopdohgipbeaaArE
import Derived.Test.YtlmopdohgipbeaaBlaw4ArithKnown
set_option linter.unusedVariables false
set_option linter.unusedSimpArgs false
namespace Go.Ar
open Go Go.Den Go.Den.Ytlmopdohgipbeaa

def known1 : List Nat := [0, 2, 0, 81, 0, 0, 0, 192, 3, 82, 135, 42, 170, 170, 170, 170, 130, 192, 32, 0, 252, 215, 158, 246, 191, 127, 237, 144, 79, 70, 163, 191]
def known2 : List Nat := [132, 199, 59, 252, 225, 161, 67, 4, 2, 32, 0, 0, 65, 13, 187, 134, 244, 49, 127, 255, 136, 255, 55, 71, 26, 219, 106, 223]
theorem known1_lt : ∀ x ∈ known1, x < 256 := by decide
theorem known2_lt : ∀ x ∈ known2, x < 256 := by decide
def knK (i : Nat) : Nat := 0
def knB (i : Nat) : Nat := known1.getD (i / 8) 0 / 2 ^ (7 - i % 8) % 2
set_option maxRecDepth 100000 in
theorem kn_bytes : bytesM (flushM (codN knK knB 1 256)) = known2 := by kernel_rfl
set_option maxRecDepth 100000 in
theorem kn_all : allB (fun i => Nat.beq (getD (decN knK known2 1 i) (knK i)).2 (knB i)) 256 = true := by kernel_rfl
set_option maxRecDepth 100000 in
theorem kn_states : (codN knK knB 1 256).st = (decN knK known2 1 256).st := by kernel_rfl

theorem known_ok {hB : Heap} {K : Value → Heap → Prop} {Kp : List PanicEntry → Heap → Prop} (hk : ∀ a b h', Hp hB [] h' [⟨a, true, T_uint8, u8s known1⟩, ⟨b, true, T_uint8, u8s known2⟩] → K (.tuple #[.slice (at0 a) 32 32, .slice (at0 b) 28 28]) h') :
    CP F_burinlaw4_known #[] hB K Kp := by
  refine call_burinlaw4_known ?_
  unfold burinlaw4_known
  have H := Hp.nil hB []
  refine newC_hp H fun a h H => ?_
  refine newC_hp H fun b h H => ?_
  exact hk a b _ H

theorem row_rdO {h0 h : Heap} {F : List Nat} {L : List Ent} (H : Hp h0 F h L) (k : Nat) {b : Nat} {w : Bool} {t : TypeId} {xs : List Nat} {rest : List Value} (he : L[k]? = some ⟨b, w, t, u8s xs ++ rest⟩) : rdO h (at0 b) (xs.length * 1) (u8s xs) := by
  have h2 := rdO_hp H k (o := 0) (n := xs.length * 1) he (by rw [List.length_append, u8s_length]; omega)
  rw [List.drop_zero, List.take_append_of_le_length (by rw [u8s_length]; omega), List.take_of_length_le (by rw [u8s_length]; omega)] at h2
  exact h2
theorem row_rdO' {h0 h : Heap} {F : List Nat} {L : List Ent} (H : Hp h0 F h L) (k : Nat) {b : Nat} {w : Bool} {t : TypeId} {xs : List Nat} (he : L[k]? = some ⟨b, w, t, u8s xs⟩) : rdO h (at0 b) (xs.length * 1) (u8s xs) :=
  row_rdO H k (rest := []) (by rw [he, List.append_nil])

/-- The bit that a round reads. -/
theorem kn_bit {i : Nat} (hi : i < 256) {P : Int → Prop} (hp : P ((knB i : Nat) : Int)) :
    bindI (((i : Nat) : Int).tmod (8 : Int)) fun z_19 => bindI (IntKind.i64.wrap ((7 : Int) - z_19)) fun z_20 => bindI (IntKind.u64.wrap z_20) fun z_21 => needs (0 ≤ z_21) <|
      bindI (shrI .u8 ((known1.getD (i / 8) 0 : Nat) : Int) z_21) fun z_22 => bindI (bitI .and .u8 z_22 (1 : Int)) fun z_23 => bindI (IntKind.i64.wrap z_23) P := by
  have hx : known1.getD (i / 8) 0 < 256 := by
    rw [List.getD_eq_getElem?_getD]
    cases hk : known1[i / 8]? with
    | none => simp
    | some x => exact known1_lt x (List.mem_of_getElem? hk)
  have h8 : i % 8 < 8 := Nat.mod_lt _ (by omega)
  generalize hX : known1.getD (i / 8) 0 = x at hx
  have hb : knB i = x / 2 ^ (7 - i % 8) % 2 := by unfold knB; rw [hX]
  rw [hb] at hp
  have hdiv : x / 2 ^ (7 - i % 8) < 256 := Nat.lt_of_le_of_lt (Nat.div_le_self _ _) hx
  refine bindI_of (((i % 8 : Nat) : Int)) (by exact tmod_nat i 8) ?_
  refine bindI_of (((7 - i % 8 : Nat) : Int)) (by exact i64_at _ _ (by omega) (by omega) (by omega)) ?_
  refine bindI_of (((7 - i % 8 : Nat) : Int)) (by exact u64_in _ (by omega) (by omega)) ?_
  refine needs_of (by omega) ?_
  refine bindI_of (((x / 2 ^ (7 - i % 8) : Nat) : Int)) (by exact shr_of (by show 7 - i % 8 ≤ 8; omega)) ?_
  refine bindI_of (((x / 2 ^ (7 - i % 8) % 2 : Nat) : Int)) (by exact (and8 _ 1 hdiv (by omega)).trans (by rw [Nat.and_one_is_mod])) ?_
  refine bindI_of (((x / 2 ^ (7 - i % 8) % 2 : Nat) : Int)) (by exact i64_in _ (by omega) (by omega)) ?_
  exact hp

set_option maxRecDepth 100000 in
theorem known_law {hB : Heap} {K : Value → Heap → Prop} {Kp : List PanicEntry → Heap → Prop} (hk : ∀ h', hext hB h' → K (.bool true) h') : CP F_burinlaw4_ArithKnown #[] hB K Kp := by
  refine call_burinlaw4_ArithKnown ?_
  unfold burinlaw4_ArithKnown
  refine known_ok fun ka kb h H => ?_
  refine ⟨_, _, _, _, _, _, rfl, ?_⟩
  refine new_ok (n := 1) (by decide) (by decide) fun p q r h' H' => ?_
  replace H := H.join H' rfl
  clear H'
  refine ⟨_, _, rfl, ?_⟩
  refine bcase_false (by rfl) ?_
  refine bcase_false (by rfl) ?_
  have hg : ∀ i, i < 256 → (u8s known1)[i / 8]? = some (.int .u8 ((known1.getD (i / 8) 0 : Nat) : Int)) := fun i hi => by
    have h1 : i / 8 < known1.length := by show i / 8 < 32; omega
    refine u8s_get ?_
    rw [List.getD_eq_getElem?_getD, List.getElem?_eq_getElem h1]; rfl
  refine ⟨fun n vs h' => ∃ (i r' : Nat) (rest' : List Value), i + n = 256 ∧ vs = [.int .i64 (i : Int)] ∧ Hp hB [] h' ([⟨ka, true, T_uint8, u8s known1⟩, ⟨kb, true, T_uint8, u8s known2⟩] ++ codL p q r' (codN knK knB 1 i) rest'), ⟨256, 0, r, [], rfl, rfl, H⟩, ?_⟩
  clear H
  rintro n h u x ⟨i, r', rest', hin, hx, H⟩
  injection hx with hx
  injection hx with _ hx
  subst hx
  have hok := codN_ok knK knB 1 i (by omega)
  refine bindI_of ((256 : Int)) (by decide) ?_
  refine bcase_of (fun h1 => ?_) fun h1 => ?_
  · have h1 : i < 256 := by simp at h1; omega
    refine bindI_of (((i / 8 : Nat) : Int)) (by exact i64_at _ _ (tdiv_nat i 8) (by omega) (by omega)) ?_
    refine needs_of (by omega) ?_
    simp only [ptr_some_eq, add_mk, Nat.zero_add, Int.toNat_natCast, Nat.mul_one]
    refine ldI_of (H.cell 0 rfl (hg i h1)) ?_
    refine kn_bit h1 ?_
    have hb1 : knB i ≤ 1 := Nat.le_of_lt_succ (Nat.mod_lt _ (by omega))
    refine put_ok (H.give [2, 3, 4] (by decide) rfl) hok.wf hok.done (by rw [hok.n]; omega) (by rw [hok.len]; omega) (by rw [hok.len]; omega) hb1 fun r2 rest2 h' H' => ?_
    rw [hok.len, show (0 : Int) = ((0 : Nat) : Int) from rfl, idx_nat (by omega)] at H'
    replace H := H.back [2,3,4] (by decide) rfl rfl H' (by first | rfl | simp_all [decL, decE, codL, codE, BOk]) (Nat.le_of_ble_eq_true rfl)
    clear H'
    refine ⟨_, rfl, ?_⟩
    refine bcase_false (by rfl) ?_
    refine bindI_of (((i + 1 : Nat) : Int)) (by exact i64_at _ _ (by omega) (by omega) (by omega)) ?_
    exact ⟨n - 1, by omega, i + 1, r2, rest2, by omega, rfl, H⟩
  · have h1 : i = 256 := by simp at h1; omega
    subst h1
    refine flush_ok (H.give [2, 3, 4] (by decide) rfl) hok.wf hok.done fun r2 rest2 o orest h' H' => ?_
    replace H := H.back [2,3,4] (by decide) rfl rfl H' (by first | rfl | simp_all [decL, decE, codL, codE, BOk]) (Nat.le_of_ble_eq_true rfl)
    clear H'
    rw [kn_bytes] at H ⊢
    have H : Hp hB [] h' ([⟨ka, true, T_uint8, u8s known1⟩, ⟨kb, true, T_uint8, u8s known2⟩] ++ codL p q r2 (flushM (codN knK knB 1 256)) rest2 ++ [⟨o, true, T_uint8, u8s known2 ++ orest⟩]) := H
    refine ⟨_, _, _, _, rfl, ?_⟩
    refine newDecoder_ok (n := 1) (b := known2) (by decide) (by decide) known2_lt (by decide) (row_rdO' H 1 rfl) fun p' q' e bp bc h' hbo H' => ?_
    refine ⟨_, _, rfl, ?_⟩
    refine bcase_false (by rfl) ?_
    refine bcase_false (by rfl) ?_
    refine bcase_false (by rfl) ?_
    replace H := H.join H' (by simp [decL, decE, hbo.1])
    clear H'
    refine eq_ok (xs := known2) (ys := known2) (row_rdO H 5 rfl) (row_rdO' H 1 rfl) (by decide) ?_
    refine ⟨_, rfl, ?_⟩
    refine bcase_false (by rfl) ?_
    have hst : (flushM (codN knK knB 1 256)).st = (codN knK knB 1 256).st := (flushM_keep _).1
    refine ⟨fun n vs h' => ∃ i : Nat, i + n = 256 ∧ vs = [.int .i64 (i : Int)] ∧ Hp hB [] h' ([⟨ka, true, T_uint8, u8s known1⟩, ⟨kb, true, T_uint8, u8s known2⟩] ++ codL p q r2 (flushM (codN knK knB 1 256)) rest2 ++ [⟨o, true, T_uint8, u8s known2 ++ orest⟩] ++ decL p' q' e bp bc (decN knK known2 1 i)), ⟨256, 0, rfl, rfl, H⟩, ?_⟩
    clear H
    rintro n h u x ⟨i, hin, hx, H⟩
    injection hx with hx
    injection hx with _ hx
    subst hx
    have hokd := decN_ok knK known2_lt 1 i (by omega)
    refine bindI_of ((256 : Int)) (by decide) ?_
    refine bcase_of (fun h1 => ?_) fun h1 => ?_
    · have h1 : i < 256 := by simp at h1; omega
      refine get_ok (H.give [6, 7, 8] (by decide) rfl) (by rw [hokd.b]; exact hbo) hokd.wf (by rw [hokd.b]; decide) (by rw [hokd.n]; omega) (by rw [hokd.len]; omega) (by rw [hokd.len]; omega) fun h' H' => ?_
      rw [hokd.len, show (0 : Int) = ((0 : Nat) : Int) from rfl, idx_nat (by omega)] at H' ⊢
      replace H := H.back [6, 7, 8] (by decide) rfl (by simp [decL, decE, hbo.1]) H' (by simp [decL, decE, hbo.1]) (Nat.le_of_ble_eq_true rfl)
      refine ⟨_, _, rfl, ?_⟩
      refine bcase_false (by rfl) ?_
      refine bindI_of (((i / 8 : Nat) : Int)) (by exact i64_at _ _ (tdiv_nat i 8) (by omega) (by omega)) ?_
      refine needs_of (by omega) ?_
      simp only [ptr_some_eq, add_mk, Nat.zero_add, Int.toNat_natCast, Nat.mul_one]
      refine ldI_of (H.cell 0 rfl (hg i h1)) ?_
      refine kn_bit h1 ?_
      have hgd : (getD (decN knK known2 1 i) 0).2 = knB i := Nat.eq_of_beq_eq_true (allB_of kn_all i h1)
      refine bcase_false (by rw [hgd]; simp) ?_
      refine bindI_of (((i + 1 : Nat) : Int)) (by exact i64_at _ _ (by omega) (by omega) (by omega)) ?_
      exact ⟨n - 1, by omega, i + 1, by omega, rfl, H⟩
    · have h1 : i = 256 := by simp at h1; omega
      subst h1
      simp only [ptr_some_eq, add_mk, Nat.zero_add]
      refine states_ok (st := (flushM (codN knK knB 1 256)).st) H 2 3 rfl rfl (by rw [hst, hok.len]; omega) (by rw [hst, hok.len]; omega) fun o1 or1 h H => ?_
      refine ⟨_, _, _, rfl, ?_⟩
      refine states_ok (st := (decN knK known2 1 256).st) H 6 7 rfl rfl (by rw [hokd.len]; omega) (by rw [hokd.len]; omega) fun o2 or2 h H => ?_
      refine ⟨_, _, _, rfl, ?_⟩
      refine eq_ok (xs := (flushM (codN knK knB 1 256)).st) (ys := (decN knK known2 1 256).st) (row_rdO H 9 rfl) (row_rdO H 10 rfl) (by rw [hst, hok.len]; omega) ?_
      refine ⟨_, rfl, ?_⟩
      refine bcase_true (by exact decide_eq_true (hst.trans kn_states)) ?_
      refine wakes_ok fun h' e => ?_
      exact ⟨_, rfl, hk _ (H.hext.trans e)⟩

end Go.Ar
