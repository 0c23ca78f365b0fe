/- The given statement WholeBackSaid is proved of the given program; there are no further conditions. W6: put together by wip/tools/bundle.py: WhJ WhK WhL WhM WhN WhO Mlaw5x Blaw5x WhP WhQ RdB RdC Mlaw5WholeEncodes Blaw5WholeEncodes Mlaw5WholeReads Blaw5WholeReads WhR WhT Mlaw5WholeRows Blaw5WholeRows WhU Mlaw5WholeMixed Blaw5WholeMixed WhX Mlaw5WholeBack Blaw5WholeBack WhY ArLink2 WhBack. -/
import Derived.Test.YteakipgcanafoaaW1
import Derived.Test.YteakipgcanafoaaW2
import Derived.Test.YteakipgcanafoaaW3
import Derived.Test.YteakipgcanafoaaW4
import Derived.Test.YteakipgcanafoaaW5
import Derived.Test.YteakipgcanafoaaProg
import Derived.WalkKit
import Derived.ProofKit
import Derived.OpenShut
import Derived.Carry
import Derived.Deep.SlicePairs
import Derived.Lib.SmallJoins
import Derived.Test.YteakipgcanafoaaRows

/- WhJ: one bit out of a decoder, both sides. -/
set_option linter.unusedVariables false
set_option linter.unusedSimpArgs false
namespace Go.Bm
open Go Go.Den Go.Den.Yteakipgcanafoaa
open Go.Ar (Dec BOk decL refD RP idx getD getD_ok getD_bit)

/-- One bit of a number: node and decoder, and the bit. -/
def getW (m : Nat) (base : Int) (st : Nat × Dec) : Nat × Dec := (nextW st.1 (getD st.2 (idx (base + (st.1 : Nat)) m)).2, (getD st.2 (idx (base + (st.1 : Nat)) m)).1)
def bitW (m : Nat) (base : Int) (st : Nat × Dec) : Nat := (getD st.2 (idx (base + (st.1 : Nat)) m)).2
theorem bitW_le (m : Nat) (base : Int) (st : Nat × Dec) : bitW m base st ≤ 1 := getD_bit _

variable {h0 h : Heap} {FF : List Nat} {e : Ent} {bp : Option Addr} {bc m n g : Nat} {bytes : List Nat} {base : Int} {K : Value → Heap → Prop} {Kp : List PanicEntry → Heap → Prop}
set_option maxRecDepth 100000 in
set_option maxHeartbeats 2000000 in
theorem gbit_ok {p q v : Nat} {s : Dec} (H : Hp h0 FF h (decL p q e bp bc s ++ [⟨g, true, T_whole_getter, [.pointer (at0 p), .int .i64 base, .int .i64 (v : Nat), .int .i64 0]⟩])) (hw : e.w = true) (hb : BOk e bp bytes) (hok : Go.Ar.DecOk bytes m n s) (hbl : bytes.length < 140737488351300) (hn : n < 16777216) (hm1 : 1 ≤ m) (hm2 : m ≤ 131072) (hv : v < 512) (hbase : -1 ≤ base ∧ base ≤ 131072)
    (hk : ∀ h', Go.Ar.DecOk bytes m (n + 1) (getW m base (v, s)).2 → (getW m base (v, s)).1 < 512 → Hp h0 FF h' (decL p q e bp bc (getW m base (v, s)).2 ++ [⟨g, true, T_whole_getter, [.pointer (at0 p), .int .i64 base, .int .i64 ((getW m base (v, s)).1 : Nat), .int .i64 0]⟩]) → K (.int .i64 (bitW m base (v, s) : Nat)) h') :
    CP F_whole_getter_bit #[.pointer (at0 g)] h K Kp := by
  refine call_whole_getter_bit ?_
  unfold whole_getter_bit
  refine ptr_of (a := ⟨g, 0, none⟩) ?_
  refine ldI_of (hpA H 3 rfl rfl) ?_
  refine bcase_false (by rfl) ?_
  refine ptr_of (a := ⟨g, 0, none⟩) (ptr_of (a := ⟨g, 0, none⟩) (ptr_of (a := ⟨g, 0, none⟩) ?_))
  refine ldP_of (hpA H 3 rfl rfl) (ldI_of (hpA H 3 rfl rfl) (ldI_of (hpA H 3 rfl rfl) ?_))
  refine bindI_of ((base + (v : Int))) (by exact i64_in _ (by omega) (by omega)) ?_
  refine Go.Ar.get_ok (H.give [0, 1, 2] (by simp) rfl) (by rw [hok.b]; exact hb) hok.wf (by rw [hok.b]; exact hbl) (by rw [hok.n]; exact hn) (by rw [hok.len]; exact hm1) (by rw [hok.len]; exact hm2) fun h' H' => ?_
  replace H := H.put [0, 1, 2] (by simp) rfl (by simp [decL, Go.Ar.decE, hw]) H' (by simp [decL, Go.Ar.decE, hw]) rfl
  clear H'
  rw [hok.len] at H ⊢
  have hb1 : (getD s (idx (base + (v : Nat)) m)).2 ≤ 1 := getD_bit _
  refine ⟨_, _, rfl, ?_⟩
  refine ptr_of (a := ⟨g, 0, none⟩) ?_
  refine stV_hp H 3 rfl (Nat.le_of_ble_eq_true rfl) rfl fun h hz H => ?_
  refine ptr_of (a := ⟨g, 0, none⟩) ?_
  refine ldI_of (hpA H 3 rfl rfl) ?_
  refine wnext_ok hv hb1 ?_
  refine ⟨_, rfl, ?_⟩
  refine ptr_of (a := ⟨g, 0, none⟩) ?_
  refine stV_hp H 3 rfl (Nat.le_of_ble_eq_true rfl) rfl fun h hz H => ?_
  exact hk h (getD_ok hok _ hn) (nextW_lt hv hb1) H
set_option maxRecDepth 100000 in
set_option maxHeartbeats 2000000 in
theorem tbit_ok {A : RP} {v : Nat} {s : Dec} (H : Hp h0 FF h (refD A e bp bc s ++ [⟨g, true, T_burinref5_taker, [.pointer (at0 A.p), .int .i64 base, .int .i64 (v : Nat), .int .i64 0]⟩])) (hw : e.w = true) (hb : BOk e bp bytes) (hok : Go.Ar.DecOk bytes m n s) (hbl : bytes.length < 140737488351300) (hn : n < 16777216) (hm1 : 1 ≤ m) (hm2 : m ≤ 131072) (hv : v < 512) (hbase : -1 ≤ base ∧ base ≤ 131072)
    (hk : ∀ h', Go.Ar.DecOk bytes m (n + 1) (getW m base (v, s)).2 → (getW m base (v, s)).1 < 512 → Hp h0 FF h' (refD A e bp bc (getW m base (v, s)).2 ++ [⟨g, true, T_burinref5_taker, [.pointer (at0 A.p), .int .i64 base, .int .i64 ((getW m base (v, s)).1 : Nat), .int .i64 0]⟩]) → K (.int .i64 (bitW m base (v, s) : Nat)) h') :
    CP F_burinref5_taker_bit #[.pointer (at0 g)] h K Kp := by
  refine call_burinref5_taker_bit ?_
  unfold burinref5_taker_bit
  refine ptr_of (a := ⟨g, 0, none⟩) ?_
  refine ldI_of (hpA H 5 rfl rfl) ?_
  refine bcase_false (by rfl) ?_
  refine ptr_of (a := ⟨g, 0, none⟩) (ptr_of (a := ⟨g, 0, none⟩) (ptr_of (a := ⟨g, 0, none⟩) ?_))
  refine ldP_of (hpA H 5 rfl rfl) (ldI_of (hpA H 5 rfl rfl) (ldI_of (hpA H 5 rfl rfl) ?_))
  refine bindI_of ((base + (v : Int))) (by exact i64_in _ (by omega) (by omega)) ?_
  refine Go.Ar.rget_ok (H.give [0, 1, 2, 3, 4] (by simp) rfl) (by rw [hok.b]; exact hb) hok.wf (by rw [hok.b]; exact hbl) (by rw [hok.n]; exact hn) (by rw [hok.len]; exact hm1) (by rw [hok.len]; exact hm2) fun h' H' => ?_
  replace H := H.put [0, 1, 2, 3, 4] (by simp) rfl (by simp [refD, Go.Ar.sideL, hw]) H' (by simp [refD, Go.Ar.sideL, hw]) rfl
  clear H'
  rw [hok.len] at H ⊢
  have hb1 : (getD s (idx (base + (v : Nat)) m)).2 ≤ 1 := getD_bit _
  refine ⟨_, _, rfl, ?_⟩
  refine ptr_of (a := ⟨g, 0, none⟩) ?_
  refine stV_hp H 5 rfl (Nat.le_of_ble_eq_true rfl) rfl fun h hz H => ?_
  refine ptr_of (a := ⟨g, 0, none⟩) ?_
  refine ldI_of (hpA H 5 rfl rfl) ?_
  refine rnext5_ok hv hb1 ?_
  refine ⟨_, rfl, ?_⟩
  refine ptr_of (a := ⟨g, 0, none⟩) ?_
  refine stV_hp H 5 rfl (Nat.le_of_ble_eq_true rfl) rfl fun h hz H => ?_
  exact hk h (getD_ok hok _ hn) (nextW_lt hv hb1) H
end Go.Bm

/- WhK: burinref5.Get. -/
set_option linter.unusedVariables false
set_option linter.unusedSimpArgs false
namespace Go.Bm
open Go Go.Den Go.Den.Yteakipgcanafoaa
open Go.Ar (Dec BOk decL refD RP idx getD getD_ok getD_bit)

/-- The ones of a number's head, at most five. -/
def onesW (m : Nat) (base : Int) : Nat → Nat → Nat × Dec → Nat × (Nat × Dec)
  | 0, k, st => (k, st)
  | f + 1, k, st => if bitW m base st = 1 then onesW m base f (k + 1) (getW m base st) else (k, getW m base st)
/-- The tail of a number. -/
def tailW (m : Nat) (base : Int) (st : Nat × Dec) : Nat → (Nat × Dec) × Nat
  | 0 => (st, 0)
  | i + 1 => (getW m base (tailW m base st i).1, 2 * (tailW m base st i).2 + bitW m base (tailW m base st i).1)
theorem tailW_lt (m : Nat) (base : Int) (st : Nat × Dec) (i : Nat) : (tailW m base st i).2 < 2 ^ i := by
  induction i with
  | zero => exact Nat.one_pos
  | succ i ih =>
    have := bitW_le m base (tailW m base st i).1
    show 2 * (tailW m base st i).2 + bitW m base (tailW m base st i).1 < _
    rw [Nat.pow_succ]
    omega
/-- What Get answers. -/
def ansW (sg x : Nat) : Int × Int × Bool := if x > 2147483648 then (50, 0, false) else if sg = 1 then (if x = 0 then (0, 0, true) else (0, -(x : Int), false)) else (0, (x : Int), false)
def decW (m : Nat) (base : Int) (s : Dec) : (Int × Int × Bool) × Dec :=
  (ansW (bitW m base (1, s)) ((tailW m base (onesW m base 5 0 (getW m base (1, s))).2 (wWid (onesW m base 5 0 (getW m base (1, s))).1)).2 + wFrom (onesW m base 5 0 (getW m base (1, s))).1),
    (tailW m base (onesW m base 5 0 (getW m base (1, s))).2 (wWid (onesW m base 5 0 (getW m base (1, s))).1)).1.2)
theorem wFrom_le (k : Nat) : wFrom k ≤ 4436 := by
  have : k = 0 ∨ k = 1 ∨ k = 2 ∨ k = 3 ∨ k = 4 ∨ k = 5 ∨ 6 ≤ k := by omega
  rcases this with rfl | rfl | rfl | rfl | rfl | rfl | h
  all_goals first | decide | skip
  unfold wFrom
  rw [List.getD_eq_getElem?_getD, List.getElem?_eq_none (by simpa using h)]
  decide

variable {h0 h : Heap} {FF : List Nat} {e : Ent} {bp : Option Addr} {bc m n : Nat} {bytes : List Nat} {base : Int} {K : Value → Heap → Prop} {Kp : List PanicEntry → Heap → Prop}
set_option maxRecDepth 100000 in
set_option maxHeartbeats 4000000 in
theorem rget5_ok {A : RP} {s : Dec} (HC : Hp h0 FF h (refD A e bp bc s)) (hw : e.w = true) (hb : BOk e bp bytes) (hok : Go.Ar.DecOk bytes m n s) (hbl : bytes.length < 140737488351300) (hn : n + 64 ≤ 16777216) (hm1 : 1 ≤ m) (hm2 : m ≤ 131072) (hbase : -1 ≤ base ∧ base ≤ 131072)
    (hk : ∀ h' n', n' ≤ n + 64 → Go.Ar.DecOk bytes m n' (decW m base s).2 → Hp h0 FF h' (refD A e bp bc (decW m base s).2) → K (.tuple #[.agg #[.int .i64 (decW m base s).1.2.1, .bool (decW m base s).1.2.2], .int .i64 (decW m base s).1.1]) h') :
    CP F_burinref5_Get #[.pointer (at0 A.p), .int .i64 base] h K Kp := by
  refine call_burinref5_Get ?_
  unfold burinref5_Get
  have H := Hp.nil h []
  refine newC_hp H fun r1 h H => ?_
  refine newC_hp H fun r3 h H => ?_
  refine newC_hp H fun r5 h H => ?_
  refine newC_hp H fun r7 h H => ?_
  have H := (HC.join H rfl).pick [0, 1, 2, 3, 4, 6, 5, 7, 8] (by decide) (L' := refD A e bp bc s ++ ([⟨r3, true, T_burinref5_taker, [.pointer (at0 A.p), .int .i64 base, .int .i64 (1 : Nat), .int .i64 0]⟩] ++ [⟨r1, true, T_api_Whole, [.int .i64 0, .bool false]⟩, ⟨r5, true, T_int, fromC⟩, ⟨r7, true, T_int, widC⟩])) rfl
  obtain ⟨P, hP⟩ : ∃ P : Nat × Dec → List Ent, P = fun st => refD A e bp bc st.2 ++ ([⟨r3, true, T_burinref5_taker, [.pointer (at0 A.p), .int .i64 base, .int .i64 (st.1 : Nat), .int .i64 0]⟩] ++ [⟨r1, true, T_api_Whole, [.int .i64 0, .bool false]⟩, ⟨r5, true, T_int, fromC⟩, ⟨r7, true, T_int, widC⟩]) := ⟨_, rfl⟩
  have hPd : ∀ st, P st = refD A e bp bc st.2 ++ ([⟨r3, true, T_burinref5_taker, [.pointer (at0 A.p), .int .i64 base, .int .i64 (st.1 : Nat), .int .i64 0]⟩] ++ [⟨r1, true, T_api_Whole, [.int .i64 0, .bool false]⟩, ⟨r5, true, T_int, fromC⟩, ⟨r7, true, T_int, widC⟩]) := fun st => by rw [hP]
  rw [← hPd (1, s)] at H
  have gb : ∀ {h : Heap} {st : Nat × Dec} {n : Nat} {K1 : Value → Heap → Prop}, Hp h0 FF h (P st) → Go.Ar.DecOk bytes m n st.2 → st.1 < 512 → n < 16777216 →
      (∀ h', Go.Ar.DecOk bytes m (n + 1) (getW m base st).2 → (getW m base st).1 < 512 → Hp h0 FF h' (P (getW m base st)) → K1 (.int .i64 (bitW m base st : Nat)) h') →
      CP F_burinref5_taker_bit #[.pointer (at0 r3)] h K1 Kp := fun {h st n K1} H hok hv hn hk1 => by
    obtain ⟨v, s⟩ := st
    rw [hPd] at H
    refine tbit_ok (H.give [0, 1, 2, 3, 4, 5] (by simp) rfl) hw hb hok hbl hn hm1 hm2 hv hbase fun h' hok' hv' H' => ?_
    have H := H.put [0, 1, 2, 3, 4, 5] (by simp) rfl (by simp [refD, Go.Ar.sideL, hw]) H' (by simp [refD, Go.Ar.sideL, hw]) rfl
    exact hk1 h' hok' hv' (by rw [hPd]; exact H)
  clear HC
  refine gb H hok (by show 1 < 512; omega) (by omega) fun h hok1 hv1 H => ?_
  refine ⟨_, rfl, ?_⟩
  have hsb := bitW_le m base (1, s)
  unfold decW at hk
  generalize bitW m base (1, s) = sg at hk hsb ⊢
  generalize getW m base (1, s) = st1 at hk hok1 hv1 H ⊢
  refine ⟨fun vs h' => ∃ n', n' ≤ n + 6 ∧ vs = [.int .i64 ((onesW m base 5 0 st1).1 : Nat)] ∧ (onesW m base 5 0 st1).1 ≤ 5 ∧ Go.Ar.DecOk bytes m n' (onesW m base 5 0 st1).2.2 ∧ (onesW m base 5 0 st1).2.1 < 512 ∧ Hp h0 FF h' (P (onesW m base 5 0 st1).2), ?_, ?_⟩
  · refine ⟨fun f vs h' => ∃ (k : Nat) (st : Nat × Dec), f + k = 5 ∧ vs = [.int .i64 (k : Nat)] ∧ onesW m base f k st = onesW m base 5 0 st1 ∧ Go.Ar.DecOk bytes m (n + 1 + k) st.2 ∧ st.1 < 512 ∧ Hp h0 FF h' (P st), ⟨5, 0, st1, rfl, rfl, rfl, hok1, hv1, H⟩, ?_⟩
    rintro f h u x ⟨k, st, hfk, hxx, hon, hok2, hv2, H⟩
    injection hxx with hx1 hxx
    injection hx1 with _ hx1
    subst hx1
    refine bcase_dec (fun h4 => ?_) fun h4 => ?_
    · obtain ⟨f, rfl⟩ : ∃ g, f = g + 1 := ⟨f - 1, by omega⟩
      refine gb H hok2 hv2 (by omega) fun h hok3 hv3 H => ?_
      refine ⟨_, rfl, ?_⟩
      have hon : (if bitW m base st = 1 then onesW m base f (k + 1) (getW m base st) else (k, getW m base st)) = onesW m base 5 0 st1 := hon
      refine bcase_eq (fun h5 => ?_) fun h5 => ?_
      · rw [if_pos (by omega)] at hon
        refine bindI_of (((k + 1 : Nat) : Int)) (by exact i64_at _ _ (by omega) (by omega) (by omega)) ?_
        exact ⟨f, by omega, k + 1, getW m base st, by omega, rfl, hon, hok3, hv3, H⟩
      · rw [if_neg (by omega)] at hon
        rw [← hon]
        exact ⟨n + 1 + k + 1, by omega, rfl, by show k ≤ 5; omega, hok3, hv3, H⟩
    · obtain rfl : f = 0 := by omega
      have hon : (k, st) = onesW m base 5 0 st1 := hon
      rw [← hon]
      exact ⟨n + 1 + k, by omega, rfl, by show k ≤ 5; omega, hok2, hv2, H⟩
  rintro h u x ⟨n1, hn1, hxx, hk5, hok2, hv2, H⟩
  injection hxx with hx1 hxx
  injection hx1 with _ hx1
  subst hx1
  generalize (onesW m base 5 0 st1).1 = kk at hk hk5 ⊢
  generalize (onesW m base 5 0 st1).2 = st2 at hk hok2 hv2 H ⊢
  have hwl := wWid_le kk
  have hfl := wFrom_le kk
  refine ⟨fun f vs h' => ∃ i : Nat, f + i = wWid kk ∧ vs = [.int .i64 ((tailW m base st2 i).2 : Nat), .int .i64 (i : Nat)] ∧ Go.Ar.DecOk bytes m (n1 + i) (tailW m base st2 i).1.2 ∧ (tailW m base st2 i).1.1 < 512 ∧ Hp h0 FF h' (P (tailW m base st2 i).1), ⟨wWid kk, 0, by omega, rfl, hok2, hv2, H⟩, ?_⟩
  rintro f h u x y ⟨i, hfi, hxx, hok3, hv3, H⟩
  injection hxx with hx1 hxx
  injection hxx with hx2 hxx
  injection hx1 with _ hx1
  injection hx2 with _ hx2
  subst hx1 hx2
  have htl := tailW_lt m base st2 i
  have hpw : 2 ^ i ≤ 2 ^ 32 := Nat.pow_le_pow_right (by omega) (by omega)
  have hp32 : (2 : Nat) ^ 32 = 4294967296 := rfl
  have hbw := bitW_le m base (tailW m base st2 i).1
  refine needs_of (by omega) ?_
  rw [Int.toNat_natCast]
  refine ldI_of (hpA (by rw [hPd] at H; exact H) 8 rfl (fromC_get hk5).2) ?_
  refine bcase_dec (fun h4 => ?_) fun h4 => ?_
  · refine bindI_of (((2 * (tailW m base st2 i).2 : Nat) : Int)) (by exact i64_at _ _ (by omega) (by omega) (by omega)) ?_
    refine gb H hok3 hv3 (by omega) fun h hok4 hv4 H => ?_
    refine ⟨_, rfl, ?_⟩
    refine bindI_of (((2 * (tailW m base st2 i).2 + bitW m base (tailW m base st2 i).1 : Nat) : Int)) (by exact i64_at _ _ (by omega) (by omega) (by omega)) ?_
    refine bindI_of (((i + 1 : Nat) : Int)) (by exact i64_at _ _ (by omega) (by omega) (by omega)) ?_
    exact ⟨f - 1, by omega, i + 1, by omega, rfl, hok4, hv4, H⟩
  obtain rfl : i = wWid kk := by omega
  generalize tailW m base st2 (wWid kk) = T at hk hok3 hv3 H htl hbw ⊢
  obtain ⟨st3, t⟩ := T
  have hk := hk
  simp only at hk hok3 hv3 H htl
  refine needs_of (by omega) ?_
  refine ldI_of (hpA (by rw [hPd] at H; exact H) 7 rfl (fromC_get hk5).1) ?_
  refine bindI_of (((t + wFrom kk : Nat) : Int)) (by exact i64_at _ _ (by omega) (by omega) (by omega)) ?_
  rw [hPd] at H
  refine ldI_of (hpA H 5 rfl rfl) ?_
  refine bcase_false (by rfl) ?_
  have hkk := fun h' => hk h' (n1 + wWid kk) (by omega) hok3
  clear hk
  generalize t + wFrom kk = X at hkk ⊢
  refine bcase_dec (fun h5 => ?_) fun h5 => ?_
  · refine stV_hp H 6 rfl (Nat.le_of_ble_eq_true rfl) rfl fun h hz H => ?_
    refine stV_hp H 6 rfl (Nat.le_of_ble_eq_true rfl) rfl fun h hz H => ?_
    refine ldI_of (hpA H 6 rfl rfl) (ldB_of (hpA H 6 rfl rfl) ?_)
    unfold ansW at hkk
    rw [if_pos (by omega)] at hkk
    exact hkk _ (Hp.pre H)
  unfold ansW at hkk
  rw [if_neg (by omega)] at hkk
  refine ⟨fun vs h' => vs = [.bool (decide (sg = 1 ∧ X = 0))] ∧ h' = h, ?_, ?_⟩
  · refine bcase_eq (fun h6 => ?_) fun h6 => ?_
    · refine ⟨?_, rfl⟩
      have : ((X : Int) == 0) = decide (sg = 1 ∧ X = 0) := by
        by_cases hx : X = 0
        · subst hx; simp; omega
        · simp [hx]
      rw [this]
    · refine ⟨?_, rfl⟩
      rw [decide_eq_false (fun hh => h6 (by omega))]
  rintro h' u x ⟨hxx, rfl⟩
  injection hxx with hx1 hxx
  injection hx1 with hx1
  subst hx1
  refine bcase_dec (fun h6 => ?_) fun h6 => ?_
  · refine stV_hp H 6 rfl (Nat.le_of_ble_eq_true rfl) rfl fun h hz H => ?_
    refine stV_hp H 6 rfl (Nat.le_of_ble_eq_true rfl) rfl fun h hz H => ?_
    refine ldI_of (hpA H 6 rfl rfl) (ldB_of (hpA H 6 rfl rfl) ?_)
    rw [if_pos h6.1, if_pos h6.2] at hkk
    exact hkk _ (Hp.pre H)
  refine bcase_eq (fun h7 => ?_) fun h7 => ?_
  · refine bindI_of ((-(X : Int))) (by (rw [Int.zero_sub]; exact i64_in _ (by omega) (by omega))) ?_
    refine stV_hp H 6 rfl (Nat.le_of_ble_eq_true rfl) rfl fun h hz H => ?_
    refine stV_hp H 6 rfl (Nat.le_of_ble_eq_true rfl) rfl fun h hz H => ?_
    refine ldI_of (hpA H 6 rfl rfl) (ldB_of (hpA H 6 rfl rfl) ?_)
    rw [if_pos (by omega), if_neg (by omega)] at hkk
    exact hkk _ (Hp.pre H)
  · refine stV_hp H 6 rfl (Nat.le_of_ble_eq_true rfl) rfl fun h hz H => ?_
    refine stV_hp H 6 rfl (Nat.le_of_ble_eq_true rfl) rfl fun h hz H => ?_
    refine ldI_of (hpA H 6 rfl rfl) (ldB_of (hpA H 6 rfl rfl) ?_)
    rw [if_neg (by omega)] at hkk
    exact hkk _ (Hp.pre H)
end Go.Bm

/- WhL: whole.Get. -/
set_option linter.unusedVariables false
set_option linter.unusedSimpArgs false
namespace Go.Bm
open Go Go.Den Go.Den.Yteakipgcanafoaa
open Go.Ar (Dec BOk decL refD RP idx getD getD_ok getD_bit)

variable {h0 h : Heap} {FF : List Nat} {e : Ent} {bp : Option Addr} {bc m n : Nat} {bytes : List Nat} {base : Int} {K : Value → Heap → Prop} {Kp : List PanicEntry → Heap → Prop}
set_option maxRecDepth 100000 in
set_option maxHeartbeats 4000000 in
theorem wget_ok {p q : Nat} {s : Dec} (HC : Hp h0 FF h (decL p q e bp bc s)) (hw : e.w = true) (hb : BOk e bp bytes) (hok : Go.Ar.DecOk bytes m n s) (hbl : bytes.length < 140737488351300) (hn : n + 64 ≤ 16777216) (hm1 : 1 ≤ m) (hm2 : m ≤ 131072) (hfit : 0 ≤ base ∧ base + (512 : Nat) ≤ (m : Nat))
    (hk : ∀ h' n', n' ≤ n + 64 → Go.Ar.DecOk bytes m n' (decW m base s).2 → Hp h0 FF h' (decL p q e bp bc (decW m base s).2) → K (.tuple #[.agg #[.int .i64 (decW m base s).1.2.1, .bool (decW m base s).1.2.2], .int .i64 (decW m base s).1.1]) h') :
    CP F_whole_Get #[.pointer (at0 p), .int .i64 base] h K Kp := by
  refine call_whole_Get ?_
  unfold whole_Get
  have H := Hp.nil h []
  refine newC_hp H fun r1 h H => ?_
  refine bcase_false (by rfl) ?_
  refine ptr_of (a := ⟨p, 0, none⟩) ?_
  refine Go.Ar.contexts_ok (n := s.st.length) (HC.ext H.hext) 0 rfl ?_
  refine ⟨_, rfl, ?_⟩
  rw [hok.len]
  refine wfits_ok (many := 512) (all := m) (by decide) (by omega) fun bf hbf => ?_
  refine ⟨_, rfl, ?_⟩
  refine bcase_not (fun h2 => absurd (hbf.2 hfit) (by rw [h2]; decide)) fun h2 => ?_
  have hbase : -1 ≤ base ∧ base ≤ 131072 := by omega
  refine newC_hp H fun r3 h H => ?_
  have H := (HC.join H rfl).pick [0, 1, 2, 4, 3] (by decide) (L' := decL p q e bp bc s ++ ([⟨r3, true, T_whole_getter, [.pointer (at0 p), .int .i64 base, .int .i64 (1 : Nat), .int .i64 0]⟩] ++ [⟨r1, true, T_api_Whole, [.int .i64 0, .bool false]⟩])) rfl
  obtain ⟨Q, hQ⟩ : ∃ Q : List Ent → Nat × Dec → List Ent, Q = fun Y st => decL p q e bp bc st.2 ++ ([⟨r3, true, T_whole_getter, [.pointer (at0 p), .int .i64 base, .int .i64 (st.1 : Nat), .int .i64 0]⟩] ++ Y) := ⟨_, rfl⟩
  have hQd : ∀ Y st, Q Y st = decL p q e bp bc st.2 ++ ([⟨r3, true, T_whole_getter, [.pointer (at0 p), .int .i64 base, .int .i64 (st.1 : Nat), .int .i64 0]⟩] ++ Y) := fun Y st => by rw [hQ]
  rw [← hQd _ (1, s)] at H
  have gb : ∀ {Y : List Ent} {h : Heap} {st : Nat × Dec} {n : Nat} {K1 : Value → Heap → Prop}, Hp h0 FF h (Q Y st) → Go.Ar.DecOk bytes m n st.2 → st.1 < 512 → n < 16777216 →
      (∀ h', Go.Ar.DecOk bytes m (n + 1) (getW m base st).2 → (getW m base st).1 < 512 → Hp h0 FF h' (Q Y (getW m base st)) → K1 (.int .i64 (bitW m base st : Nat)) h') →
      CP F_whole_getter_bit #[.pointer (at0 r3)] h K1 Kp := fun {Y h st n K1} H hok hv hn hk1 => by
    obtain ⟨v, s⟩ := st
    rw [hQd] at H
    refine gbit_ok (H.give [0, 1, 2, 3] (by simp) rfl) hw hb hok hbl hn hm1 hm2 hv hbase fun h' hok' hv' H' => ?_
    have H := H.put [0, 1, 2, 3] (by simp) rfl (by simp [decL, Go.Ar.decE, hw]) H' (by simp [decL, Go.Ar.decE, hw]) rfl
    exact hk1 h' hok' hv' (by rw [hQd]; exact H)
  clear HC
  refine gb H hok (by show 1 < 512; omega) (by omega) fun h hok1 hv1 H => ?_
  refine ⟨_, rfl, ?_⟩
  have hsb := bitW_le m base (1, s)
  unfold decW at hk
  generalize bitW m base (1, s) = sg at hk hsb ⊢
  generalize getW m base (1, s) = st1 at hk hok1 hv1 H ⊢
  refine wsizes_ok fun rz h H' => ?_
  rw [hQd] at H
  have H := H.join H' rfl
  clear H'
  refine ⟨_, _, _, rfl, ?_⟩
  obtain ⟨P, hP⟩ : ∃ P : Nat × Dec → List Ent, P = Q [⟨r1, true, T_api_Whole, [.int .i64 0, .bool false]⟩, ⟨rz, true, T_whole_size, sizeC⟩] := ⟨_, rfl⟩
  have hPd : ∀ st, P st = decL p q e bp bc st.2 ++ ([⟨r3, true, T_whole_getter, [.pointer (at0 p), .int .i64 base, .int .i64 (st.1 : Nat), .int .i64 0]⟩] ++ [⟨r1, true, T_api_Whole, [.int .i64 0, .bool false]⟩, ⟨rz, true, T_whole_size, sizeC⟩]) := fun st => by rw [hP, hQd]
  have H : Hp h0 FF h (P st1) := by rw [hPd]; exact H
  replace gb : ∀ {h : Heap} {st : Nat × Dec} {n : Nat} {K1 : Value → Heap → Prop}, Hp h0 FF h (P st) → Go.Ar.DecOk bytes m n st.2 → st.1 < 512 → n < 16777216 →
      (∀ h', Go.Ar.DecOk bytes m (n + 1) (getW m base st).2 → (getW m base st).1 < 512 → Hp h0 FF h' (P (getW m base st)) → K1 (.int .i64 (bitW m base st : Nat)) h') →
      CP F_whole_getter_bit #[.pointer (at0 r3)] h K1 Kp := fun H hok hv hn hk1 => by rw [hP] at H hk1; exact gb H hok hv hn hk1
  refine ⟨fun vs h' => ∃ n', n' ≤ n + 6 ∧ vs = [.int .i64 ((onesW m base 5 0 st1).1 : Nat)] ∧ (onesW m base 5 0 st1).1 ≤ 5 ∧ Go.Ar.DecOk bytes m n' (onesW m base 5 0 st1).2.2 ∧ (onesW m base 5 0 st1).2.1 < 512 ∧ Hp h0 FF h' (P (onesW m base 5 0 st1).2), ?_, ?_⟩
  · refine ⟨fun f vs h' => ∃ (k : Nat) (st : Nat × Dec), f + k = 5 ∧ vs = [.int .i64 (k : Nat)] ∧ onesW m base f k st = onesW m base 5 0 st1 ∧ Go.Ar.DecOk bytes m (n + 1 + k) st.2 ∧ st.1 < 512 ∧ Hp h0 FF h' (P st), ⟨5, 0, st1, rfl, rfl, rfl, hok1, hv1, H⟩, ?_⟩
    rintro f h u x ⟨k, st, hfk, hxx, hon, hok2, hv2, H⟩
    injection hxx with hx1 hxx
    injection hx1 with _ hx1
    subst hx1
    refine bindI_of ((5 : Int)) (by rfl) ?_
    refine bcase_dec (fun h4 => ?_) fun h4 => ?_
    · obtain ⟨f, rfl⟩ : ∃ g, f = g + 1 := ⟨f - 1, by omega⟩
      refine gb H hok2 hv2 (by omega) fun h hok3 hv3 H => ?_
      refine ⟨_, rfl, ?_⟩
      have hon : (if bitW m base st = 1 then onesW m base f (k + 1) (getW m base st) else (k, getW m base st)) = onesW m base 5 0 st1 := hon
      refine bcase_eq (fun h5 => ?_) fun h5 => ?_
      · rw [if_pos (by omega)] at hon
        refine bindI_of (((k + 1 : Nat) : Int)) (by exact i64_at _ _ (by omega) (by omega) (by omega)) ?_
        exact ⟨f, by omega, k + 1, getW m base st, by omega, rfl, hon, hok3, hv3, H⟩
      · rw [if_neg (by omega)] at hon
        rw [← hon]
        exact ⟨n + 1 + k + 1, by omega, rfl, by show k ≤ 5; omega, hok3, hv3, H⟩
    · obtain rfl : f = 0 := by omega
      have hon : (k, st) = onesW m base 5 0 st1 := hon
      rw [← hon]
      exact ⟨n + 1 + k, by omega, rfl, by show k ≤ 5; omega, hok2, hv2, H⟩
  rintro h u x ⟨n1, hn1, hxx, hk5, hok2, hv2, H⟩
  injection hxx with hx1 hxx
  injection hx1 with _ hx1
  subst hx1
  generalize (onesW m base 5 0 st1).1 = kk at hk hk5 ⊢
  generalize (onesW m base 5 0 st1).2 = st2 at hk hok2 hv2 H ⊢
  have hwl := wWid_le kk
  have hfl := wFrom_le kk
  refine needs_of (by omega) (ptr_of (a := ⟨rz, 0, none⟩) ?_)
  have hadd : ((⟨rz, 0, none⟩ : Addr).add (kk * 2)) = ⟨rz, 0 + kk * 2, none⟩ := by rw [add_mk]
  rw [Int.toNat_natCast, hadd]
  refine ldI_of (hpA (o := 0 + kk * 2) (i := 1) (by rw [hPd] at H; exact H) 5 rfl (by rw [Nat.zero_add]; exact (sizeC_get hk5).2)) ?_
  refine ⟨fun f vs h' => ∃ i : Nat, f + i = wWid kk ∧ vs = [.int .i64 ((tailW m base st2 i).2 : Nat), .int .i64 (i : Nat)] ∧ Go.Ar.DecOk bytes m (n1 + i) (tailW m base st2 i).1.2 ∧ (tailW m base st2 i).1.1 < 512 ∧ Hp h0 FF h' (P (tailW m base st2 i).1), ⟨wWid kk, 0, by omega, rfl, hok2, hv2, H⟩, ?_⟩
  rintro f h u x y ⟨i, hfi, hxx, hok3, hv3, H⟩
  injection hxx with hx1 hxx
  injection hxx with hx2 hxx
  injection hx1 with _ hx1
  injection hx2 with _ hx2
  subst hx1 hx2
  have htl := tailW_lt m base st2 i
  have hpw : 2 ^ i ≤ 2 ^ 32 := Nat.pow_le_pow_right (by omega) (by omega)
  have hp32 : (2 : Nat) ^ 32 = 4294967296 := rfl
  have hbw := bitW_le m base (tailW m base st2 i).1
  refine bcase_dec (fun h4 => ?_) fun h4 => ?_
  · refine bindI_of (((2 * (tailW m base st2 i).2 : Nat) : Int)) (by exact i64_at _ _ (by omega) (by omega) (by omega)) ?_
    refine gb H hok3 hv3 (by omega) fun h hok4 hv4 H => ?_
    refine ⟨_, rfl, ?_⟩
    refine bindI_of (((2 * (tailW m base st2 i).2 + bitW m base (tailW m base st2 i).1 : Nat) : Int)) (by exact i64_at _ _ (by omega) (by omega) (by omega)) ?_
    refine bindI_of (((i + 1 : Nat) : Int)) (by exact i64_at _ _ (by omega) (by omega) (by omega)) ?_
    exact ⟨f - 1, by omega, i + 1, by omega, rfl, hok4, hv4, H⟩
  obtain rfl : i = wWid kk := by omega
  generalize tailW m base st2 (wWid kk) = T at hk hok3 hv3 H htl hbw ⊢
  obtain ⟨st3, t⟩ := T
  have hk := hk
  simp only at hk hok3 hv3 H htl
  refine needs_of (by omega) (ptr_of (a := ⟨rz, 0, none⟩) ?_)
  rw [hadd]
  refine ldI_of (hpA (o := 0 + kk * 2) (i := 0) (by rw [hPd] at H; exact H) 5 rfl (by rw [Nat.zero_add]; exact (sizeC_get hk5).1)) ?_
  refine bindI_of (((wFrom kk : Nat) : Int)) (by exact i64_in _ (by omega) (by omega)) ?_
  refine bindI_of (((t + wFrom kk : Nat) : Int)) (by exact i64_at _ _ (by omega) (by omega) (by omega)) ?_
  rw [hPd] at H
  refine ldI_of (hpA H 3 rfl rfl) ?_
  refine bcase_false (by rfl) ?_
  have hkk := fun h' => hk h' (n1 + wWid kk) (by omega) hok3
  clear hk
  generalize t + wFrom kk = X at hkk ⊢
  refine bcase_dec (fun h5 => ?_) fun h5 => ?_
  · refine stV_hp H 4 rfl (Nat.le_of_ble_eq_true rfl) rfl fun h hz H => ?_
    refine stV_hp H 4 rfl (Nat.le_of_ble_eq_true rfl) rfl fun h hz H => ?_
    refine ldI_of (hpA H 4 rfl rfl) (ldB_of (hpA H 4 rfl rfl) ?_)
    unfold ansW at hkk
    rw [if_pos (by omega)] at hkk
    exact hkk _ (Hp.pre H)
  unfold ansW at hkk
  rw [if_neg (by omega)] at hkk
  refine ⟨fun vs h' => vs = [.bool (decide (sg = 1 ∧ X = 0))] ∧ h' = h, ?_, ?_⟩
  · refine bcase_eq (fun h6 => ?_) fun h6 => ?_
    · refine ⟨?_, rfl⟩
      have : ((X : Int) == 0) = decide (sg = 1 ∧ X = 0) := by
        by_cases hx : X = 0
        · subst hx; simp; omega
        · simp [hx]
      rw [this]
    · refine ⟨?_, rfl⟩
      rw [decide_eq_false (fun hh => h6 (by omega))]
  rintro h' u x ⟨hxx, rfl⟩
  injection hxx with hx1 hxx
  injection hx1 with hx1
  subst hx1
  refine bcase_dec (fun h6 => ?_) fun h6 => ?_
  · refine stV_hp H 4 rfl (Nat.le_of_ble_eq_true rfl) rfl fun h hz H => ?_
    refine stV_hp H 4 rfl (Nat.le_of_ble_eq_true rfl) rfl fun h hz H => ?_
    refine ldI_of (hpA H 4 rfl rfl) (ldB_of (hpA H 4 rfl rfl) ?_)
    rw [if_pos h6.1, if_pos h6.2] at hkk
    exact hkk _ (Hp.pre H)
  refine bcase_eq (fun h7 => ?_) fun h7 => ?_
  · refine bindI_of ((-(X : Int))) (by (rw [Int.zero_sub]; exact i64_in _ (by omega) (by omega))) ?_
    refine stV_hp H 4 rfl (Nat.le_of_ble_eq_true rfl) rfl fun h hz H => ?_
    refine stV_hp H 4 rfl (Nat.le_of_ble_eq_true rfl) rfl fun h hz H => ?_
    refine ldI_of (hpA H 4 rfl rfl) (ldB_of (hpA H 4 rfl rfl) ?_)
    rw [if_pos (by omega), if_neg (by omega)] at hkk
    exact hkk _ (Hp.pre H)
  · refine stV_hp H 4 rfl (Nat.le_of_ble_eq_true rfl) rfl fun h hz H => ?_
    refine stV_hp H 4 rfl (Nat.le_of_ble_eq_true rfl) rfl fun h hz H => ?_
    refine ldI_of (hpA H 4 rfl rfl) (ldB_of (hpA H 4 rfl rfl) ?_)
    rw [if_neg (by omega)] at hkk
    exact hkk _ (Hp.pre H)
end Go.Bm

/- WhM: burinref5.Decode. -/
set_option linter.unusedVariables false
set_option linter.unusedSimpArgs false
namespace Go.Bm
open Go Go.Den Go.Den.Yteakipgcanafoaa
open Go.Ar (Dec BOk decL refD RP idx newD newD_ok u8s)

/-- Decoder and numbers after so many. -/
def seqW (s : Dec) : Nat → Dec × List (Int × Bool)
  | 0 => (s, [])
  | i + 1 => ((decW 512 0 (seqW s i).1).2, (seqW s i).2 ++ [((decW 512 0 (seqW s i).1).1.2.1, (decW 512 0 (seqW s i).1).1.2.2)])
theorem seqW_len (s : Dec) (i : Nat) : (seqW s i).2.length = i := by
  induction i with
  | zero => rfl
  | succ i ih => show (_ ++ [_]).length = _; rw [List.length_append, ih]; rfl
theorem ansW_err (sg x : Nat) : (ansW sg x).1 = 0 ∨ (ansW sg x).1 = 50 := by
  unfold ansW
  (repeat' split) <;> simp
/-- The error of the number at a place. -/
def errW (s : Dec) (i : Nat) : Int := (decW 512 0 (seqW s i).1).1.1
/-- What Decode answers. -/
def DecWh (b : List Nat) (n : Int) (e : Int) (l : List (Int × Bool)) : Prop :=
  ¬ (0 ≤ n ∧ n ≤ 65536) ∧ e = 50 ∧ l = [] ∨ (0 ≤ n ∧ n ≤ 65536) ∧
    ((∃ i : Nat, (i : Int) < n ∧ (∀ j, j < i → errW (newD b 512) j = 0) ∧ errW (newD b 512) i ≠ 0 ∧ e = errW (newD b 512) i ∧ l = []) ∨
     (∀ j : Nat, (j : Int) < n → errW (newD b 512) j = 0) ∧ e = 0 ∧ l = (seqW (newD b 512) n.toNat).2)
/-- Both sides answer alike. -/
theorem DecWh.same {b : List Nat} {n e e' : Int} {l l' : List (Int × Bool)} (h : DecWh b n e l) (h' : DecWh b n e' l') : e = e' ∧ l = l' := by
  rcases h with ⟨h1, rfl, rfl⟩ | ⟨h1, h⟩
  · rcases h' with ⟨_, rfl, rfl⟩ | ⟨h2, _⟩
    · exact ⟨rfl, rfl⟩
    · exact absurd h2 h1
  rcases h' with ⟨h2, _⟩ | ⟨_, h'⟩
  · exact absurd h1 h2
  rcases h with ⟨i, hi, hl, hne, rfl, rfl⟩ | ⟨ha, rfl, rfl⟩
  · rcases h' with ⟨j, hj, hl', hne', rfl, rfl⟩ | ⟨ha, _⟩
    · have : i = j := by
        rcases Nat.lt_trichotomy i j with h | h | h
        · exact absurd (hl' i h) hne
        · exact h
        · exact absurd (hl j h) hne'
      rw [this]
      exact ⟨rfl, rfl⟩
    · exact absurd (ha i hi) hne
  · rcases h' with ⟨j, hj, _, hne', _⟩ | ⟨_, rfl, rfl⟩
    · exact absurd (ha j hj) hne'
    · exact ⟨rfl, rfl⟩
end Go.Bm

/- WhN: burinref5.Decode. -/
set_option linter.unusedVariables false
set_option linter.unusedSimpArgs false
namespace Go.Bm
open Go Go.Den Go.Den.Yteakipgcanafoaa
open Go.Ar (Dec BOk decL refD RP idx newD newD_ok u8s)

variable {hB : Heap} {q1 : Option Addr} {c1 : Nat} {b : List Nat} {n : Int} {K : Value → Heap → Prop} {Kp : List PanicEntry → Heap → Prop}
set_option maxRecDepth 100000 in
set_option maxHeartbeats 4000000 in
theorem rdec5_ok (hr : rdO hB q1 (b.length * 1) (u8s b)) (hb8 : ∀ x ∈ b, x < 256) (hbl : b.length < 140737488351300)
    (hk : ∀ e l D qo c h', DecWh b n e l → Slot T_api_Whole 2 D qo l.length c (whC l) → Hp hB [] h' D → K (.tuple #[.slice qo l.length c, .int .i64 e]) h') :
    CP F_burinref5_Decode #[.slice q1 b.length c1, .int .i64 n] hB K Kp := by
  refine call_burinref5_Decode ?_
  unfold burinref5_Decode
  refine bcase_dec (fun h1 => hk 50 [] [] none 0 hB (.inl ⟨by omega, rfl, rfl⟩) (Slot.nil _ _) (Hp.nil hB [])) fun h1 => ?_
  refine bcase_dec (fun h2 => hk 50 [] [] none 0 hB (.inl ⟨by omega, rfl, rfl⟩) (Slot.nil _ _) (Hp.nil hB [])) fun h2 => ?_
  have hn : 0 ≤ n ∧ n ≤ 65536 := ⟨by omega, by omega⟩
  refine Go.Ar.rnewD_ok (n := 512) (by decide) hb8 hbl hr fun A e bp bc h hbo H => ?_
  refine ⟨_, rfl, ?_⟩
  have hw : e.w = true := hbo.1
  have hok0 := newD_ok hb8 512
  refine ⟨fun f vs h' => ∃ (i n' c : Nat) (a : Option Addr) (D : List Ent), i + f = n.toNat ∧ vs = [.slice a i c, .int .i64 (i : Nat)] ∧ (∀ j, j < i → errW (newD b 512) j = 0) ∧ n' ≤ 64 * i ∧ Go.Ar.DecOk b 512 n' (seqW (newD b 512) i).1 ∧ Slot T_api_Whole 2 D a i c (whC (seqW (newD b 512) i).2) ∧ Hp hB [] h' (refD A e bp bc (seqW (newD b 512) i).1 ++ D),
    ⟨n.toNat, 0, 0, 0, none, [], by omega, rfl, (fun j hj => by omega), by omega, hok0, Slot.nil _ _, by rw [List.append_nil]; exact H⟩, ?_⟩
  rintro f h u a i c x ⟨i0, n', c0, a', D, hif, hxx, herr, hn', hok, hsl, H⟩
  injection hxx with hx1 hxx
  injection hxx with hx2 hxx
  injection hx1 with hx1 hx3 hx4
  injection hx2 with _ hx2
  subst hx1 hx2 hx3 hx4
  refine bcase_dec (fun h4 => ?_) fun h4 => ?_
  · refine rget5_ok (base := 0) (H.give [0, 1, 2, 3, 4] (by simp) rfl) hw hbo hok hbl (by omega) (by decide) (by decide) (by decide) fun h n2 hn2 hok2 H' => ?_
    have H := H.put [0, 1, 2, 3, 4] (by simp) rfl (by simp [refD, Go.Ar.sideL, hw]) H' (by simp [refD, Go.Ar.sideL, hw]) rfl
    clear H'
    refine ⟨_, _, _, rfl, ?_⟩
    refine newC_hp H fun r16 h H => ?_
    have H := H.rot
    refine stV_hp H 0 rfl (Nat.le_of_ble_eq_true rfl) rfl fun h hz H => ?_
    refine stV_hp H 0 rfl (Nat.le_of_ble_eq_true rfl) rfl fun h hz H => ?_
    refine bcase_ne (fun h5 => ?_) fun h5 => ?_
    · exact hk _ [] [] none 0 _ (.inr ⟨hn, .inl ⟨i, by omega, herr, h5, rfl, rfl⟩⟩) (Slot.nil _ _) (H.take 0)
    refine ldI_of (hpA H 0 rfl rfl) (ldB_of (hpA H 0 rfl rfl) ?_)
    refine newC_hp H fun r22 h H => ?_
    have H : Hp hB [] _ (([⟨r16, true, T_api_Whole, [.int .i64 (decW 512 0 (seqW (newD b 512) i).1).1.2.1, .bool (decW 512 0 (seqW (newD b 512) i).1).1.2.2]⟩] ++ refD A e bp bc (decW 512 0 (seqW (newD b 512) i).1).2) ++ (D ++ [⟨r22, true, T_api_Whole, [.int .i64 (decW 512 0 (seqW (newD b 512) i).1).1.2.1, .bool (decW 512 0 (seqW (newD b 512) i).1).1.2.2]⟩])) := H.as (by first | rfl | (simp only [refD, Go.Ar.sideL, List.cons_append, List.nil_append, List.append_assoc, List.singleton_append]; done) | (simp only [refD, Go.Ar.sideL, List.cons_append, List.nil_append, List.append_assoc, List.singleton_append]; rfl))
    refine Slot.app (m := 1) (new := [.int .i64 (decW 512 0 (seqW (newD b 512) i).1).1.2.1, .bool (decW 512 0 (seqW (newD b 512) i).1).1.2.2]) hsl H rfl (Hp.rdO_mem (rest := []) (cs := [.int .i64 (decW 512 0 (seqW (newD b 512) i).1).1.2.1, .bool (decW 512 0 (seqW (newD b 512) i).1).1.2.2]) H (List.mem_append_right _ (List.mem_append_right _ (List.mem_singleton.2 rfl))) rfl) rfl (fun v hv => by rcases List.mem_cons.1 hv with rfl | hv; exact rfl; rw [List.mem_singleton.1 hv]; rfl) (by decide) (by omega) fun D' q' c' h' hsl' H' => ?_
    refine bindI_of (((i + 1 : Nat) : Int)) (by exact i64_at _ _ (by omega) (by omega) (by omega)) ?_
    refine ⟨f - 1, by omega, i + 1, n2, c', q', D', by omega, rfl, ?_, by omega, hok2, ?_, ?_⟩
    · intro j hj
      by_cases hji : j = i
      · rw [hji]; exact h5
      · exact herr j (by omega)
    · have e : whC (seqW (newD b 512) (i + 1)).2 = whC (seqW (newD b 512) i).2 ++ [.int .i64 (decW 512 0 (seqW (newD b 512) i).1).1.2.1, .bool (decW 512 0 (seqW (newD b 512) i).1).1.2.2] := by
        show whC (_ ++ [_]) = _
        unfold whC
        rw [List.flatMap_append]
        rfl
      rw [e]
      exact hsl'
    · rw [← List.append_assoc] at H'
      have H2 := Hp.pre H'
      rw [List.append_assoc] at H2
      exact Hp.suf H2
  · have hin : i = n.toNat := by omega
    have hl := seqW_len (newD b 512) i
    refine (?_ : K (.tuple #[.slice a i c, .int .i64 0]) h)
    have := hk 0 (seqW (newD b 512) n.toNat).2 D a c h (.inr ⟨hn, .inr ⟨(fun j hj => herr j (by omega)), rfl, rfl⟩⟩)
    rw [← hin, hl] at this
    exact this hsl (Hp.suf H)
end Go.Bm

/- WhO: whole.Decode. -/
set_option linter.unusedVariables false
set_option linter.unusedSimpArgs false
namespace Go.Bm
open Go Go.Den Go.Den.Yteakipgcanafoaa
open Go.Ar (Dec BOk decL refD RP idx newD newD_ok u8s)

variable {hB : Heap} {q1 : Option Addr} {c1 : Nat} {b : List Nat} {n : Int} {K : Value → Heap → Prop} {Kp : List PanicEntry → Heap → Prop}
set_option maxRecDepth 100000 in
set_option maxHeartbeats 4000000 in
theorem wdec_ok (hr : rdO hB q1 (b.length * 1) (u8s b)) (hb8 : ∀ x ∈ b, x < 256) (hbl : b.length < 140737488351300)
    (hk : ∀ e l D qo c h', DecWh b n e l → Slot T_api_Whole 2 D qo l.length c (whC l) → Hp hB [] h' D → K (.tuple #[.slice qo l.length c, .int .i64 e]) h') :
    CP F_whole_Decode #[.slice q1 b.length c1, .int .i64 n] hB K Kp := by
  refine call_whole_Decode ?_
  unfold whole_Decode
  refine bcase_dec (fun h1 => hk 50 [] [] none 0 hB (.inl ⟨by omega, rfl, rfl⟩) (Slot.nil _ _) (Hp.nil hB [])) fun h1 => ?_
  refine bcase_dec (fun h2 => hk 50 [] [] none 0 hB (.inl ⟨by omega, rfl, rfl⟩) (Slot.nil _ _) (Hp.nil hB [])) fun h2 => ?_
  have hn : 0 ≤ n ∧ n ≤ 65536 := ⟨by omega, by omega⟩
  refine Go.Ar.newDecoder_ok (n := 512) (by decide) (by decide) hb8 hbl hr fun p q e bp bc h hbo H => ?_
  refine ⟨_, _, rfl, ?_⟩
  refine bcase_false (by rfl) ?_
  have hw : e.w = true := hbo.1
  have hok0 := newD_ok hb8 512
  refine ⟨fun f vs h' => ∃ (i n' c : Nat) (a : Option Addr) (D : List Ent), i + f = n.toNat ∧ vs = [.slice a i c, .int .i64 (i : Nat)] ∧ (∀ j, j < i → errW (newD b 512) j = 0) ∧ n' ≤ 64 * i ∧ Go.Ar.DecOk b 512 n' (seqW (newD b 512) i).1 ∧ Slot T_api_Whole 2 D a i c (whC (seqW (newD b 512) i).2) ∧ Hp hB [] h' (decL p q e bp bc (seqW (newD b 512) i).1 ++ D),
    ⟨n.toNat, 0, 0, 0, none, [], by omega, rfl, (fun j hj => by omega), by omega, hok0, Slot.nil _ _, by rw [List.append_nil]; exact H⟩, ?_⟩
  rintro f h u a i c x ⟨i0, n', c0, a', D, hif, hxx, herr, hn', hok, hsl, H⟩
  injection hxx with hx1 hxx
  injection hxx with hx2 hxx
  injection hx1 with hx1 hx3 hx4
  injection hx2 with _ hx2
  subst hx1 hx2 hx3 hx4
  refine bcase_dec (fun h4 => ?_) fun h4 => ?_
  · refine wget_ok (base := 0) (H.give [0, 1, 2] (by simp) rfl) hw hbo hok hbl (by omega) (by decide) (by decide) (by decide) fun h n2 hn2 hok2 H' => ?_
    have H := H.put [0, 1, 2] (by simp) rfl (by simp [decL, Go.Ar.decE, hw]) H' (by simp [decL, Go.Ar.decE, hw]) rfl
    clear H'
    refine ⟨_, _, _, rfl, ?_⟩
    refine newC_hp H fun r16 h H => ?_
    have H := H.rot
    refine stV_hp H 0 rfl (Nat.le_of_ble_eq_true rfl) rfl fun h hz H => ?_
    refine stV_hp H 0 rfl (Nat.le_of_ble_eq_true rfl) rfl fun h hz H => ?_
    refine bcase_ne (fun h5 => ?_) fun h5 => ?_
    · exact hk _ [] [] none 0 _ (.inr ⟨hn, .inl ⟨i, by omega, herr, h5, rfl, rfl⟩⟩) (Slot.nil _ _) (H.take 0)
    refine ldI_of (hpA H 0 rfl rfl) (ldB_of (hpA H 0 rfl rfl) ?_)
    refine newC_hp H fun r22 h H => ?_
    have H : Hp hB [] _ (([⟨r16, true, T_api_Whole, [.int .i64 (decW 512 0 (seqW (newD b 512) i).1).1.2.1, .bool (decW 512 0 (seqW (newD b 512) i).1).1.2.2]⟩] ++ decL p q e bp bc (decW 512 0 (seqW (newD b 512) i).1).2) ++ (D ++ [⟨r22, true, T_api_Whole, [.int .i64 (decW 512 0 (seqW (newD b 512) i).1).1.2.1, .bool (decW 512 0 (seqW (newD b 512) i).1).1.2.2]⟩])) := H.as (by first | rfl | (simp only [decL, List.cons_append, List.nil_append, List.append_assoc, List.singleton_append]; done) | (simp only [decL, List.cons_append, List.nil_append, List.append_assoc, List.singleton_append]; rfl))
    refine Slot.app (m := 1) (new := [.int .i64 (decW 512 0 (seqW (newD b 512) i).1).1.2.1, .bool (decW 512 0 (seqW (newD b 512) i).1).1.2.2]) hsl H rfl (Hp.rdO_mem (rest := []) (cs := [.int .i64 (decW 512 0 (seqW (newD b 512) i).1).1.2.1, .bool (decW 512 0 (seqW (newD b 512) i).1).1.2.2]) H (List.mem_append_right _ (List.mem_append_right _ (List.mem_singleton.2 rfl))) rfl) rfl (fun v hv => by rcases List.mem_cons.1 hv with rfl | hv; exact rfl; rw [List.mem_singleton.1 hv]; rfl) (by decide) (by omega) fun D' q' c' h' hsl' H' => ?_
    refine bindI_of (((i + 1 : Nat) : Int)) (by exact i64_at _ _ (by omega) (by omega) (by omega)) ?_
    refine ⟨f - 1, by omega, i + 1, n2, c', q', D', by omega, rfl, ?_, by omega, hok2, ?_, ?_⟩
    · intro j hj
      by_cases hji : j = i
      · rw [hji]; exact h5
      · exact herr j (by omega)
    · have e : whC (seqW (newD b 512) (i + 1)).2 = whC (seqW (newD b 512) i).2 ++ [.int .i64 (decW 512 0 (seqW (newD b 512) i).1).1.2.1, .bool (decW 512 0 (seqW (newD b 512) i).1).1.2.2] := by
        show whC (_ ++ [_]) = _
        unfold whC
        rw [List.flatMap_append]
        rfl
      rw [e]
      exact hsl'
    · rw [← List.append_assoc] at H'
      have H2 := Hp.pre H'
      rw [List.append_assoc] at H2
      exact Hp.suf H2
  · have hin : i = n.toNat := by omega
    have hl := seqW_len (newD b 512) i
    refine (?_ : K (.tuple #[.slice a i c, .int .i64 0]) h)
    have := hk 0 (seqW (newD b 512) n.toNat).2 D a c h (.inr ⟨hn, .inr ⟨(fun j hj => herr j (by omega)), rfl, rfl⟩⟩)
    rw [← hin, hl] at this
    exact this hsl (Hp.suf H)
end Go.Bm

/- Written by gen.py: the conditions of the functions of law5x. -/
set_option linter.unusedVariables false
set_option linter.unusedSimpArgs false
namespace Go.Den.Yteakipgcanafoaa
open Go Go.Den

/- burin/burinlaw5.wakes -/
set_option maxRecDepth 100000 in
def burinlaw5_wakes (C : CallP)  (h : Heap) (K : Value → Heap → Prop) (Kp : List PanicEntry → Heap → Prop) : Prop :=
newC h [.int .i64 0, .bool false, .int .i64 (-1), .bool false, .int .i64 0, .bool true, .int .i64 5000, .bool false, .int .i64 84, .bool false] T_api_Whole fun r_1 h_2 =>
C F_whole_Encode #[.slice (some ⟨r_1, 0, none⟩) 5 5] h_2 (fun v_3 h_4 =>
∃ (r_5 : Option Addr) (r_5n : Nat) (r_5c : Nat), ∃ (r_6 : Int), v_3 = .tuple #[.slice r_5 r_5n r_5c, .int .i64 r_6] ∧ (
C F_whole_Decode #[.slice r_5 r_5n r_5c, .int .i64 5] h_4 (fun v_7 h_8 =>
∃ (r_9 : Option Addr) (r_9n : Nat) (r_9c : Nat), ∃ (r_10 : Int), v_7 = .tuple #[.slice r_9 r_9n r_9c, .int .i64 r_10] ∧ (
bcase (r_6 == (0 : Int)) (
bcase (r_10 == (0 : Int)) (
bcase (decide ((r_5n : Int) > (0 : Int))) (
C F_burinref0_EqWholes #[.slice (some ⟨r_1, 0, none⟩) 5 5, .slice r_9 r_9n r_9c] h_8 (fun v_11 h_12 =>
∃ (r_13 : Bool), v_11 = .bool r_13 ∧ (
K (.bool r_13) h_12)) (Kp)) <|
K (.bool false) h_8) <|
K (.bool false) h_8) <|
K (.bool false) h_8)) (Kp))) (Kp)

/- burin/burinlaw5.badID -/
set_option maxRecDepth 100000 in
def burinlaw5_badID (C : CallP) (o_1 : Bool) (o_2 : Int) (o_3 : Int) (o_4 : Int) (o_5 : Bool) (h : Heap) (K : Value → Heap → Prop) (Kp : List PanicEntry → Heap → Prop) : Prop :=
newC h [.bool o_1, .int .i64 o_2, .int .i64 o_3, .int .i64 o_4, .bool o_5] T_burinlaw5_Item fun r_6 h_7 =>
ldI h_7 ((⟨r_6, 0, none⟩ : Addr).add 2) .i64 fun x_8 =>
bcase (decide (x_8 < (0 : Int))) (
K (.int .i64 52) h_7) <|
ldI h_7 ((⟨r_6, 0, none⟩ : Addr).add 2) .i64 fun x_9 =>
bcase (decide (x_9 > (12 : Int))) (
K (.int .i64 52) h_7) <|
ldI h_7 ((⟨r_6, 0, none⟩ : Addr).add 1) .i64 fun x_10 =>
bcase (decide (x_10 < (0 : Int))) (
K (.int .i64 51) h_7) <|
ldI h_7 ((⟨r_6, 0, none⟩ : Addr).add 1) .i64 fun x_11 =>
ldI h_7 ((⟨r_6, 0, none⟩ : Addr).add 2) .i64 fun x_12 =>
bindI (IntKind.u64.wrap x_12) fun z_13 =>
needs (0 ≤ z_13) <|
bindI (shlI .i64 (1 : Int) z_13) fun z_14 =>
bindI (IntKind.i64.wrap ((9000 : Int) - z_14)) fun z_15 =>
bcase (decide (x_11 > z_15)) (
K (.int .i64 51) h_7) <|
ldI h_7 (((⟨r_6, 0, none⟩ : Addr).add 3).add 0) .i64 fun x_16 =>
bcase (decide (x_16 < (0 : Int))) (
K (.int .i64 50) h_7) <|
ldI h_7 (((⟨r_6, 0, none⟩ : Addr).add 3).add 0) .i64 fun x_17 =>
ldI h_7 ((⟨r_6, 0, none⟩ : Addr).add 2) .i64 fun x_18 =>
bindI (IntKind.u64.wrap x_18) fun z_19 =>
needs (0 ≤ z_19) <|
bindI (shlI .i64 (1 : Int) z_19) fun z_20 =>
bcase (decide (x_17 ≥ z_20)) (
K (.int .i64 50) h_7) <|
K (.int .i64 0) h_7

/- burin/burinlaw5.badBase -/
set_option maxRecDepth 100000 in
def burinlaw5_badBase (C : CallP) (o_1 : Bool) (o_2 : Int) (o_3 : Int) (o_4 : Int) (o_5 : Bool) (h : Heap) (K : Value → Heap → Prop) (Kp : List PanicEntry → Heap → Prop) : Prop :=
newC h [.bool o_1, .int .i64 o_2, .int .i64 o_3, .int .i64 o_4, .bool o_5] T_burinlaw5_Item fun r_6 h_7 =>
ldI h_7 ((⟨r_6, 0, none⟩ : Addr).add 1) .i64 fun x_8 =>
bcase (decide (x_8 < (0 : Int))) (
K (.int .i64 51) h_7) <|
ldI h_7 ((⟨r_6, 0, none⟩ : Addr).add 1) .i64 fun x_9 =>
bcase (decide (x_9 > (8488 : Int))) (
K (.int .i64 51) h_7) <|
K (.int .i64 0) h_7

end Go.Den.Yteakipgcanafoaa

/- Written by gen.py: each condition of the functions of law5x is the one of its body; so it is enough for its call. -/
set_option linter.unusedVariables false
set_option linter.unusedSimpArgs false
namespace Go.Den.Yteakipgcanafoaa
open Go Go.Den

noncomputable def hints_burinlaw5_wakes : Hints := Hints.mk (fun i => none)
  (fun i => none)
  (fun i => none) []
set_option maxRecDepth 100000 in
theorem eq_burinlaw5_wakes (C : CallP)  (h : Heap) (K : Value → Heap → Prop) (Kp : List PanicEntry → Heap → Prop) :
    fnD Go.Proofs.Try.prog C hints_burinlaw5_wakes Go.Proofs.Try.f17 [] h K Kp = burinlaw5_wakes C  h K Kp := by kernel_rfl

theorem call_burinlaw5_wakes  {h : Heap} {K : Value → Heap → Prop} {Kp : List PanicEntry → Heap → Prop} (H : burinlaw5_wakes (CallsHP Go.Proofs.Try.prog)  h K Kp) : CallsHP Go.Proofs.Try.prog F_burinlaw5_wakes #[] h K Kp :=
  callsHP_of hints_burinlaw5_wakes (by kernel_rfl) Go.Proofs.Try.func17 (by kernel_rfl) (by rw [eq_burinlaw5_wakes]; exact H)

noncomputable def hints_burinlaw5_badID : Hints := Hints.mk (fun i => none)
  (fun i => none)
  (fun i => none) []
set_option maxRecDepth 100000 in
theorem eq_burinlaw5_badID (C : CallP) (o_1 : Bool) (o_2 : Int) (o_3 : Int) (o_4 : Int) (o_5 : Bool) (h : Heap) (K : Value → Heap → Prop) (Kp : List PanicEntry → Heap → Prop) :
    fnD Go.Proofs.Try.prog C hints_burinlaw5_badID Go.Proofs.Try.f29 [.agg #[.bool o_1, .int .i64 o_2, .int .i64 o_3, .int .i64 o_4, .bool o_5]] h K Kp = burinlaw5_badID C o_1 o_2 o_3 o_4 o_5 h K Kp := by kernel_rfl

theorem call_burinlaw5_badID {o_1 : Bool} {o_2 : Int} {o_3 : Int} {o_4 : Int} {o_5 : Bool} {h : Heap} {K : Value → Heap → Prop} {Kp : List PanicEntry → Heap → Prop} (H : burinlaw5_badID (CallsHP Go.Proofs.Try.prog) o_1 o_2 o_3 o_4 o_5 h K Kp) : CallsHP Go.Proofs.Try.prog F_burinlaw5_badID #[.agg #[.bool o_1, .int .i64 o_2, .int .i64 o_3, .int .i64 o_4, .bool o_5]] h K Kp :=
  callsHP_of hints_burinlaw5_badID (by kernel_rfl) Go.Proofs.Try.func29 (by kernel_rfl) (by rw [eq_burinlaw5_badID]; exact H)

noncomputable def hints_burinlaw5_badBase : Hints := Hints.mk (fun i => none)
  (fun i => none)
  (fun i => none) []
set_option maxRecDepth 100000 in
theorem eq_burinlaw5_badBase (C : CallP) (o_1 : Bool) (o_2 : Int) (o_3 : Int) (o_4 : Int) (o_5 : Bool) (h : Heap) (K : Value → Heap → Prop) (Kp : List PanicEntry → Heap → Prop) :
    fnD Go.Proofs.Try.prog C hints_burinlaw5_badBase Go.Proofs.Try.f32 [.agg #[.bool o_1, .int .i64 o_2, .int .i64 o_3, .int .i64 o_4, .bool o_5]] h K Kp = burinlaw5_badBase C o_1 o_2 o_3 o_4 o_5 h K Kp := by kernel_rfl

theorem call_burinlaw5_badBase {o_1 : Bool} {o_2 : Int} {o_3 : Int} {o_4 : Int} {o_5 : Bool} {h : Heap} {K : Value → Heap → Prop} {Kp : List PanicEntry → Heap → Prop} (H : burinlaw5_badBase (CallsHP Go.Proofs.Try.prog) o_1 o_2 o_3 o_4 o_5 h K Kp) : CallsHP Go.Proofs.Try.prog F_burinlaw5_badBase #[.agg #[.bool o_1, .int .i64 o_2, .int .i64 o_3, .int .i64 o_4, .bool o_5]] h K Kp :=
  callsHP_of hints_burinlaw5_badBase (by kernel_rfl) Go.Proofs.Try.func32 (by kernel_rfl) (by rw [eq_burinlaw5_badBase]; exact H)

end Go.Den.Yteakipgcanafoaa

/- WhP: wakes of burinlaw5. -/
set_option linter.unusedVariables false
set_option linter.unusedSimpArgs false
namespace Go.Bm
open Go Go.Den Go.Den.Yteakipgcanafoaa
open Go.Ar (newC newD flushM bytesM u8s)

def wk5 : List (Int × Bool) := [(0, false), (-1, false), (0, true), (5000, false), (84, false)]
set_option maxRecDepth 100000 in
theorem wk5_pure : ((bytesM (flushM (encS wk5 (newC 512)))).all (fun x => decide (x < 256)) && decide (0 < (bytesM (flushM (encS wk5 (newC 512)))).length ∧ (bytesM (flushM (encS wk5 (newC 512)))).length < 1000) && (List.range 5).all (fun j => errW (newD (bytesM (flushM (encS wk5 (newC 512)))) 512) j == 0) && ((seqW (newD (bytesM (flushM (encS wk5 (newC 512)))) 512) 5).2 == wk5)) = true := by
  kernel_rfl

theorem wk5_i64 : I64L wk5 := by
  intro x hx
  have : x = (0, false) ∨ x = (-1, false) ∨ x = (0, true) ∨ x = (5000, false) ∨ x = (84, false) := by simpa [wk5] using hx
  rcases this with rfl | rfl | rfl | rfl | rfl <;> exact ⟨by decide, by decide⟩
theorem wk5_right : RightL wk5 := by
  intro x hx
  have : x = (0, false) ∨ x = (-1, false) ∨ x = (0, true) ∨ x = (5000, false) ∨ x = (84, false) := by simpa [wk5] using hx
  rcases this with rfl | rfl | rfl | rfl | rfl <;> (unfold rightW; decide)
variable {hB : Heap} {K : Value → Heap → Prop} {Kp : List PanicEntry → Heap → Prop}
set_option maxRecDepth 100000 in
theorem wakes5_ok (hk : ∀ h', hext hB h' → K (.bool true) h') : CP F_burinlaw5_wakes #[] hB K Kp := by
  refine call_burinlaw5_wakes ?_
  unfold burinlaw5_wakes
  have H := Hp.nil hB []
  refine newC_hp H fun r1 h H => ?_
  have hr1 : rdO h (at0 r1) (wk5.length * 2) (whC wk5) := Hp.rdO_mem (rest := []) H (List.mem_singleton.2 rfl) rfl
  refine whEnc_ok (l := wk5) hr1 wk5_i64 (by decide) fun e bs D qo c h1 henc hsl H1 => ?_
  have hp := wk5_pure
  rcases henc with ⟨hh, _⟩ | ⟨_, rfl, hbs, _⟩
  · exact absurd wk5_right hh
  rw [← hbs] at hp
  simp only [Bool.and_eq_true] at hp
  obtain ⟨⟨⟨p1, p2⟩, p3⟩, p4⟩ := hp
  refine ⟨_, _, _, _, rfl, ?_⟩
  have hb8 : ∀ x ∈ bs, x < 256 := fun x hx => of_decide_eq_true (List.all_eq_true.1 p1 x hx)
  have hr : rdO h1 qo (bs.length * 1) (u8s bs) := Slot.rdO (A := []) (B := []) hsl (by simpa using H1)
  have p2 := of_decide_eq_true p2
  refine wdec_ok (n := 5) hr hb8 (by omega) fun e l D2 qo2 c2 h2 hdec hsl2 H2 => ?_
  rcases hdec with ⟨hh, _⟩ | ⟨_, ⟨i, hi, _, hne, _⟩ | ⟨_, rfl, rfl⟩⟩
  · omega
  · exact absurd (by have := List.all_eq_true.1 p3 i (List.mem_range.2 (by omega)); simpa using this) hne
  have e5 : (seqW (newD bs 512) (5 : Int).toNat).2 = wk5 := by simpa using p4
  rw [e5] at hsl2 ⊢
  refine ⟨_, _, _, _, rfl, ?_⟩
  refine bcase_true (by rfl) ?_
  refine bcase_true (by rfl) ?_
  refine bcase_dec (fun _ => ?_) fun hh => absurd (by omega) hh
  refine eqWh_ok (la := wk5) (lb := wk5) (rdO_ext H2.hext (rdO_ext H1.hext hr1)) (Slot.rdO (A := []) (B := []) hsl2 (by simpa using H2)) (by decide) ?_
  exact ⟨_, rfl, hk _ (H.hext.trans (H1.hext.trans H2.hext))⟩
end Go.Bm

/- WhQ: plain law of whole numbers: what was put is got again. -/
set_option linter.unusedVariables false
set_option linter.unusedSimpArgs false
namespace Go.Bm
open Go Go.Den Go.Den.Yteakipgcanafoaa
open Go.Ar (Cod Dec CodOk codN decN newC newC_ok newD idx bytesM flushM putM getD)

/-! ### decisions of a row of bits: 'nx' tells the node behind a bit -/
def dsN (nx : Nat → Nat → Nat) (m : Nat) (base : Int) : List Nat → Nat → List (Nat × Nat)
  | [], _ => []
  | b :: l, v => (idx (base + (v : Int)) m, b) :: dsN nx m base l (nx v b)
def ndN (nx : Nat → Nat → Nat) (l : List Nat) (v : Nat) : Nat := l.foldl nx v
theorem dsN_len (nx : Nat → Nat → Nat) (m : Nat) (base : Int) : ∀ (l : List Nat) (v : Nat), (dsN nx m base l v).length = l.length
  | [], _ => rfl
  | b :: l, v => by unfold dsN; rw [List.length_cons, List.length_cons, dsN_len nx m base l]
theorem dsN_bit (nx : Nat → Nat → Nat) (m : Nat) (base : Int) : ∀ (l : List Nat) (v : Nat), (∀ b ∈ l, b ≤ 1) → ∀ d ∈ dsN nx m base l v, d.2 ≤ 1
  | [], _, _ => fun d hd => by cases hd
  | b :: l, v, h => fun d hd => by
    unfold dsN at hd
    rcases List.mem_cons.1 hd with rfl | hd
    · exact h b (List.mem_cons_self ..)
    · exact dsN_bit nx m base l _ (fun b' hb => h b' (List.mem_cons_of_mem _ hb)) d hd
theorem dsN_app (nx : Nat → Nat → Nat) (m : Nat) (base : Int) : ∀ (l l' : List Nat) (v : Nat), dsN nx m base (l ++ l') v = dsN nx m base l v ++ dsN nx m base l' (ndN nx l v)
  | [], _, _ => rfl
  | b :: l, l', v => by
    show (_, b) :: dsN nx m base (l ++ l') (nx v b) = (_, b) :: (dsN nx m base l (nx v b) ++ dsN nx m base l' (ndN nx l (nx v b)))
    rw [dsN_app nx m base l l' (nx v b)]
theorem ndN_app (nx : Nat → Nat → Nat) (l l' : List Nat) (v : Nat) : ndN nx (l ++ l') v = ndN nx l' (ndN nx l v) := List.foldl_append
def runX (nx : Nat → Nat → Nat) (m : Nat) (base : Int) (l : List Nat) (x : Nat × Cod) : Nat × Cod := l.foldl (fun x b => (nx x.1 b, putM x.2 (idx (base + (x.1 : Int)) m) b)) x
theorem runX_snoc (nx : Nat → Nat → Nat) (m : Nat) (base : Int) (l : List Nat) (b : Nat) (x : Nat × Cod) : runX nx m base (l ++ [b]) x = (nx (runX nx m base l x).1 b, putM (runX nx m base l x).2 (idx (base + ((runX nx m base l x).1 : Int)) m) b) := by
  unfold runX
  rw [List.foldl_append]
  rfl
theorem runX_cdL (nx : Nat → Nat → Nat) (m : Nat) (base : Int) : ∀ (l : List Nat) (v : Nat) (L : List (Nat × Nat)), runX nx m base l (v, cdL m L) = (ndN nx l v, cdL m (L ++ dsN nx m base l v))
  | [], v, L => by show (v, cdL m L) = (v, cdL m (L ++ [])); rw [List.append_nil]
  | b :: l, v, L => by
    show runX nx m base l (nx v b, putM (cdL m L) (idx (base + (v : Int)) m) b) = (ndN nx l (nx v b), cdL m (L ++ ((idx (base + (v : Int)) m, b) :: dsN nx m base l (nx v b))))
    rw [← cdL_snoc m L (idx (base + (v : Int)) m, b), runX_cdL nx m base l, List.append_assoc]
    rfl
/-- A number's decisions. -/
def dsWh (m : Nat) (base v : Int) (none : Bool) : List (Nat × Nat) := dsN nextW m base (bitsL (sgW v none) (mW v none)) 1
theorem dsWh_len (m : Nat) (base v : Int) (none : Bool) : (dsWh m base v none).length ≤ 39 := by
  unfold dsWh
  rw [dsN_len]
  exact bitsL_len _ _
theorem dsWh_bit (m : Nat) (base v : Int) (none : Bool) : ∀ d ∈ dsWh m base v none, d.2 ≤ 1 := dsN_bit _ _ _ _ _ (bitsL_le (sgW_le v none))
theorem run_wh (m : Nat) (base v : Int) (none : Bool) (L : List (Nat × Nat)) : (runW m base (bitsL (sgW v none) (mW v none)) (1, cdL m L)).2 = cdL m (L ++ dsWh m base v none) := by
  rw [show runW m base (bitsL (sgW v none) (mW v none)) (1, cdL m L) = runX nextW m base (bitsL (sgW v none) (mW v none)) (1, cdL m L) from rfl, runX_cdL]
  rfl
/-! ### IDs -/
def nextI (v b : Nat) : Nat := 2 * v + b
def runI (m : Nat) (base : Int) (l : List Nat) (x : Nat × Cod) : Nat × Cod := runX nextI m base l x
def dsId (m : Nat) (base : Int) (w x : Nat) : List (Nat × Nat) := dsN nextI m base (tailB x w) 1
theorem dsId_len (m : Nat) (base : Int) (w x : Nat) : (dsId m base w x).length = w := by
  unfold dsId
  rw [dsN_len, tailB_len]
theorem tailB_bit (x w : Nat) : ∀ b ∈ tailB x w, b ≤ 1 := fun b hb => by
  unfold tailB at hb
  obtain ⟨i, _, rfl⟩ := List.mem_map.1 hb
  exact Nat.le_of_lt_succ (Nat.mod_lt _ (by decide))
theorem dsId_bit (m : Nat) (base : Int) (w x : Nat) : ∀ d ∈ dsId m base w x, d.2 ≤ 1 := dsN_bit _ _ _ _ _ (tailB_bit x w)
theorem run_id (m : Nat) (base : Int) (w x : Nat) (L : List (Nat × Nat)) : (runI m base (tailB x w) (1, cdL m L)).2 = cdL m (L ++ dsId m base w x) := by
  unfold runI
  rw [runX_cdL]
  rfl
/-- The node after some bits of an ID. -/
theorem ndI (x w : Nat) (hx : x < 2 ^ w) : ∀ i, i ≤ w → ndN nextI ((tailB x w).take i) 1 = 2 ^ i + x / 2 ^ (w - i)
  | 0, _ => by
    rw [Nat.sub_zero, Nat.div_eq_of_lt hx]
    rfl
  | i + 1, hi => by
    rw [tailB_take (by omega), ndN_app, ndI x w hx i (by omega)]
    show 2 * (2 ^ i + x / 2 ^ (w - i)) + x / 2 ^ (w - 1 - i) % 2 = _
    rw [show w - i = (w - 1 - i) + 1 by omega, show w - (i + 1) = w - 1 - i by omega, Nat.pow_succ, Nat.pow_succ, ← Nat.div_div_eq_div_mul]
    omega
/-- A decoder after so many bits of an ID. -/
def getI (m : Nat) (base : Int) (st : Nat × Dec) : Nat × Dec := (nextI st.1 (getD st.2 (idx (base + (st.1 : Nat)) m)).2, (getD st.2 (idx (base + (st.1 : Nat)) m)).1)
def itI (m : Nat) (base : Int) (st : Nat × Dec) : Nat → Nat × Dec
  | 0 => st
  | i + 1 => getI m base (itI m base st i)
theorem itI_lt (m : Nat) (base : Int) (s : Dec) : ∀ i, 2 ^ i ≤ (itI m base (1, s) i).1 ∧ (itI m base (1, s) i).1 < 2 ^ (i + 1)
  | 0 => ⟨Nat.le_refl _, by show 1 < 2; omega⟩
  | i + 1 => by
    have ih := itI_lt m base s i
    have hb : (getD (itI m base (1, s) i).2 (idx (base + ((itI m base (1, s) i).1 : Nat)) m)).2 ≤ 1 := Go.Ar.getD_bit _
    show 2 ^ (i + 1) ≤ 2 * (itI m base (1, s) i).1 + _ ∧ 2 * (itI m base (1, s) i).1 + _ < 2 ^ (i + 1 + 1)
    rw [Nat.pow_succ 2 (i + 1), Nat.pow_succ 2 i] at *
    omega

/-! ### getting again -/
section
variable {L : List (Nat × Nat)} {D : Nat → Dec} (hW : Walk L D) {m : Nat} {base : Int}
include hW
theorem get_one {A B : List (Nat × Nat)} {v b : Nat} (e : L = A ++ (idx (base + (v : Int)) m, b) :: B) : getW m base (v, D A.length) = (nextW v b, D (A ++ [(idx (base + (v : Int)) m, b)]).length) ∧ bitW m base (v, D A.length) = b := by
  have h := hW.at e
  unfold getW bitW
  dsimp only at h ⊢
  rw [h, List.length_append]
  exact ⟨rfl, rfl⟩
theorem get_ones : ∀ (j f k : Nat) (A B : List (Nat × Nat)) (v : Nat), j ≤ f → L = A ++ (dsN nextW m base (List.replicate j 1 ++ (if j < f then [0] else [])) v ++ B) →
    onesW m base f k (v, D A.length) = (k + j, (ndN nextW (List.replicate j 1 ++ (if j < f then [0] else [])) v, D (A ++ dsN nextW m base (List.replicate j 1 ++ (if j < f then [0] else [])) v).length))
  | 0, 0, k, A, B, v, _, _ => by simp [onesW, ndN, dsN]
  | 0, f + 1, k, A, B, v, _, e => by
    rw [if_pos (by omega)] at e ⊢
    obtain ⟨h1, h2⟩ := get_one hW (A := A) (B := B) (v := v) (b := 0) e
    unfold onesW
    rw [h2, if_neg (by omega), h1]
    rfl
  | j + 1, f + 1, k, A, B, v, hj, e => by
    have hif : (if j + 1 < f + 1 then [0] else ([] : List Nat)) = if j < f then [0] else [] := by
      by_cases h : j < f
      · rw [if_pos h, if_pos (by omega)]
      · rw [if_neg h, if_neg (by omega)]
    rw [hif] at e ⊢
    rw [List.replicate_succ, List.cons_append] at e ⊢
    have e : L = A ++ (idx (base + (v : Int)) m, 1) :: (dsN nextW m base (List.replicate j 1 ++ (if j < f then [0] else [])) (nextW v 1) ++ B) := e
    obtain ⟨h1, h2⟩ := get_one hW e
    have ih := get_ones j f (k + 1) (A ++ [(idx (base + (v : Int)) m, 1)]) B (nextW v 1) (by omega) (by rw [List.append_assoc]; exact e)
    unfold onesW
    rw [h2, if_pos rfl, h1, ih]
    show _ = (k + (j + 1), ndN nextW (List.replicate j 1 ++ (if j < f then [0] else [])) (nextW v 1), D (A ++ ([(idx (base + (v : Int)) m, 1)] ++ dsN nextW m base (List.replicate j 1 ++ (if j < f then [0] else [])) (nextW v 1))).length)
    rw [← List.append_assoc, show k + 1 + j = k + (j + 1) by omega]
theorem get_tail {A : List (Nat × Nat)} {x w v : Nat} (hx : x < 2 ^ w) : ∀ i, i ≤ w → ∀ B, L = A ++ (dsN nextW m base ((tailB x w).take i) v ++ B) →
    tailW m base (v, D A.length) i = ((ndN nextW ((tailB x w).take i) v, D (A ++ dsN nextW m base ((tailB x w).take i) v).length), x / 2 ^ (w - i))
  | 0, _, B, _ => by
    rw [Nat.sub_zero, Nat.div_eq_of_lt hx]
    simp [tailW, ndN, dsN]
  | i + 1, hi, B, e => by
    rw [tailB_take (by omega), dsN_app, List.append_assoc] at e
    have ih := get_tail hx i (by omega) _ e
    have e2 : L = (A ++ dsN nextW m base ((tailB x w).take i) v) ++ (idx (base + ((ndN nextW ((tailB x w).take i) v : Nat) : Int)) m, x / 2 ^ (w - 1 - i) % 2) :: B := by rw [e, List.append_assoc]; rfl
    obtain ⟨h1, h2⟩ := get_one hW e2
    unfold tailW
    rw [ih]
    dsimp only
    rw [h1, h2, tailB_take (by omega), dsN_app, ndN_app, List.append_assoc]
    refine Prod.ext rfl ?_
    show 2 * (x / 2 ^ (w - i)) + x / 2 ^ (w - 1 - i) % 2 = x / 2 ^ (w - (i + 1))
    rw [show w - i = (w - 1 - i) + 1 by omega, show w - (i + 1) = w - 1 - i by omega, Nat.pow_succ, ← Nat.div_div_eq_div_mul]
    omega
/-- A number is got again. -/
theorem get_num {A B : List (Nat × Nat)} {sg x : Nat} (hs : sg ≤ 1) (hx : x ≤ 2147483648) (e : L = A ++ (dsN nextW m base (bitsL sg x) 1 ++ B)) :
    decW m base (D A.length) = (ansW sg x, D (A ++ dsN nextW m base (bitsL sg x) 1).length) := by
  have hb : bitsL sg x = sg :: ((List.replicate (wK x) 1 ++ (if wK x < 5 then [0] else [])) ++ (tailB (x - wFrom (wK x)) (wWid (wK x))).take (wWid (wK x))) := by
    unfold bitsL headB
    rw [List.take_of_length_le (by rw [tailB_len]; exact Nat.le_refl _)]
    simp
  obtain ⟨hk1, hk2⟩ := wK_spec x
  have hk5 := wK_le x
  have hw : x - wFrom (wK x) < 2 ^ wWid (wK x) := by
    have : wK x = 0 ∨ wK x = 1 ∨ wK x = 2 ∨ wK x = 3 ∨ wK x = 4 ∨ wK x = 5 := by omega
    rcases this with h | h | h | h | h | h <;> rw [h] at hk1 hk2 ⊢
    · have := hk2 1 (by omega) (by omega); simp [wFrom, wWid] at this ⊢; omega
    · have := hk2 2 (by omega) (by omega); simp [wFrom, wWid] at this ⊢; omega
    · have := hk2 3 (by omega) (by omega); simp [wFrom, wWid] at this ⊢; omega
    · have := hk2 4 (by omega) (by omega); simp [wFrom, wWid] at this ⊢; omega
    · have := hk2 5 (by omega) (by omega); simp [wFrom, wWid] at this ⊢; omega
    · simp [wFrom, wWid]; omega
  rw [hb] at e ⊢
  generalize hH : (List.replicate (wK x) 1 ++ (if wK x < 5 then [0] else []) : List Nat) = hd at e ⊢
  have e1 : L = A ++ (idx (base + ((1 : Nat) : Int)) m, sg) :: (dsN nextW m base (hd ++ (tailB (x - wFrom (wK x)) (wWid (wK x))).take (wWid (wK x))) (nextW 1 sg) ++ B) := e
  obtain ⟨h1, h2⟩ := get_one hW e1
  rw [dsN_app] at e1
  have e2 : L = (A ++ [(idx (base + ((1 : Nat) : Int)) m, sg)]) ++ (dsN nextW m base hd (nextW 1 sg) ++ (dsN nextW m base ((tailB (x - wFrom (wK x)) (wWid (wK x))).take (wWid (wK x))) (ndN nextW hd (nextW 1 sg)) ++ B)) := by
    rw [e1]; simp
  have h3 := get_ones hW (wK x) 5 0 _ _ (nextW 1 sg) hk5 (by rw [hH]; exact e2)
  rw [hH] at h3
  have h4 := get_tail hW hw (wWid (wK x)) (Nat.le_refl _) B (A := A ++ [(idx (base + ((1 : Nat) : Int)) m, sg)] ++ dsN nextW m base hd (nextW 1 sg)) (v := ndN nextW hd (nextW 1 sg)) (by rw [e2, List.append_assoc _ (dsN nextW m base hd (nextW 1 sg))])
  rw [Nat.sub_self, Nat.pow_zero, Nat.div_one] at h4
  unfold decW
  rw [h1, h2, h3]
  dsimp only
  rw [Nat.zero_add, h4]
  dsimp only
  rw [show x - wFrom (wK x) + wFrom (wK x) = x by omega]
  refine Prod.ext rfl ?_
  show D _ = D (A ++ ((idx (base + ((1 : Nat) : Int)) m, sg) :: dsN nextW m base (hd ++ (tailB (x - wFrom (wK x)) (wWid (wK x))).take (wWid (wK x))) (nextW 1 sg))).length
  rw [dsN_app]
  simp
theorem get_wh {A B : List (Nat × Nat)} {v : Int} {none : Bool} (hr : rightW v none) (e : L = A ++ (dsWh m base v none ++ B)) :
    decW m base (D A.length) = ((0, (if none = true then 0 else v), none), D (A ++ dsWh m base v none).length) := by
  have hm := mW_lt hr
  rw [get_num hW (sgW_le v none) hm e]
  refine Prod.ext ?_ rfl
  show ansW (sgW v none) (mW v none) = _
  unfold ansW
  rw [if_neg (by omega)]
  cases none with
  | true => rfl
  | false =>
    have e0 : mW v false = v.natAbs := rfl
    have hm2 : v.natAbs ≤ 2147483648 := hm
    rw [e0]
    by_cases hv : v < 0
    · have e1 : ¬ v.natAbs = 0 := by omega
      have e2 : sgW v false = 1 := by unfold sgW; rw [if_neg (by decide), if_pos hv]
      rw [e2, if_pos rfl, if_neg e1, show (-((v.natAbs : Nat) : Int)) = v by omega]
      rfl
    · have e2 : sgW v false = 0 := by unfold sgW; rw [if_neg (by decide), if_neg hv]
      rw [e2, if_neg (by decide), show (((v.natAbs : Nat) : Int)) = v by omega]
      rfl
theorem get_id {A B : List (Nat × Nat)} {w x : Nat} (hx : x < 2 ^ w) (e : L = A ++ (dsId m base w x ++ B)) : ∀ i, i ≤ w →
    itI m base (1, D A.length) i = (ndN nextI ((tailB x w).take i) 1, D (A ++ dsN nextI m base ((tailB x w).take i) 1).length)
  | 0, _ => by simp [itI, ndN, dsN]
  | i + 1, hi => by
    have ih := get_id hx e i (by omega)
    have e2 : tailB x w = (tailB x w).take (i + 1) ++ (tailB x w).drop (i + 1) := (List.take_append_drop _ _).symm
    unfold dsId at e
    rw [e2, tailB_take (by omega), dsN_app, dsN_app, List.append_assoc, List.append_assoc] at e
    have e3 : L = (A ++ dsN nextI m base ((tailB x w).take i) 1) ++ (idx (base + ((ndN nextI ((tailB x w).take i) 1 : Nat) : Int)) m, x / 2 ^ (w - 1 - i) % 2) :: (dsN nextI m base ((tailB x w).drop (i + 1)) (ndN nextI ((tailB x w).take i ++ [x / 2 ^ (w - 1 - i) % 2]) 1) ++ B) := by rw [e, List.append_assoc]; rfl
    have h := hW.at e3
    unfold itI
    rw [ih]
    unfold getI
    dsimp only at h ⊢
    rw [h, tailB_take (by omega), dsN_app, ndN_app]
    refine Prod.ext rfl ?_
    show D (_ + 1) = D (A ++ (dsN nextI m base ((tailB x w).take i) 1 ++ [(_, _)])).length
    rw [← List.append_assoc]; simp only [List.length_append, List.length_singleton]
/-- An ID is got again. -/
theorem get_ID {A B : List (Nat × Nat)} {w x : Nat} (hx : x < 2 ^ w) (e : L = A ++ (dsId m base w x ++ B)) : itI m base (1, D A.length) w = (2 ^ w + x, D (A ++ dsId m base w x).length) := by
  have ht : (tailB x w).take w = tailB x w := List.take_of_length_le (by rw [tailB_len]; exact Nat.le_refl _)
  have h := get_id hW hx e w (Nat.le_refl _)
  have hn := ndI x w hx w (Nat.le_refl _)
  rw [ht] at h hn
  rw [h, hn, Nat.sub_self, Nat.pow_zero, Nat.div_one]
  rfl
end
end Go.Bm

/- RdB: the law ArithReads, said of memory. -/
set_option linter.unusedVariables false
set_option linter.unusedSimpArgs false
namespace Go.Ar
open Go Go.Den Go.Den.Yteakipgcanafoaa

end Go.Ar

/- RdC: a reading as it comes in as an argument: the law ArithReads over it. -/
set_option linter.unusedVariables false
set_option linter.unusedSimpArgs false
namespace Go.Ar
open Go Go.Den Go.Den.Yteakipgcanafoaa

theorem u8s_ints {l : List Int} (h : ∀ x ∈ l, IntKind.u8.min ≤ x ∧ x ≤ IntKind.u8.max) : (l.map fun x => (.int .u8 x : Value)) = u8s (l.map Int.toNat) ∧ ∀ x ∈ l.map Int.toNat, x < 256 := by
  have hb : ∀ x ∈ l, 0 ≤ x ∧ x ≤ 255 := fun x hx => by have := h x hx; simpa [IntKind.min, IntKind.max, IntKind.signed, IntKind.bits] using this
  constructor
  · unfold u8s
    rw [List.map_map]
    refine List.map_congr_left fun x hx => ?_
    have := hb x hx
    show Value.int .u8 x = .int .u8 ((x.toNat : Nat) : Int)
    rw [Int.toNat_of_nonneg this.1]
  · intro y hy
    obtain ⟨x, hx, rfl⟩ := List.mem_map.1 hy
    have := hb x hx
    omega
/-- Bytes that come in. -/
theorem wd_bytes {h : Heap} {cs : List Value} (H : WDx Go.Proofs.Try.prog h T_s_uint8 cs) :
    ∃ q cap, ∃ bs : List Nat, cs = [.slice q bs.length cap] ∧ bs.length ≤ cap ∧ cap < 140737488351300 ∧ (q = none → cap = 0) ∧ rdO h q (bs.length * 1) (u8s bs) ∧ ∀ x ∈ bs, x < 256 := by
  obtain ⟨q, cap, l, rfl, h1, h2, h3, h4, h5⟩ := wd_ints (k := .u8) Go.Proofs.Try.underlying24 Go.Proofs.Try.underlying5 (by kernel_rfl) H
  obtain ⟨e1, e2⟩ := u8s_ints h5
  have k1 : Go.Proofs.Try.prog.bytesOf T_uint8 = 1 := by kernel_rfl
  rw [k1] at h2
  have hr : reachBytes = 140737488351232 := rfl
  rw [e1] at h4
  refine ⟨q, cap, l.map Int.toNat, by simp, by simpa using h1, by omega, h3, by simpa using h4, e2⟩

end Go.Ar

/- Written by gen.py: the conditions of the functions of law5WholeEncodes. -/
set_option linter.unusedVariables false
set_option linter.unusedSimpArgs false
namespace Go.Den.Yteakipgcanafoaa
open Go Go.Den

/- burin/burinlaw5.WholeEncodes -/
set_option maxRecDepth 100000 in
def burinlaw5_WholeEncodes (C : CallP) (l : Option Addr) (ln : Nat) (lc : Nat) (h : Heap) (K : Value → Heap → Prop) (Kp : List PanicEntry → Heap → Prop) : Prop :=
bcase (decide ((ln : Int) > (200 : Int))) (
C F_burinlaw5_wakes #[] h (fun v_1 h_2 =>
∃ (r_3 : Bool), v_1 = .bool r_3 ∧ (
K (.bool r_3) h_2)) (Kp)) <|
appC h T_api_Whole 2 16 [.int .i64 0, .bool false] none (0) (0) l (ln) fun q_4 q_4n q_4c h_5 =>
C F_whole_Encode #[.slice q_4 q_4n q_4c] h_5 (fun v_6 h_7 =>
∃ (r_8 : Option Addr) (r_8n : Nat) (r_8c : Nat), ∃ (r_9 : Int), v_6 = .tuple #[.slice r_8 r_8n r_8c, .int .i64 r_9] ∧ (
C F_burinref5_Encode #[.slice l ln lc] h_7 (fun v_10 h_11 =>
∃ (r_12 : Option Addr) (r_12n : Nat) (r_12c : Nat), ∃ (r_13 : Int), v_10 = .tuple #[.slice r_12 r_12n r_12c, .int .i64 r_13] ∧ (
bcase (r_9 == r_13) (
C F_burinref0_Eq #[.slice r_8 r_8n r_8c, .slice r_12 r_12n r_12c] h_11 (fun v_14 h_15 =>
∃ (r_16 : Bool), v_14 = .bool r_16 ∧ (
bcase r_16 (
C F_burinref0_EqWholes #[.slice q_4 q_4n q_4c, .slice l ln lc] h_15 (fun v_17 h_18 =>
∃ (r_19 : Bool), v_17 = .bool r_19 ∧ (
bcase r_19 (
C F_burinlaw5_wakes #[] h_18 (fun v_20 h_21 =>
∃ (r_22 : Bool), v_20 = .bool r_22 ∧ (
K (.bool r_22) h_21)) (Kp)) <|
K (.bool false) h_18)) (Kp)) <|
K (.bool false) h_15)) (Kp)) <|
K (.bool false) h_11)) (Kp))) (Kp)

end Go.Den.Yteakipgcanafoaa

/- Written by gen.py: each condition of the functions of law5WholeEncodes is the one of its body; so it is enough for its call. -/
set_option linter.unusedVariables false
set_option linter.unusedSimpArgs false
namespace Go.Den.Yteakipgcanafoaa
open Go Go.Den

noncomputable def hints_burinlaw5_WholeEncodes : Hints := Hints.mk (fun i => none)
  (fun i => none)
  (fun i => none) []
set_option maxRecDepth 100000 in
theorem eq_burinlaw5_WholeEncodes (C : CallP) (l : Option Addr) (ln : Nat) (lc : Nat) (h : Heap) (K : Value → Heap → Prop) (Kp : List PanicEntry → Heap → Prop) :
    fnD Go.Proofs.Try.prog C hints_burinlaw5_WholeEncodes Go.Proofs.Try.f3 [.slice l ln lc] h K Kp = burinlaw5_WholeEncodes C l ln lc h K Kp := by kernel_rfl

theorem call_burinlaw5_WholeEncodes {l : Option Addr} {ln : Nat} {lc : Nat} {h : Heap} {K : Value → Heap → Prop} {Kp : List PanicEntry → Heap → Prop} (H : burinlaw5_WholeEncodes (CallsHP Go.Proofs.Try.prog) l ln lc h K Kp) : CallsHP Go.Proofs.Try.prog F_burinlaw5_WholeEncodes #[.slice l ln lc] h K Kp :=
  callsHP_of hints_burinlaw5_WholeEncodes (by kernel_rfl) Go.Proofs.Try.func3 (by kernel_rfl) (by rw [eq_burinlaw5_WholeEncodes]; exact H)

end Go.Den.Yteakipgcanafoaa

/- Written by gen.py: the conditions of the functions of law5WholeReads. -/
set_option linter.unusedVariables false
set_option linter.unusedSimpArgs false
namespace Go.Den.Yteakipgcanafoaa
open Go Go.Den

/- burin/burinlaw5.WholeReads -/
set_option maxRecDepth 100000 in
def burinlaw5_WholeReads (C : CallP) (p_1 : Option Addr) (p_1n : Nat) (p_1c : Nat) (p_2 : Int) (h : Heap) (K : Value → Heap → Prop) (Kp : List PanicEntry → Heap → Prop) : Prop :=
newC h [.slice p_1 p_1n p_1c, .int .i64 p_2] T_burinlaw5_Reading fun r_3 h_4 =>
ldI h_4 ((⟨r_3, 0, none⟩ : Addr).add 1) .i64 fun x_5 =>
∃ K_6 : List Value → Heap → Prop, (
bcase (decide (x_5 > (200 : Int))) (
bcase (decide (x_5 ≤ (65536 : Int))) (
K_6 [.int .i64 200] h_4) <|
K_6 [.int .i64 x_5] h_4) <|
K_6 [.int .i64 x_5] h_4) ∧ ∀ (h_7 : Heap) (u_8 : Nat → Value) (n_9 : Int), K_6 [.int .i64 n_9] h_7 → (
ldS h_7 ((⟨r_3, 0, none⟩ : Addr).add 0) fun x_10 x_10n x_10c =>
C F_burinkit_Lend #[.slice x_10 x_10n x_10c] h_7 (fun v_11 h_12 =>
∃ (r_13 : Option Addr) (r_13n : Nat) (r_13c : Nat), v_11 = .slice r_13 r_13n r_13c ∧ (
C F_whole_Decode #[.slice r_13 r_13n r_13c, .int .i64 n_9] h_12 (fun v_14 h_15 =>
∃ (r_16 : Option Addr) (r_16n : Nat) (r_16c : Nat), ∃ (r_17 : Int), v_14 = .tuple #[.slice r_16 r_16n r_16c, .int .i64 r_17] ∧ (
ldS h_15 ((⟨r_3, 0, none⟩ : Addr).add 0) fun x_18 x_18n x_18c =>
C F_burinref5_Decode #[.slice x_18 x_18n x_18c, .int .i64 n_9] h_15 (fun v_19 h_20 =>
∃ (r_21 : Option Addr) (r_21n : Nat) (r_21c : Nat), ∃ (r_22 : Int), v_19 = .tuple #[.slice r_21 r_21n r_21c, .int .i64 r_22] ∧ (
ldS h_20 ((⟨r_3, 0, none⟩ : Addr).add 0) fun x_23 x_23n x_23c =>
C F_burinkit_Back #[.slice r_13 r_13n r_13c, .slice x_23 x_23n x_23c] h_20 (fun v_24 h_25 =>
∃ (r_26 : Bool), v_24 = .bool r_26 ∧ (
bcase r_26 (
bcase (r_17 == r_22) (
C F_burinref0_EqWholes #[.slice r_16 r_16n r_16c, .slice r_21 r_21n r_21c] h_25 (fun v_27 h_28 =>
∃ (r_29 : Bool), v_27 = .bool r_29 ∧ (
bcase r_29 (
C F_burinlaw5_wakes #[] h_28 (fun v_30 h_31 =>
∃ (r_32 : Bool), v_30 = .bool r_32 ∧ (
K (.bool r_32) h_31)) (Kp)) <|
K (.bool false) h_28)) (Kp)) <|
K (.bool false) h_25) <|
K (.bool false) h_25)) (Kp))) (Kp))) (Kp))) (Kp))

end Go.Den.Yteakipgcanafoaa

/- Written by gen.py: each condition of the functions of law5WholeReads is the one of its body; so it is enough for its call. -/
set_option linter.unusedVariables false
set_option linter.unusedSimpArgs false
namespace Go.Den.Yteakipgcanafoaa
open Go Go.Den

noncomputable def hints_burinlaw5_WholeReads : Hints := Hints.mk (fun i => none)
  (fun i => none)
  (fun i => bif Nat.beq i 4 then some ([(3, .int .i64)], 129032) else (none)) []
set_option maxRecDepth 100000 in
theorem eq_burinlaw5_WholeReads (C : CallP) (p_1 : Option Addr) (p_1n : Nat) (p_1c : Nat) (p_2 : Int) (h : Heap) (K : Value → Heap → Prop) (Kp : List PanicEntry → Heap → Prop) :
    fnD Go.Proofs.Try.prog C hints_burinlaw5_WholeReads Go.Proofs.Try.f4 [.agg #[.slice p_1 p_1n p_1c, .int .i64 p_2]] h K Kp = burinlaw5_WholeReads C p_1 p_1n p_1c p_2 h K Kp := by kernel_rfl

theorem call_burinlaw5_WholeReads {p_1 : Option Addr} {p_1n : Nat} {p_1c : Nat} {p_2 : Int} {h : Heap} {K : Value → Heap → Prop} {Kp : List PanicEntry → Heap → Prop} (H : burinlaw5_WholeReads (CallsHP Go.Proofs.Try.prog) p_1 p_1n p_1c p_2 h K Kp) : CallsHP Go.Proofs.Try.prog F_burinlaw5_WholeReads #[.agg #[.slice p_1 p_1n p_1c, .int .i64 p_2]] h K Kp :=
  callsHP_of hints_burinlaw5_WholeReads (by kernel_rfl) Go.Proofs.Try.func4 (by kernel_rfl) (by rw [eq_burinlaw5_WholeReads]; exact H)

end Go.Den.Yteakipgcanafoaa

/- WhR: the laws WholeEncodes and WholeReads, said of memory. -/
set_option linter.unusedVariables false
set_option linter.unusedSimpArgs false
namespace Go.Bm
open Go Go.Den Go.Den.Yteakipgcanafoaa
open Go.Ar (newC newD flushM bytesM u8s wd_bytes)

theorem EncWh.det {l : List (Int × Bool)} {e e' : Int} {bs bs' : List Nat} (h : EncWh l e bs) (h' : EncWh l e' bs') : e = e' ∧ bs = bs' := by
  rcases h with ⟨h1, rfl, rfl⟩ | ⟨h1, rfl, rfl, _⟩ <;> rcases h' with ⟨h2, rfl, rfl⟩ | ⟨h2, rfl, rfl, _⟩
  · exact ⟨rfl, rfl⟩
  · exact absurd h2 h1
  · exact absurd h1 h2
  · exact ⟨rfl, rfl⟩
theorem EncWh.bytes {l : List (Int × Bool)} {e : Int} {bs : List Nat} (h : EncWh l e bs) : (∀ x ∈ bs, x < 256) ∧ bs.length < 140737488351300 := by
  rcases h with ⟨_, _, rfl⟩ | ⟨_, _, rfl, n, hn, hok⟩
  · exact ⟨(fun x hx => by cases hx), by decide⟩
  · refine ⟨Go.Ar.flushM_lt hok.wf, ?_⟩
    have h1 := Go.Ar.flushM_len (encS l (newC 512))
    have h2 := hok.wf.len
    have h3 := hok.wf.n
    omega
theorem DecWh.len {b : List Nat} {n e : Int} {l : List (Int × Bool)} (h : DecWh b n e l) : l.length ≤ 65536 := by
  rcases h with ⟨_, _, rfl⟩ | ⟨hn, ⟨_, _, _, _, _, rfl⟩ | ⟨_, _, rfl⟩⟩
  · exact Nat.zero_le _
  · exact Nat.zero_le _
  · rw [seqW_len]; omega
theorem whC_one (l : List (Int × Bool)) : ∀ v ∈ whC l, v.oneCell' = true := fun v hv => by
  unfold whC at hv
  obtain ⟨x, _, hx⟩ := List.mem_flatMap.1 hv
  rcases List.mem_cons.1 hx with rfl | hx
  · rfl
  · rw [List.mem_singleton.1 hx]; rfl
/-- A copy of a row by append. -/
theorem appW {h0 h : Heap} {F : List Nat} {L : List Ent} {q : Option Addr} {l : List (Int × Bool)} (H : Hp h0 F h L) (hr : rdO h q (l.length * 2) (whC l)) (hl : l.length ≤ 200)
    {K : Option Addr → Nat → Nat → Heap → Prop} (hk : ∀ D q' c' h', Slot T_api_Whole 2 D q' l.length c' (whC l) → Hp h0 F h' (L ++ D) → K q' l.length c' h') : appC h T_api_Whole 2 16 [.int .i64 0, .bool false] none 0 0 q l.length K := by
  rcases Nat.eq_zero_or_pos l.length with h1 | h1
  · have hl0 : l = [] := List.length_eq_zero_iff.1 h1
    subst hl0
    refine ⟨whC [], hr, ?_⟩
    rw [if_pos (by simp)]
    exact hk [] none 0 h (Slot.nil _ _) (by rw [List.append_nil]; exact H)
  · refine Slot.app (A := L) (B := []) (D := []) (n := 0) (m := l.length) (new := whC l) (Slot.nil T_api_Whole 2) (by simpa using H) rfl hr (whC_len l) (whC_one l) h1 (by omega) fun D' q' c' h' hs H' => ?_
    rw [Nat.zero_add] at hs ⊢
    exact hk D' q' c' h' (by simpa using hs) (by simpa using H')

set_option maxRecDepth 100000 in
set_option maxHeartbeats 2000000 in
theorem wEncodes_law {hB : Heap} {sq : Option Addr} {l : List (Int × Bool)} {scap : Nat} (hr : l.length ≤ 200 → rdO hB sq (l.length * 2) (whC l)) (hv : I64L l) {K : Value → Heap → Prop} {Kp : List PanicEntry → Heap → Prop} (hk : ∀ h', hext hB h' → K (.bool true) h') :
    CP F_burinlaw5_WholeEncodes #[.slice sq l.length scap] hB K Kp := by
  refine call_burinlaw5_WholeEncodes ?_
  unfold burinlaw5_WholeEncodes
  refine bcase_dec (fun h1 => wakes5_ok fun h' e => ⟨_, rfl, hk _ e⟩) fun h1 => ?_
  have hl : l.length ≤ 200 := by omega
  have hr := hr hl
  have H := Hp.nil hB []
  refine appW H hr hl fun D1 q1 c1 h hs1 H => ?_
  rw [List.nil_append] at H
  refine whEnc_ok (Slot.rdO (A := []) (B := []) hs1 (by simpa using H)) hv hl fun e bs D qo c h' henc hsl H' => ?_
  replace H := H.join H' hsl.w
  clear H'
  refine ⟨_, _, _, _, rfl, ?_⟩
  refine whEnc5_ok (H.rdO hr) hv hl fun e' bs' D2 qo2 c2 h' henc2 hsl2 H' => ?_
  replace H := H.join H' hsl2.w
  clear H'
  obtain ⟨rfl, rfl⟩ := henc.det henc2
  refine ⟨_, _, _, _, rfl, ?_⟩
  refine bcase_true (by simp) ?_
  refine Go.Ar.eq_ok (xs := bs) (ys := bs) (Slot.rdO' hsl (Hp.pre (Y := D2) H) fun e he => List.mem_append_right _ he) (Slot.rdO' hsl2 H fun e he => List.mem_append_right _ he) henc.bytes.2 ?_
  refine ⟨_, rfl, ?_⟩
  refine bcase_true (by simp) ?_
  refine eqWh_ok (la := l) (lb := l) (Slot.rdO' hs1 H fun e he => List.mem_append_left _ (List.mem_append_left _ he)) (H.rdO hr) (by omega) ?_
  refine ⟨_, rfl, ?_⟩
  refine bcase_true (by simp) ?_
  exact wakes5_ok fun h' e => ⟨_, rfl, hk _ (H.hext.trans e)⟩

set_option maxRecDepth 100000 in
/-- A row of numbers that comes in. -/
theorem wd_wholes {h : Heap} {cs : List Value} (H : WDx TP h T_s_api_Whole cs) : ∃ q cap, ∃ l : List (Int × Bool), cs = [.slice q l.length cap] ∧ rdO h q (l.length * 2) (whC l) ∧ I64L l ∧ l.length < 140737488351300 := by
  obtain ⟨q, len, cap, rfl, h1, h2, h3, h4⟩ := wd_slice Go.Proofs.Try.underlying22 H
  have k : TP.cellsOf T_api_Whole = 2 := by kernel_rfl
  have kb : TP.bytesOf T_api_Whole = 16 := by kernel_rfl
  have hrb : reachBytes = 140737488351232 := rfl
  rw [k] at h4
  rw [kb] at h2
  have key : ∀ n, n ≤ len → ∃ l : List (Int × Bool), l.length = n ∧ (∀ i x, l[i]? = some x → ∃ a, q = some a ∧ hcell h (a.add (i * 2)) = some (.int .i64 x.1) ∧ hcell h (a.add (i * 2 + 1)) = some (.bool x.2)) ∧ I64L l := by
    intro n
    induction n with
    | zero => exact fun _ => ⟨[], rfl, fun i x hx => by simp at hx, fun x hx => by simp at hx⟩
    | succ n ih =>
      intro hn
      obtain ⟨l, e1, e2, e3⟩ := ih (by omega)
      obtain ⟨a, cs', hq, hr, hw⟩ := h4 n (by omega)
      obtain ⟨hl, hf⟩ := wd_struct Go.Proofs.Try.underlying38 hw
      rw [k] at hl
      obtain ⟨v0, v1, rfl⟩ : ∃ a b, cs' = [a, b] := by
        match cs', hl with
        | [a, b], _ => exact ⟨a, b, rfl⟩
      have kI : TP.cellsOf T_int64 = 1 := by kernel_rfl
      have kB : TP.cellsOf T_bool = 1 := by kernel_rfl
      obtain ⟨x, ex, hx1, hx2⟩ := wd_int Go.Proofs.Try.underlying2 (one_of kI (hf 0 _ rfl) (v := v0) rfl)
      obtain ⟨y, ey⟩ := wd_bool Go.Proofs.Try.underlying4 (one_of kB (hf 1 _ rfl) (v := v1) rfl)
      simp only [List.cons.injEq, and_true] at ex ey
      subst ex ey
      have hxx : -9223372036854775808 ≤ x ∧ x < 9223372036854775808 := by
        have e1 : IntKind.i64.min = -9223372036854775808 := by decide
        have e2 : IntKind.i64.max = 9223372036854775807 := by decide
        omega
      refine ⟨l ++ [(x, y)], by simp [e1], fun i z hz => ?_, fun z hz => ?_⟩
      · rcases Nat.lt_or_ge i l.length with hi | hi
        · rw [List.getElem?_append_left hi] at hz
          exact e2 i z hz
        · have hi2 := (List.getElem?_eq_some_iff.1 hz).1
          simp at hi2
          have : i = n := by omega
          subst this
          rw [List.getElem?_append_right hi, e1, Nat.sub_self] at hz
          have hz : (x, y) = z := by simpa using hz
          subst hz
          refine ⟨a, hq, ?_, ?_⟩
          · have := hr.2 0 _ rfl
            rw [add_zero'] at this
            exact this
          · have := hr.2 1 _ rfl
            rw [Go.Ar.add_add'] at this
            exact this
      · rcases List.mem_append.1 hz with hz | hz
        · exact e3 z hz
        · rw [List.mem_singleton.1 hz]; exact hxx
  obtain ⟨l, e1, e2, e3⟩ := key len (Nat.le_refl _)
  subst e1
  refine ⟨q, cap, l, rfl, ?_, e3, by omega⟩
  cases q with
  | none =>
    have := (h3 rfl).1
    rw [List.length_eq_zero_iff.1 this]
    exact rfl
  | some a =>
    refine ⟨whC_len l, fun j v hj => ?_⟩
    have hjl := (List.getElem?_eq_some_iff.1 hj).1
    rw [whC_len] at hjl
    obtain ⟨x, hx⟩ : ∃ x, l[j / 2]? = some x := ⟨_, List.getElem?_eq_getElem (by omega)⟩
    obtain ⟨g1, g2⟩ := whC_get hx
    obtain ⟨a', ha, c1, c2⟩ := e2 _ _ hx
    injection ha with ha
    subst ha
    rcases Nat.mod_two_eq_zero_or_one j with hm | hm
    · rw [show j / 2 * 2 = j by omega] at g1 c1
      rw [g1] at hj
      injection hj with hj
      rw [← hj]
      exact c1
    · rw [show j / 2 * 2 + 1 = j by omega] at g2 c2
      rw [g2] at hj
      injection hj with hj
      rw [← hj]
      exact c2

set_option maxRecDepth 100000 in
set_option maxHeartbeats 2000000 in
theorem wReads_law {hB : Heap} {bq : Option Addr} {bs : List Nat} {bcap : Nat} {n0 : Int} (hb8 : ∀ x ∈ bs, x < 256) (hbl : bs.length < 140737488351300) (hr : rdO hB bq (bs.length * 1) (u8s bs)) {K : Value → Heap → Prop} {Kp : List PanicEntry → Heap → Prop} (hk : ∀ h', hext hB h' → K (.bool true) h') :
    CP F_burinlaw5_WholeReads #[.agg #[.slice bq bs.length bcap, .int .i64 n0]] hB K Kp := by
  refine call_burinlaw5_WholeReads ?_
  unfold burinlaw5_WholeReads
  have H := Hp.nil hB []
  refine newC_hp H fun r3 h H => ?_
  repeat first | with_reducible refine ldI_of (by with_unfolding_all first | exact hpA H 0 rfl rfl | exact Hp.cell H 0 rfl rfl | exact hpB H 0 rfl rfl | exact hpC H 0 rfl rfl) ?_ | with_reducible refine ldS_of (by with_unfolding_all first | exact hpA H 0 rfl rfl | exact Hp.cell H 0 rfl rfl | exact hpB H 0 rfl rfl | exact hpC H 0 rfl rfl) ?_ | with_reducible refine ldP_of (by with_unfolding_all first | exact hpA H 0 rfl rfl | exact Hp.cell H 0 rfl rfl | exact hpB H 0 rfl rfl | exact hpC H 0 rfl rfl) ?_ | with_reducible refine ldB_of (by with_unfolding_all first | exact hpA H 0 rfl rfl | exact Hp.cell H 0 rfl rfl | exact hpB H 0 rfl rfl | exact hpC H 0 rfl rfl) ?_ | with_reducible refine ldT_of (by with_unfolding_all first | exact hpA H 0 rfl rfl | exact Hp.cell H 0 rfl rfl | exact hpB H 0 rfl rfl | exact hpC H 0 rfl rfl) ?_
  refine ⟨fun vs h' => ∃ n : Int, vs = [.int .i64 n] ∧ Hp hB [] h' [⟨r3, true, T_burinlaw5_Reading, [.slice bq bs.length bcap, .int .i64 n0]⟩], ?_, ?_⟩
  · refine bcase_dec (fun h1 => ?_) fun h1 => ?_
    · refine bcase_dec (fun h2 => ?_) fun h2 => ?_
      · exact ⟨_, rfl, H⟩
      · exact ⟨_, rfl, H⟩
    · exact ⟨_, rfl, H⟩
  clear H
  rintro h u n ⟨n', hn, H⟩
  injection hn with hn
  injection hn with _ hn
  subst hn
  repeat first | with_reducible refine ldI_of (by with_unfolding_all first | exact hpA H 0 rfl rfl | exact Hp.cell H 0 rfl rfl | exact hpB H 0 rfl rfl | exact hpC H 0 rfl rfl) ?_ | with_reducible refine ldS_of (by with_unfolding_all first | exact hpA H 0 rfl rfl | exact Hp.cell H 0 rfl rfl | exact hpB H 0 rfl rfl | exact hpC H 0 rfl rfl) ?_ | with_reducible refine ldP_of (by with_unfolding_all first | exact hpA H 0 rfl rfl | exact Hp.cell H 0 rfl rfl | exact hpB H 0 rfl rfl | exact hpC H 0 rfl rfl) ?_ | with_reducible refine ldB_of (by with_unfolding_all first | exact hpA H 0 rfl rfl | exact Hp.cell H 0 rfl rfl | exact hpB H 0 rfl rfl | exact hpC H 0 rfl rfl) ?_ | with_reducible refine ldT_of (by with_unfolding_all first | exact hpA H 0 rfl rfl | exact Hp.cell H 0 rfl rfl | exact hpB H 0 rfl rfl | exact hpC H 0 rfl rfl) ?_
  refine Go.Ar.lend_ok (H.rdO hr) hbl fun o rest c h' hc H' => ?_
  replace H := H.join H' rfl
  clear H'
  refine ⟨_, _, _, rfl, ?_⟩
  refine wdec_ok (Go.Ar.row_rdO H 1 rfl) hb8 hbl fun e l D qo co h' hdec hsl H' => ?_
  replace H := H.join H' hsl.w
  clear H'
  refine ⟨_, _, _, _, rfl, ?_⟩
  repeat first | with_reducible refine ldI_of (by with_unfolding_all first | exact hpA H 0 rfl rfl | exact hpA H 1 rfl rfl | exact Hp.cell H 0 rfl rfl | exact Hp.cell H 1 rfl rfl | exact hpB H 0 rfl rfl | exact hpB H 1 rfl rfl | exact hpC H 0 rfl rfl | exact hpC H 1 rfl rfl) ?_ | with_reducible refine ldS_of (by with_unfolding_all first | exact hpA H 0 rfl rfl | exact hpA H 1 rfl rfl | exact Hp.cell H 0 rfl rfl | exact Hp.cell H 1 rfl rfl | exact hpB H 0 rfl rfl | exact hpB H 1 rfl rfl | exact hpC H 0 rfl rfl | exact hpC H 1 rfl rfl) ?_ | with_reducible refine ldP_of (by with_unfolding_all first | exact hpA H 0 rfl rfl | exact hpA H 1 rfl rfl | exact Hp.cell H 0 rfl rfl | exact Hp.cell H 1 rfl rfl | exact hpB H 0 rfl rfl | exact hpB H 1 rfl rfl | exact hpC H 0 rfl rfl | exact hpC H 1 rfl rfl) ?_ | with_reducible refine ldB_of (by with_unfolding_all first | exact hpA H 0 rfl rfl | exact hpA H 1 rfl rfl | exact Hp.cell H 0 rfl rfl | exact Hp.cell H 1 rfl rfl | exact hpB H 0 rfl rfl | exact hpB H 1 rfl rfl | exact hpC H 0 rfl rfl | exact hpC H 1 rfl rfl) ?_ | with_reducible refine ldT_of (by with_unfolding_all first | exact hpA H 0 rfl rfl | exact hpA H 1 rfl rfl | exact Hp.cell H 0 rfl rfl | exact Hp.cell H 1 rfl rfl | exact hpB H 0 rfl rfl | exact hpB H 1 rfl rfl | exact hpC H 0 rfl rfl | exact hpC H 1 rfl rfl) ?_
  refine rdec5_ok (H.rdO hr) hb8 hbl fun e2 l2 D2 qo2 co2 h' hdec2 hsl2 H' => ?_
  replace H := H.join H' hsl2.w
  clear H'
  obtain ⟨rfl, rfl⟩ := hdec.same hdec2
  refine ⟨_, _, _, _, rfl, ?_⟩
  repeat first | with_reducible refine ldI_of (by with_unfolding_all first | exact hpA H 0 rfl rfl | exact hpA H 1 rfl rfl | exact Hp.cell H 0 rfl rfl | exact Hp.cell H 1 rfl rfl | exact hpB H 0 rfl rfl | exact hpB H 1 rfl rfl | exact hpC H 0 rfl rfl | exact hpC H 1 rfl rfl) ?_ | with_reducible refine ldS_of (by with_unfolding_all first | exact hpA H 0 rfl rfl | exact hpA H 1 rfl rfl | exact Hp.cell H 0 rfl rfl | exact Hp.cell H 1 rfl rfl | exact hpB H 0 rfl rfl | exact hpB H 1 rfl rfl | exact hpC H 0 rfl rfl | exact hpC H 1 rfl rfl) ?_ | with_reducible refine ldP_of (by with_unfolding_all first | exact hpA H 0 rfl rfl | exact hpA H 1 rfl rfl | exact Hp.cell H 0 rfl rfl | exact Hp.cell H 1 rfl rfl | exact hpB H 0 rfl rfl | exact hpB H 1 rfl rfl | exact hpC H 0 rfl rfl | exact hpC H 1 rfl rfl) ?_ | with_reducible refine ldB_of (by with_unfolding_all first | exact hpA H 0 rfl rfl | exact hpA H 1 rfl rfl | exact Hp.cell H 0 rfl rfl | exact Hp.cell H 1 rfl rfl | exact hpB H 0 rfl rfl | exact hpB H 1 rfl rfl | exact hpC H 0 rfl rfl | exact hpC H 1 rfl rfl) ?_ | with_reducible refine ldT_of (by with_unfolding_all first | exact hpA H 0 rfl rfl | exact hpA H 1 rfl rfl | exact Hp.cell H 0 rfl rfl | exact Hp.cell H 1 rfl rfl | exact hpB H 0 rfl rfl | exact hpB H 1 rfl rfl | exact hpC H 0 rfl rfl | exact hpC H 1 rfl rfl) ?_
  refine Go.Ar.back_ok (H.give [1] (by simp) rfl) (H.rdO hr) hbl hc fun cs1 h' H' => ?_
  replace H := H.put [1] (by simp) rfl rfl H' rfl rfl
  clear H'
  refine ⟨_, rfl, ?_⟩
  refine bcase_true (by rfl) ?_
  refine bcase_true (by simp) ?_
  have H : Hp hB [] h' ([⟨r3, true, T_burinlaw5_Reading, [.slice bq bs.length bcap, .int .i64 n0]⟩, ⟨o, true, T_uint8, cs1⟩] ++ D ++ D2) := H
  have hll := hdec.len
  refine eqWh_ok (la := l) (lb := l) (Slot.rdO' hsl (Hp.pre (Y := D2) H) fun e he => List.mem_append_right _ he) (Slot.rdO' hsl2 H fun e he => List.mem_append_right _ he) (by omega) ?_
  refine ⟨_, rfl, ?_⟩
  refine bcase_true (by simp) ?_
  exact wakes5_ok fun h' e => ⟨_, rfl, hk _ (H.hext.trans e)⟩
theorem list2w {α : Type} {l : List α} (h : l.length = 2) : ∃ a b, l = [a, b] := by
  match l, h with
  | [a, b], _ => exact ⟨a, b, rfl⟩
theorem wReads_arg {h : Heap} {cs : Array Value} (hsz : cs.size = TP.cellsOf T_burinlaw5_Reading) (hw : WDx TP h T_burinlaw5_Reading cs.toList) {K : Value → Heap → Prop} {Kp : List PanicEntry → Heap → Prop} (hk : ∀ h', hext h h' → K (.bool true) h') :
    CP F_burinlaw5_WholeReads #[.agg cs] h K Kp := by
  obtain ⟨hl, hf⟩ := wd_struct Go.Proofs.Try.underlying32 hw
  have k : TP.cellsOf T_burinlaw5_Reading = 2 := by kernel_rfl
  rw [k] at hl
  obtain ⟨v0, v1, hcs⟩ := list2w hl
  rw [hcs] at hf
  have k1 : TP.cellsOf T_s_uint8 = 1 := by kernel_rfl
  obtain ⟨q, cap, bs, e0, h1, h2, h3, g1, g2⟩ := wd_bytes (one_of k1 (hf 0 _ rfl) (v := v0) rfl)
  obtain ⟨b, e1, _⟩ := wd_int Go.Proofs.Try.underlying3 (one_of k_int (hf 1 _ rfl) (v := v1) rfl)
  simp only [List.cons.injEq, and_true] at e0 e1
  subst e0 e1
  obtain rfl : cs = #[.slice q bs.length cap, .int .i64 b] := by
    apply Array.toList_inj.1
    rw [hcs]
  exact wReads_law g2 (by omega) g1 hk
end Go.Bm

/- WhT: IDs: whole.PutID, whole.GetID, burinref5.PutID; refusals without a coder, of bases that do not fit. -/
set_option linter.unusedVariables false
set_option linter.unusedSimpArgs false
namespace Go.Bm
open Go Go.Den Go.Den.Yteakipgcanafoaa
open Go.Ar (Cod CodOk Dec BOk codL decL refL RP idx putM putM_ok getD getD_ok getD_bit)

theorem runX_ok {nx : Nat → Nat → Nat} {m n0 : Nat} {base : Int} {s : Cod} (hc : CodOk m n0 s) : ∀ (l : List Nat) (v : Nat), n0 + l.length ≤ 16777216 → CodOk m (n0 + l.length) (runX nx m base l (v, s)).2 := by
  intro l
  induction l generalizing n0 s with
  | nil => intro v _; exact hc
  | cons b l ih =>
    intro v hn
    rw [List.length_cons] at hn ⊢
    have h1 := ih (putM_ok hc (idx (base + (v : Int)) m) b (by omega)) (nx v b) (by omega)
    rw [show n0 + (l.length + 1) = n0 + 1 + l.length by omega]
    exact h1
theorem runX_fst (nx : Nat → Nat → Nat) (m : Nat) (base : Int) (s : Cod) : ∀ (l : List Nat) (v : Nat), (runX nx m base l (v, s)).1 = ndN nx l v := by
  intro l
  induction l generalizing s with
  | nil => intro v; rfl
  | cons b l ih => intro v; exact ih (putM s (idx (base + (v : Int)) m) b) (nx v b)
/-- A procedure of IDs may be. -/
def IdFit (base : Int) (w m : Nat) : Prop := 0 ≤ base ∧ base + ((2 ^ w : Nat) : Int) ≤ (m : Int)
theorem pow12 {w : Nat} (h : w ≤ 12) : 1 ≤ 2 ^ w ∧ 2 ^ w ≤ 4096 := by
  have h1 : (2 : Nat) ^ w ≤ 2 ^ 12 := Nat.pow_le_pow_right (by decide) h
  have h2 : 0 < (2 : Nat) ^ w := Nat.pow_pos (by decide)
  have h3 : (2 : Nat) ^ 12 = 4096 := by decide
  omega
theorem shl1_of {w : Nat} (h : w ≤ 12) : shlI .i64 (1 : Int) ((w : Nat) : Int) = ((2 ^ w : Nat) : Int) := by
  have hp := pow12 h
  refine shl_of (x := 1) (i := w) (by show w ≤ 64; omega) ?_
  rw [Nat.one_mul]
  exact i64_in _ (by omega) (by omega)
section
variable {hB : Heap} {K : Value → Heap → Prop} {Kp : List PanicEntry → Heap → Prop}
theorem wids_ok {base width : Int} {m : Nat} (hm : m ≤ 131072) (h52 : ¬ (0 ≤ width ∧ width ≤ 12) → K (.int .i64 52) hB) (h51 : ∀ w : Nat, width = (w : Nat) → w ≤ 12 → ¬ IdFit base w m → K (.int .i64 51) hB) (hk0 : ∀ w : Nat, width = (w : Nat) → w ≤ 12 → IdFit base w m → K (.int .i64 0) hB) :
    CP F_whole_ids #[.int .i64 base, .int .i64 width, .int .i64 (m : Nat)] hB K Kp := by
  refine call_whole_ids ?_
  unfold whole_ids
  refine bcase_dec (fun h1 => h52 (by omega)) fun h1 => ?_
  refine bcase_dec (fun h2 => h52 (by omega)) fun h2 => ?_
  obtain ⟨w, rfl⟩ : ∃ w : Nat, width = (w : Nat) := ⟨width.toNat, by omega⟩
  have hw : w ≤ 12 := by omega
  have hp := pow12 hw
  refine needs_of (by omega) ?_
  refine bindI_of (((2 ^ w : Nat) : Int)) (by exact shl1_of hw) ?_
  refine wfits_ok (many := 2 ^ w) (all := m) (by omega) (by omega) fun bf hbf => ?_
  refine ⟨_, rfl, ?_⟩
  refine bcase_not (fun h3 => h51 w rfl hw fun hh => ?_) fun h3 => hk0 w rfl hw (hbf.1 h3)
  rw [hbf.2 hh] at h3
  cases h3
end

section
variable {h0 h : Heap} {FF : List Nat} {m n0 : Nat} {base width id : Int} {K : Value → Heap → Prop} {Kp : List PanicEntry → Heap → Prop}
set_option maxRecDepth 100000 in
set_option maxHeartbeats 4000000 in
theorem wputid_ok {p q r : Nat} {s : Cod} {rest : List Value} (HC : Hp h0 FF h (codL p q r s rest)) (hc : CodOk m n0 s) (hm1 : 1 ≤ m) (hm2 : m ≤ 131072) (hN : n0 + 64 ≤ 16777216)
    (hk52 : ¬ (0 ≤ width ∧ width ≤ 12) → K (.int .i64 52) h) (hk51 : ∀ w : Nat, width = (w : Nat) → w ≤ 12 → ¬ IdFit base w m → K (.int .i64 51) h)
    (hk50 : ∀ w : Nat, width = (w : Nat) → w ≤ 12 → IdFit base w m → ¬ (0 ≤ id ∧ id < ((2 ^ w : Nat) : Int)) → K (.int .i64 50) h)
    (hk0 : ∀ (w x r' : Nat) rest' h', width = (w : Nat) → w ≤ 12 → IdFit base w m → id = (x : Nat) → x < 2 ^ w → Hp h0 FF h' (codL p q r' (runI m base (tailB x w) (1, s)).2 rest') → K (.int .i64 0) h') :
    CP F_whole_PutID #[.pointer (at0 p), .int .i64 base, .int .i64 width, .int .i64 id] h K Kp := by
  refine call_whole_PutID ?_
  unfold whole_PutID
  refine bcase_false (by rfl) ?_
  refine ptr_of (a := ⟨p, 0, none⟩) ?_
  refine Go.Ar.contexts_ok (n := s.st.length) HC 0 rfl ?_
  refine ⟨_, rfl, ?_⟩
  rw [hc.len]
  refine wids_ok hm2 (fun h1 => ⟨_, rfl, ?_⟩) (fun w ew hw h1 => ⟨_, rfl, ?_⟩) (fun w ew hw h1 => ⟨_, rfl, ?_⟩)
  · refine bcase_true (by rfl) ?_
    exact hk52 h1
  · refine bcase_true (by rfl) ?_
    exact hk51 w ew hw h1
  subst ew
  have hp := pow12 hw
  refine bcase_false (by rfl) ?_
  refine bcase_dec (fun h2 => hk50 w rfl hw h1 (by omega)) fun h2 => ?_
  obtain ⟨x, rfl⟩ : ∃ x : Nat, id = (x : Nat) := ⟨id.toNat, by omega⟩
  refine needs_of (by omega) ?_
  refine bindI_of (((x / 2 ^ w : Nat) : Int)) (by exact shr_of (by show w ≤ 64; omega)) ?_
  refine bcase_ne (fun h3 => hk50 w rfl hw h1 fun hh => h3 ?_) fun h3 => ?_
  · rw [Nat.div_eq_of_lt (by omega)]
    rfl
  have hx : x < 2 ^ w := by
    have h3 : x / 2 ^ w = 0 := by omega
    rcases Nat.div_eq_zero_iff.1 h3 with h4 | h4
    · omega
    · exact h4
  refine bindI_of (((w : Int) - 1)) (by exact i64_in _ (by omega) (by omega)) ?_
  refine ⟨fun f vs h' => ∃ (i r' : Nat) (rest' : List Value), i + f = w ∧ vs = [.int .i64 ((runI m base ((tailB x w).take i) (1, s)).1 : Nat), .int .i64 ((w : Int) - 1 - (i : Int))] ∧
    Hp h0 FF h' (codL p q r' (runI m base ((tailB x w).take i) (1, s)).2 rest'), ⟨w, 0, r, rest, by omega, (by rw [show ((w : Int) - 1 - ((0 : Nat) : Int)) = (w : Int) - 1 by omega]; rfl), HC⟩, ?_⟩
  clear HC
  rintro f h u v1 v2 ⟨i, r', rest', hif, hxx, H⟩
  injection hxx with hx1 hxx
  injection hxx with hx2 hxx
  injection hx1 with _ hx1
  injection hx2 with _ hx2
  subst hx1 hx2
  refine bcase_dec (fun h4 => ?_) fun h4 => ?_
  · have hi : i < w := by omega
    have hlen : ((tailB x w).take i).length = i := by rw [List.length_take, tailB_len]; omega
    have hcod := runX_ok (nx := nextI) (base := base) hc ((tailB x w).take i) 1 (by rw [hlen]; omega)
    have hnd := (runX_fst nextI m base s ((tailB x w).take i) 1).trans (ndI x w hx i (by omega))
    have hsn := runX_snoc nextI m base ((tailB x w).take i) (x / 2 ^ (w - 1 - i) % 2) (1, s)
    have htk := tailB_take (x := x) hi
    have hpi : (2 : Nat) ^ i ≤ 2 ^ w := Nat.pow_le_pow_right (by decide) (by omega)
    have hdv : x / 2 ^ (w - i) < 2 ^ w := Nat.lt_of_le_of_lt (Nat.div_le_self _ _) hx
    rw [hlen] at hcod
    unfold runI at H ⊢
    rw [← htk] at hsn
    generalize runX nextI m base ((tailB x w).take i) (1, s) = st at hcod hnd hsn H ⊢
    obtain ⟨nd, S1⟩ := st
    have hnd : nd = 2 ^ i + x / 2 ^ (w - i) := hnd
    have hcod : CodOk m (n0 + i) S1 := hcod
    have hb1 : x / 2 ^ (w - 1 - i) % 2 ≤ 1 := Nat.le_of_lt_succ (Nat.mod_lt _ (by decide))
    rw [show ((w : Int) - 1 - (i : Int)) = ((w - 1 - i : Nat) : Int) by omega]
    refine needs_of (by omega) ?_
    refine bindI_of (((x / 2 ^ (w - 1 - i) : Nat) : Int)) (by exact shr_of (by show w - 1 - i ≤ 64; omega)) ?_
    refine bindI_of (((x / 2 ^ (w - 1 - i) % 2 : Nat) : Int)) (by rw [and63_1]; rfl) ?_
    unfold IdFit at h1
    refine bindI_of ((base + (nd : Int))) (by exact i64_in _ (by omega) (by omega)) ?_
    refine Go.Ar.put_ok (bit := x / 2 ^ (w - 1 - i) % 2) H hcod.wf hcod.done (by rw [hcod.n]; omega) (by rw [hcod.len]; exact hm1) (by rw [hcod.len]; exact hm2) hb1 fun r4 rest4 h5 H => ?_
    rw [hcod.len] at H
    refine ⟨_, rfl, ?_⟩
    refine bcase_false (by rfl) ?_
    generalize x / 2 ^ (w - 1 - i) % 2 = bit at hb1 hsn H ⊢
    refine bindI_of (((2 * nd : Nat) : Int)) (by exact i64_at _ _ (by omega) (by omega) (by omega)) ?_
    refine bindI_of (((2 * nd + bit : Nat) : Int)) (by exact i64_at _ _ (by omega) (by omega) (by omega)) ?_
    refine bindI_of (((w : Int) - 1 - ((i + 1 : Nat) : Int))) (by exact i64_at _ _ (by omega) (by omega) (by omega)) ?_
    exact ⟨f - 1, by omega, i + 1, r4, rest4, by omega, by rw [hsn]; rfl, by rw [hsn]; exact H⟩
  · have hi : w ≤ i := by omega
    rw [List.take_of_length_le (by rw [tailB_len]; exact hi)] at H
    exact hk0 w x r' rest' h rfl hw h1 rfl hx H
set_option maxRecDepth 100000 in
set_option maxHeartbeats 4000000 in
theorem rputid_ok {A : RP} {r w x : Nat} {s : Cod} {rest : List Value} (HC : Hp h0 FF h (refL A r s rest)) (hc : CodOk m n0 s) (hm1 : 1 ≤ m) (hm2 : m ≤ 131072) (hN : n0 + 64 ≤ 16777216) (hw : w ≤ 12) (h1 : IdFit base w m) (hx : x < 2 ^ w)
    (hk0 : ∀ (r' : Nat) rest' h', Hp h0 FF h' (refL A r' (runI m base (tailB x w) (1, s)).2 rest') → K (.int .i64 0) h') :
    CP F_burinref5_PutID #[.pointer (at0 A.p), .int .i64 base, .int .i64 (w : Nat), .int .i64 (x : Nat)] h K Kp := by
  refine call_burinref5_PutID ?_
  unfold burinref5_PutID
  have hp := pow12 hw
  refine bindI_of (((w : Int) - 1)) (by exact i64_in _ (by omega) (by omega)) ?_
  refine ⟨fun f vs h' => ∃ (i r' : Nat) (rest' : List Value), i + f = w ∧ vs = [.int .i64 ((runI m base ((tailB x w).take i) (1, s)).1 : Nat), .int .i64 ((w : Int) - 1 - (i : Int))] ∧
    Hp h0 FF h' (refL A r' (runI m base ((tailB x w).take i) (1, s)).2 rest'), ⟨w, 0, r, rest, by omega, (by rw [show ((w : Int) - 1 - ((0 : Nat) : Int)) = (w : Int) - 1 by omega]; rfl), HC⟩, ?_⟩
  clear HC
  rintro f h u v1 v2 ⟨i, r', rest', hif, hxx, H⟩
  injection hxx with hx1 hxx
  injection hxx with hx2 hxx
  injection hx1 with _ hx1
  injection hx2 with _ hx2
  subst hx1 hx2
  refine bcase_dec (fun h4 => ?_) fun h4 => ?_
  · have hi : i < w := by omega
    have hlen : ((tailB x w).take i).length = i := by rw [List.length_take, tailB_len]; omega
    have hcod := runX_ok (nx := nextI) (base := base) hc ((tailB x w).take i) 1 (by rw [hlen]; omega)
    have hnd := (runX_fst nextI m base s ((tailB x w).take i) 1).trans (ndI x w hx i (by omega))
    have hsn := runX_snoc nextI m base ((tailB x w).take i) (x / 2 ^ (w - 1 - i) % 2) (1, s)
    have htk := tailB_take (x := x) hi
    have hpi : (2 : Nat) ^ i ≤ 2 ^ w := Nat.pow_le_pow_right (by decide) (by omega)
    have hdv : x / 2 ^ (w - i) < 2 ^ w := Nat.lt_of_le_of_lt (Nat.div_le_self _ _) hx
    rw [hlen] at hcod
    unfold runI at H ⊢
    rw [← htk] at hsn
    generalize runX nextI m base ((tailB x w).take i) (1, s) = st at hcod hnd hsn H ⊢
    obtain ⟨nd, S1⟩ := st
    have hnd : nd = 2 ^ i + x / 2 ^ (w - i) := hnd
    have hcod : CodOk m (n0 + i) S1 := hcod
    have hb1 : x / 2 ^ (w - 1 - i) % 2 ≤ 1 := Nat.le_of_lt_succ (Nat.mod_lt _ (by decide))
    rw [show ((w : Int) - 1 - (i : Int)) = ((w - 1 - i : Nat) : Int) by omega]
    refine bindI_of (((w - 1 - i : Nat) : Int)) (by exact u64_in _ (by omega) (by omega)) ?_
    refine needs_of (by omega) ?_
    refine bindI_of (((x / 2 ^ (w - 1 - i) : Nat) : Int)) (by exact shr_of (by show w - 1 - i ≤ 64; omega)) ?_
    refine bindI_of (((x / 2 ^ (w - 1 - i) % 2 : Nat) : Int)) (by rw [and63_1]; rfl) ?_
    unfold IdFit at h1
    refine bindI_of ((base + (nd : Int))) (by exact i64_in _ (by omega) (by omega)) ?_
    refine Go.Ar.rput_ok (bit := x / 2 ^ (w - 1 - i) % 2) H hcod.wf hcod.done (by rw [hcod.n]; omega) (by rw [hcod.len]; exact hm1) (by rw [hcod.len]; exact hm2) hb1 fun r4 rest4 h5 H => ?_
    rw [hcod.len] at H
    refine ⟨_, rfl, ?_⟩
    refine bcase_false (by rfl) ?_
    generalize x / 2 ^ (w - 1 - i) % 2 = bit at hb1 hsn H ⊢
    refine bindI_of (((2 * nd : Nat) : Int)) (by exact i64_at _ _ (by omega) (by omega) (by omega)) ?_
    refine bindI_of (((2 * nd + bit : Nat) : Int)) (by exact i64_at _ _ (by omega) (by omega) (by omega)) ?_
    refine bindI_of (((w : Int) - 1 - ((i + 1 : Nat) : Int))) (by exact i64_at _ _ (by omega) (by omega) (by omega)) ?_
    exact ⟨f - 1, by omega, i + 1, r4, rest4, by omega, by rw [hsn]; rfl, by rw [hsn]; exact H⟩
  · have hi : w ≤ i := by omega
    rw [List.take_of_length_le (by rw [tailB_len]; exact hi)] at H
    exact hk0 r' rest' h H
variable {e : Ent} {bp : Option Addr} {bc n : Nat} {bytes : List Nat}
set_option maxRecDepth 100000 in
set_option maxHeartbeats 4000000 in
theorem wgetid_ok {p q : Nat} {s : Dec} (HC : Hp h0 FF h (decL p q e bp bc s)) (hw : e.w = true) (hb : BOk e bp bytes) (hok : Go.Ar.DecOk bytes m n s) (hbl : bytes.length < 140737488351300) (hn : n + 64 ≤ 16777216) (hm1 : 1 ≤ m) (hm2 : m ≤ 131072)
    (hk52 : ¬ (0 ≤ width ∧ width ≤ 12) → K (.tuple #[.int .i64 0, .int .i64 52]) h) (hk51 : ∀ w : Nat, width = (w : Nat) → w ≤ 12 → ¬ IdFit base w m → K (.tuple #[.int .i64 0, .int .i64 51]) h)
    (hk0 : ∀ (w : Nat) h', width = (w : Nat) → w ≤ 12 → IdFit base w m → Go.Ar.DecOk bytes m (n + w) (itI m base (1, s) w).2 → Hp h0 FF h' (decL p q e bp bc (itI m base (1, s) w).2) → K (.tuple #[.int .i64 ((itI m base (1, s) w).1 - ((2 ^ w : Nat) : Int)), .int .i64 0]) h') :
    CP F_whole_GetID #[.pointer (at0 p), .int .i64 base, .int .i64 width] h K Kp := by
  refine call_whole_GetID ?_
  unfold whole_GetID
  refine bcase_false (by rfl) ?_
  refine ptr_of (a := ⟨p, 0, none⟩) ?_
  refine Go.Ar.contexts_ok (n := s.st.length) HC 0 rfl ?_
  refine ⟨_, rfl, ?_⟩
  rw [hok.len]
  refine wids_ok hm2 (fun h1 => ⟨_, rfl, ?_⟩) (fun w ew hw h1 => ⟨_, rfl, ?_⟩) (fun w ew hw12 h1 => ⟨_, rfl, ?_⟩)
  · refine bcase_true (by rfl) ?_
    exact hk52 h1
  · refine bcase_true (by rfl) ?_
    exact hk51 w ew hw h1
  subst ew
  have hp := pow12 hw12
  refine bcase_false (by rfl) ?_
  refine ⟨fun f vs h' => ∃ i : Nat, i + f = w ∧ vs = [.int .i64 ((itI m base (1, s) i).1 : Nat), .int .i64 (i : Nat)] ∧ Go.Ar.DecOk bytes m (n + i) (itI m base (1, s) i).2 ∧ Hp h0 FF h' (decL p q e bp bc (itI m base (1, s) i).2), ⟨w, 0, by omega, rfl, hok, HC⟩, ?_⟩
  clear HC
  rintro f h u v1 v2 ⟨i, hif, hxx, hok1, H⟩
  injection hxx with hx1 hxx
  injection hxx with hx2 hxx
  injection hx1 with _ hx1
  injection hx2 with _ hx2
  subst hx1 hx2
  have hlt := itI_lt m base s i
  refine bcase_dec (fun h4 => ?_) fun h4 => ?_
  · have hi : i < w := by omega
    have hpi : (2 : Nat) ^ (i + 1) ≤ 2 ^ w := Nat.pow_le_pow_right (by decide) (by omega)
    obtain ⟨st', hst'⟩ : ∃ st', st' = itI m base (1, s) (i + 1) := ⟨_, rfl⟩
    have hsn : st' = getI m base (itI m base (1, s) i) := hst'
    generalize hgen : itI m base (1, s) i = st at hlt hok1 hsn H ⊢
    obtain ⟨nd, S1⟩ := st
    simp only at hlt hok1 H
    unfold IdFit at h1
    refine bindI_of ((base + (nd : Int))) (by exact i64_in _ (by omega) (by omega)) ?_
    refine Go.Ar.get_ok H (by rw [hok1.b]; exact hb) hok1.wf (by rw [hok1.b]; exact hbl) (by rw [hok1.n]; omega) (by rw [hok1.len]; exact hm1) (by rw [hok1.len]; exact hm2) fun h' H => ?_
    rw [hok1.len] at H ⊢
    have hb1 : (getD S1 (idx (base + (nd : Nat)) m)).2 ≤ 1 := getD_bit _
    refine ⟨_, _, rfl, ?_⟩
    refine bcase_false (by rfl) ?_
    have hok2 := getD_ok hok1 (idx (base + (nd : Nat)) m) (by omega)
    unfold getI nextI at hsn
    dsimp only at hsn
    generalize getD S1 (idx (base + (nd : Nat)) m) = G at hb1 hsn hok2 H ⊢
    obtain ⟨S2, bit⟩ := G
    simp only at hb1 hok2 H ⊢
    have hsn : st' = (2 * nd + bit, S2) := hsn
    refine bindI_of (((2 * nd : Nat) : Int)) (by exact i64_at _ _ (by omega) (by omega) (by omega)) ?_
    refine bindI_of (((2 * nd + bit : Nat) : Int)) (by exact i64_at _ _ (by omega) (by omega) (by omega)) ?_
    refine bindI_of (((i + 1 : Nat) : Int)) (by exact i64_at _ _ (by omega) (by omega) (by omega)) ?_
    exact ⟨f - 1, by omega, i + 1, by omega, by rw [← hst', hsn], by rw [← hst', hsn]; exact hok2, by rw [← hst', hsn]; exact H⟩
  · obtain rfl : i = w := by omega
    have hpi : (2 : Nat) ^ (i + 1) = 2 ^ i * 2 := Nat.pow_succ ..
    refine needs_of (by omega) ?_
    refine bindI_of (((2 ^ i : Nat) : Int)) (by exact shl1_of hw12) ?_
    refine bindI_of ((((itI m base (1, s) i).1 : Nat) - ((2 ^ i : Nat) : Int))) (by exact i64_in _ (by omega) (by omega)) ?_
    exact hk0 i h rfl hw12 h1 hok1 H
/-! ### refusals -/
theorem wget_bad {p q : Nat} {s : Dec} (HC : Hp h0 FF h (decL p q e bp bc s)) (hok : Go.Ar.DecOk bytes m n s) (hm2 : m ≤ 131072) (hfit : ¬ (0 ≤ base ∧ base + (512 : Nat) ≤ (m : Nat)))
    (hk : ∀ h', hext h h' → K (.tuple #[.agg #[.int .i64 0, .bool false], .int .i64 51]) h') : CP F_whole_Get #[.pointer (at0 p), .int .i64 base] h K Kp := by
  refine call_whole_Get ?_
  unfold whole_Get
  have H := Hp.nil h []
  refine newC_hp H fun r1 h H => ?_
  refine bcase_false (by rfl) ?_
  refine ptr_of (a := ⟨p, 0, none⟩) ?_
  refine Go.Ar.contexts_ok (n := s.st.length) (HC.ext H.hext) 0 rfl ?_
  refine ⟨_, rfl, ?_⟩
  rw [hok.len]
  refine wfits_ok (many := 512) (all := m) (by decide) (by omega) fun bf hbf => ?_
  refine ⟨_, rfl, ?_⟩
  refine bcase_not (fun h2 => ?_) fun h2 => absurd (hbf.1 h2) hfit
  refine stV_hp H 0 rfl (Nat.le_of_ble_eq_true rfl) rfl fun h hz H => ?_
  refine stV_hp H 0 rfl (Nat.le_of_ble_eq_true rfl) rfl fun h hz H => ?_
  refine ldI_of (hpA H 0 rfl rfl) (ldB_of (hpA H 0 rfl rfl) ?_)
  exact hk _ H.hext
theorem wget_nil (hk : ∀ h', hext h h' → K (.tuple #[.agg #[.int .i64 0, .bool false], .int .i64 53]) h') : CP F_whole_Get #[.pointer none, .int .i64 base] h K Kp := by
  refine call_whole_Get ?_
  unfold whole_Get
  have H := Hp.nil h []
  refine newC_hp H fun r1 h H => ?_
  refine bcase_true (by rfl) ?_
  refine stV_hp H 0 rfl (Nat.le_of_ble_eq_true rfl) rfl fun h hz H => ?_
  refine stV_hp H 0 rfl (Nat.le_of_ble_eq_true rfl) rfl fun h hz H => ?_
  refine ldI_of (hpA H 0 rfl rfl) (ldB_of (hpA H 0 rfl rfl) ?_)
  exact hk _ H.hext
theorem wgetid_nil (hk : K (.tuple #[.int .i64 0, .int .i64 53]) h) : CP F_whole_GetID #[.pointer none, .int .i64 base, .int .i64 width] h K Kp := by
  refine call_whole_GetID ?_
  unfold whole_GetID
  refine bcase_true (by rfl) ?_
  exact hk
theorem wputid_nil (hk : K (.int .i64 53) h) : CP F_whole_PutID #[.pointer none, .int .i64 base, .int .i64 width, .int .i64 id] h K Kp := by
  refine call_whole_PutID ?_
  unfold whole_PutID
  refine bcase_true (by rfl) ?_
  exact hk
theorem wput_nil {v : Int} {b : Bool} (hk : ∀ h', hext h h' → K (.int .i64 53) h') : CP F_whole_Put #[.pointer none, .int .i64 base, .agg #[.int .i64 v, .bool b]] h K Kp := by
  refine call_whole_Put ?_
  unfold whole_Put
  have H := Hp.nil h []
  refine newC_hp H fun r3 h H => ?_
  refine newC_hp H fun r5 h H => ?_
  refine newC_hp H fun r7 h H => ?_
  refine newC_hp H fun r9 h H => ?_
  refine ldP_of (H.cell 0 rfl rfl) ?_
  refine bcase_true (by rfl) ?_
  refine stV_hp H 3 rfl (Nat.le_of_ble_eq_true rfl) rfl fun h hz H => ?_
  refine ldI_of (H.cell 3 rfl rfl) ?_
  exact hk _ H.hext
end
end Go.Bm

/- Written by gen.py: the conditions of the functions of law5WholeRows. -/
set_option linter.unusedVariables false
set_option linter.unusedSimpArgs false
namespace Go.Den.Yteakipgcanafoaa
open Go Go.Den

/- burin/burinlaw5.WholeRows -/
set_option maxRecDepth 100000 in
def burinlaw5_WholeRows (C : CallP) (a0 : Option Addr) (a0n : Nat) (a0c : Nat) (h : Heap) (K : Value → Heap → Prop) (Kp : List PanicEntry → Heap → Prop) : Prop :=
bcase (decide ((a0n : Int) > (200 : Int))) (
C F_burinlaw5_wakes #[] h (fun v_1 h_2 =>
∃ (r_3 : Bool), v_1 = .bool r_3 ∧ (
K (.bool r_3) h_2)) (Kp)) <|
C F_whole_Encode #[.slice a0 a0n a0c] h (fun v_4 h_5 =>
∃ (r_6 : Option Addr) (r_6n : Nat) (r_6c : Nat), ∃ (r_7 : Int), v_4 = .tuple #[.slice r_6 r_6n r_6c, .int .i64 r_7] ∧ (
bcase (r_7 != (0 : Int)) (
∃ J_8 : Nat → List Value → Heap → Prop, (∃ n_10, J_8 n_10 [.int .i64 0] h_5) ∧ ∀ (n_10 : Nat) (h_11 : Heap) (u_12 : Nat → Value) (x_13 : Int), J_8 n_10 [.int .i64 x_13] h_11 → (
bcase (decide (x_13 < (a0n : Int))) (
∃ K_14 : List Value → Heap → Prop, (
needs (0 ≤ x_13 ∧ x_13 < (a0n : Int)) <|
ptr a0 fun a_17 =>
ldB h_11 ((a_17.add (x_13.toNat * 2)).add 1) fun x_18 =>
bcase (!x_18) (
needs (0 ≤ x_13 ∧ x_13 < (a0n : Int)) <|
ptr a0 fun a_19 =>
ldI h_11 ((a_19.add (x_13.toNat * 2)).add 0) .i64 fun x_20 =>
bcase (decide (x_20 > (2147483648 : Int))) (
K_14 [.bool true] h_11) <|
needs (0 ≤ x_13 ∧ x_13 < (a0n : Int)) <|
ptr a0 fun a_21 =>
ldI h_11 ((a_21.add (x_13.toNat * 2)).add 0) .i64 fun x_22 =>
K_14 [.bool (decide (x_22 < (-2147483648 : Int)))] h_11) <|
K_14 [.bool false] h_11) ∧ ∀ (h_15 : Heap) (u_16 : Nat → Value) (x_23 : Bool), K_14 [.bool x_23] h_15 → (
bcase x_23 (
bcase (r_7 == (50 : Int)) (
bcase ((r_6n : Int) == (0 : Int)) (
C F_burinlaw5_wakes #[] h_15 (fun v_24 h_25 =>
∃ (r_26 : Bool), v_24 = .bool r_26 ∧ (
K (.bool r_26) h_25)) (Kp)) <|
K (.bool false) h_15) <|
K (.bool false) h_15) <|
bindI (IntKind.i64.wrap (x_13 + (1 : Int))) fun z_27 =>
∃ m_9, m_9 < n_10 ∧ J_8 m_9 [.int .i64 z_27] h_15)) <|
K (.bool false) h_11)) <|
C F_whole_Decode #[.slice r_6 r_6n r_6c, .int .i64 (a0n : Int)] h_5 (fun v_28 h_29 =>
∃ (r_30 : Option Addr) (r_30n : Nat) (r_30c : Nat), ∃ (r_31 : Int), v_28 = .tuple #[.slice r_30 r_30n r_30c, .int .i64 r_31] ∧ (
bindI (IntKind.i64.wrap ((a0n : Int).tdiv (2 : Int))) fun z_32 =>
C F_whole_Decode #[.slice r_6 r_6n r_6c, .int .i64 z_32] h_29 (fun v_33 h_34 =>
∃ (r_35 : Option Addr) (r_35n : Nat) (r_35c : Nat), ∃ (r_36 : Int), v_33 = .tuple #[.slice r_35 r_35n r_35c, .int .i64 r_36] ∧ (
bcase (r_31 != (0 : Int)) (
K (.bool false) h_34) <|
bcase (r_36 != (0 : Int)) (
K (.bool false) h_34) <|
bcase ((r_30n : Int) != (a0n : Int)) (
K (.bool false) h_34) <|
bindI (IntKind.i64.wrap ((a0n : Int).tdiv (2 : Int))) fun z_37 =>
needs (0 ≤ z_37 ∧ z_37 ≤ ((r_30c : Nat) : Int)) <|
C F_burinref0_EqWholes #[.slice (subA r_30 (r_30c) (0) 2) (z_37.toNat - 0) (r_30c - 0), .slice r_35 r_35n r_35c] h_34 (fun v_38 h_39 =>
∃ (r_40 : Bool), v_38 = .bool r_40 ∧ (
bcase (!r_40) (
K (.bool false) h_39) <|
∃ J_41 : Nat → List Value → Heap → Prop, (∃ n_43, J_41 n_43 [.int .i64 0] h_39) ∧ ∀ (n_43 : Nat) (h_44 : Heap) (u_45 : Nat → Value) (x_46 : Int), J_41 n_43 [.int .i64 x_46] h_44 → (
bcase (decide (x_46 < (a0n : Int))) (
needs (0 ≤ x_46 ∧ x_46 < (r_30n : Int)) <|
ptr r_30 fun a_47 =>
needs (0 ≤ x_46 ∧ x_46 < (a0n : Int)) <|
ptr a0 fun a_48 =>
ldB h_44 ((a_47.add (x_46.toNat * 2)).add 1) fun x_49 =>
ldB h_44 ((a_48.add (x_46.toNat * 2)).add 1) fun x_50 =>
bcase (!(x_49 == x_50)) (
K (.bool false) h_44) <|
needs (0 ≤ x_46 ∧ x_46 < (a0n : Int)) <|
ptr a0 fun a_51 =>
ldB h_44 ((a_51.add (x_46.toNat * 2)).add 1) fun x_52 =>
bcase (!x_52) (
needs (0 ≤ x_46 ∧ x_46 < (r_30n : Int)) <|
ptr r_30 fun a_53 =>
needs (0 ≤ x_46 ∧ x_46 < (a0n : Int)) <|
ptr a0 fun a_54 =>
ldI h_44 ((a_53.add (x_46.toNat * 2)).add 0) .i64 fun x_55 =>
ldI h_44 ((a_54.add (x_46.toNat * 2)).add 0) .i64 fun x_56 =>
bcase (x_55 != x_56) (
K (.bool false) h_44) <|
needs (0 ≤ x_46 ∧ x_46 < (a0n : Int)) <|
ptr a0 fun a_57 =>
ldB h_44 ((a_57.add (x_46.toNat * 2)).add 1) fun x_58 =>
bcase x_58 (
needs (0 ≤ x_46 ∧ x_46 < (r_30n : Int)) <|
ptr r_30 fun a_59 =>
ldI h_44 ((a_59.add (x_46.toNat * 2)).add 0) .i64 fun x_60 =>
bcase (x_60 != (0 : Int)) (
K (.bool false) h_44) <|
bindI (IntKind.i64.wrap (x_46 + (1 : Int))) fun z_61 =>
∃ m_42, m_42 < n_43 ∧ J_41 m_42 [.int .i64 z_61] h_44) <|
bindI (IntKind.i64.wrap (x_46 + (1 : Int))) fun z_62 =>
∃ m_42, m_42 < n_43 ∧ J_41 m_42 [.int .i64 z_62] h_44) <|
needs (0 ≤ x_46 ∧ x_46 < (a0n : Int)) <|
ptr a0 fun a_63 =>
ldB h_44 ((a_63.add (x_46.toNat * 2)).add 1) fun x_64 =>
bcase x_64 (
needs (0 ≤ x_46 ∧ x_46 < (r_30n : Int)) <|
ptr r_30 fun a_65 =>
ldI h_44 ((a_65.add (x_46.toNat * 2)).add 0) .i64 fun x_66 =>
bcase (x_66 != (0 : Int)) (
K (.bool false) h_44) <|
bindI (IntKind.i64.wrap (x_46 + (1 : Int))) fun z_67 =>
∃ m_42, m_42 < n_43 ∧ J_41 m_42 [.int .i64 z_67] h_44) <|
bindI (IntKind.i64.wrap (x_46 + (1 : Int))) fun z_68 =>
∃ m_42, m_42 < n_43 ∧ J_41 m_42 [.int .i64 z_68] h_44) <|
C F_burinlaw5_wakes #[] h_44 (fun v_69 h_70 =>
∃ (r_71 : Bool), v_69 = .bool r_71 ∧ (
K (.bool r_71) h_70)) (Kp)))) (Kp))) (Kp))) (Kp))) (Kp)

end Go.Den.Yteakipgcanafoaa

/- Written by gen.py: each condition of the functions of law5WholeRows is the one of its body; so it is enough for its call. -/
set_option linter.unusedVariables false
set_option linter.unusedSimpArgs false
namespace Go.Den.Yteakipgcanafoaa
open Go Go.Den

noncomputable def hints_burinlaw5_WholeRows : Hints := Hints.mk (fun i => bif Nat.beq i 18 then some ([], .take 0 <| .take 1 <| .take 2 <| .take 3 <| .take 5 <| .take 6 <| .take 7 <| .take 8 <| .take 4 <| .take 9 <| .take 10 <| .take 11 <| .take 12 <| .take 13 <| .take 14 <| .take 15 <| .take 16 <| .take 17 <| .take 18 <| .take 19 <| .take 20 <| .take 21 <| .take 22 <| .take 24 <| .take 25 <| .take 26 <| .take 27 <| .take 23 <| .take 28 <| .take 29 <| .take 30 <| .take 31 <| .take 32 <| .take 33 <| .take 34 <| .take 35 <| .take 36 <| .take 37 <| .take 38 <| .take 39 <| .take 40 <| .take 41 <| .take 42 <| .take 43 <| .take 44 <| .take 45 <| .take 46 <| .done) else (none))
  (fun i => bif Nat.beq i 6 then some ([(5, .int .i64)], 1152921504602652708) else (bif Nat.beq i 16 then some ([(10, .int .i64)], 2854495385411919445203921881841639898589692932) else (none)))
  (fun i => bif Nat.beq i 9 then some ([(49, .bool)], 1125899638407168) else (none)) []
set_option maxRecDepth 100000 in
theorem eq_burinlaw5_WholeRows (C : CallP) (a0 : Option Addr) (a0n : Nat) (a0c : Nat) (h : Heap) (K : Value → Heap → Prop) (Kp : List PanicEntry → Heap → Prop) :
    fnD Go.Proofs.Try.prog C hints_burinlaw5_WholeRows Go.Proofs.Try.f5 [.slice a0 a0n a0c] h K Kp = burinlaw5_WholeRows C a0 a0n a0c h K Kp := by kernel_rfl

theorem call_burinlaw5_WholeRows {a0 : Option Addr} {a0n : Nat} {a0c : Nat} {h : Heap} {K : Value → Heap → Prop} {Kp : List PanicEntry → Heap → Prop} (H : burinlaw5_WholeRows (CallsHP Go.Proofs.Try.prog) a0 a0n a0c h K Kp) : CallsHP Go.Proofs.Try.prog F_burinlaw5_WholeRows #[.slice a0 a0n a0c] h K Kp :=
  callsHP_of hints_burinlaw5_WholeRows (by kernel_rfl) Go.Proofs.Try.func5 (by kernel_rfl) (by rw [eq_burinlaw5_WholeRows]; exact H)

end Go.Den.Yteakipgcanafoaa

/- WhU: the law WholeRows, said of memory. -/
set_option linter.unusedVariables false
set_option linter.unusedSimpArgs false
namespace Go.Bm
open Go Go.Den Go.Den.Yteakipgcanafoaa
open Go.Ar (Dec newC newD flushM bytesM u8s decN)

/-! ### a row of numbers as decisions -/
def dsR (l : List (Int × Bool)) : List (Nat × Nat) := l.flatMap fun x => dsWh 512 0 x.1 x.2
theorem dsR_snoc (l : List (Int × Bool)) (x : Int × Bool) : dsR (l ++ [x]) = dsR l ++ dsWh 512 0 x.1 x.2 := by
  unfold dsR
  rw [List.flatMap_append]
  congr 1
  show dsWh 512 0 x.1 x.2 ++ [] = _
  rw [List.append_nil]
theorem dsR_bit (l : List (Int × Bool)) : ∀ d ∈ dsR l, d.2 ≤ 1 := fun d hd => by
  obtain ⟨x, _, hx⟩ := List.mem_flatMap.1 hd
  exact dsWh_bit _ _ _ _ d hx
theorem dsR_len : ∀ l : List (Int × Bool), (dsR l).length ≤ 39 * l.length
  | [] => Nat.le_refl _
  | x :: l => by
    have h1 := dsR_len l
    have h2 := dsWh_len 512 0 x.1 x.2
    show (dsWh 512 0 x.1 x.2 ++ dsR l).length ≤ _
    rw [List.length_append, List.length_cons]
    omega
theorem encS_cdL (l : List (Int × Bool)) : encS l (newC 512) = cdL 512 (dsR l) := by
  have key : ∀ (l : List (Int × Bool)) (L : List (Nat × Nat)), encS l (cdL 512 L) = cdL 512 (L ++ dsR l) := by
    intro l
    induction l with
    | nil => intro L; show cdL 512 L = cdL 512 (L ++ []); rw [List.append_nil]
    | cons x l ih =>
      intro L
      show encS l (runW 512 0 (bitsL (sgW x.1 x.2) (mW x.1 x.2)) (1, cdL 512 L)).2 = cdL 512 (L ++ (dsWh 512 0 x.1 x.2 ++ dsR l))
      rw [run_wh, ih, List.append_assoc]
  exact key l []
/-- A number as it is got again: one that is none has no amount. -/
def nrm (x : Int × Bool) : Int × Bool := (if x.2 = true then 0 else x.1, x.2)
theorem rows_seq {l : List (Int × Bool)} (hr : RightL l) (hl : l.length ≤ 200) {bs : List Nat} (hb : bs = bytesM (flushM (encS l (newC 512)))) :
    ∀ i, i ≤ l.length → seqW (newD bs 512) i = (decN (kOf (dsR l)) bs 512 (dsR (l.take i)).length, (l.take i).map nrm) ∧ ∀ j, j < i → errW (newD bs 512) j = 0 := by
  have hlen := dsR_len l
  have hW := walk_of (m := 512) (L := dsR l) (dsR_bit l) (by omega)
  rw [← encS_cdL, ← hb] at hW
  intro i
  induction i with
  | zero => intro _; exact ⟨rfl, fun j hj => absurd hj (Nat.not_lt_zero j)⟩
  | succ i ih =>
    intro hi
    obtain ⟨h1, h2⟩ := ih (by omega)
    obtain ⟨x, hx⟩ : ∃ x, l[i]? = some x := ⟨_, List.getElem?_eq_getElem (by omega)⟩
    have hsp : dsR l = dsR (l.take i) ++ (dsWh 512 0 x.1 x.2 ++ dsR (l.drop (i + 1))) := by
      have e : l = l.take i ++ (x :: l.drop (i + 1)) := by
        obtain ⟨hi2, hx2⟩ := List.getElem?_eq_some_iff.1 hx
        rw [← hx2, ← List.drop_eq_getElem_cons hi2, List.take_append_drop]
      have e2 : dsR l = dsR (l.take i ++ (x :: l.drop (i + 1))) := congrArg dsR e
      rw [e2]
      unfold dsR
      rw [List.flatMap_append]
      rfl
    have hg := get_wh hW (hr x (List.mem_of_getElem? hx)) hsp
    have herr : errW (newD bs 512) i = 0 := by
      unfold errW
      rw [h1]
      dsimp only
      rw [hg]
    refine ⟨?_, fun j hj => ?_⟩
    · show ((decW 512 0 (seqW (newD bs 512) i).1).2, (seqW (newD bs 512) i).2 ++ [((decW 512 0 (seqW (newD bs 512) i).1).1.2.1, (decW 512 0 (seqW (newD bs 512) i).1).1.2.2)]) = _
      rw [h1]
      dsimp only
      rw [hg, take_snoc hx, dsR_snoc, List.map_append]
      rfl
    · by_cases hji : j = i
      · rw [hji]; exact herr
      · exact h2 j (by omega)
theorem dec_rows {l : List (Int × Bool)} (hr : RightL l) (hl : l.length ≤ 200) {bs : List Nat} (hb : bs = bytesM (flushM (encS l (newC 512)))) {n : Nat} (hn : n ≤ l.length) {e : Int} {l' : List (Int × Bool)} (h : DecWh bs (n : Nat) e l') : e = 0 ∧ l' = (l.take n).map nrm := by
  obtain ⟨h1, h2⟩ := rows_seq hr hl hb n hn
  rcases h with ⟨hh, _⟩ | ⟨_, ⟨i, hi, _, hne, _⟩ | ⟨_, he, hl'⟩⟩
  · omega
  · exact absurd (h2 i (by omega)) hne
  · refine ⟨he, ?_⟩
    rw [hl', Int.toNat_natCast, h1]

set_option maxRecDepth 100000 in
set_option maxHeartbeats 4000000 in
theorem wRows_law {hB : Heap} {sq : Option Addr} {l : List (Int × Bool)} {scap : Nat} (hr : rdO hB sq (l.length * 2) (whC l)) (hv : I64L l) {K : Value → Heap → Prop} {Kp : List PanicEntry → Heap → Prop} (hk : ∀ h', hext hB h' → K (.bool true) h') :
    CP F_burinlaw5_WholeRows #[.slice sq l.length scap] hB K Kp := by
  refine call_burinlaw5_WholeRows ?_
  unfold burinlaw5_WholeRows
  refine bcase_dec (fun h1 => wakes5_ok fun h' e => ⟨_, rfl, hk _ e⟩) fun h1 => ?_
  have hl : l.length ≤ 200 := by omega
  have H := Hp.nil hB []
  refine whEnc_ok hr hv hl fun e bs D qo c h henc hsl H => ?_
  refine ⟨_, _, _, _, rfl, ?_⟩
  have hbb := henc.bytes
  rcases henc with ⟨hnr, rfl, rfl⟩ | ⟨hR, rfl, hbs, _⟩
  · refine bcase_true (by rfl) ?_
    refine ⟨fun n vs h' => ∃ i : Nat, i + n = l.length ∧ vs = [.int .i64 (i : Nat)] ∧ RightL (l.take i) ∧ h' = h, ⟨l.length, 0, by omega, rfl, (by intro x hx; rw [List.take_zero] at hx; cases hx), rfl⟩, ?_⟩
    rintro n h' u x ⟨i, hin, hxx, hrt, rfl⟩
    injection hxx with hx1 hxx
    injection hx1 with _ hx1
    subst hx1
    refine bcase_dec (fun h4 => ?_) fun h4 => ?_
    · have hi : i < l.length := by omega
      obtain ⟨x, hx⟩ : ∃ x, l[i]? = some x := ⟨_, List.getElem?_eq_getElem hi⟩
      obtain ⟨ad, rfl, hc1, hc2⟩ := wh_at (H.rdO hr) hx
      refine ⟨fun vs h2 => ∃ b : Bool, vs = [.bool b] ∧ (b = true ↔ ¬ rightW x.1 x.2) ∧ h2 = h', ?_, ?_⟩
      · refine needs_of (by omega) (ptr_of (a := ad) ?_)
        refine ldB_of hc2 ?_
        refine bcase_not (fun h5 => ?_) fun h5 => ?_
        · refine needs_of (by omega) (ptr_of (a := ad) ?_)
          refine ldI_of hc1 ?_
          refine bcase_dec (fun h6 => ?_) fun h6 => ?_
          · refine ⟨true, rfl, ?_, rfl⟩
            refine ⟨fun _ hh => ?_, fun _ => rfl⟩
            rcases hh with hh | hh
            · rw [hh] at h5; cases h5
            · omega
          · refine needs_of (by omega) (ptr_of (a := ad) ?_)
            refine ldI_of hc1 ?_
            refine ⟨_, rfl, ?_, rfl⟩
            rw [decide_eq_true_iff]
            refine ⟨fun h7 hh => ?_, fun hh => ?_⟩
            · rcases hh with hh | hh
              · rw [hh] at h5; cases h5
              · omega
            · refine Decidable.byContradiction fun h7 => hh (.inr ⟨by omega, by omega⟩)
        · exact ⟨false, rfl, ⟨fun hh => Bool.noConfusion hh, fun hh => absurd (.inl h5) hh⟩, rfl⟩
      · rintro h2 u b ⟨b', hb', hbr, rfl⟩
        injection hb' with hb' _
        injection hb' with hb'
        subst hb'
        refine bcase_of (fun h5 => ?_) fun h5 => ?_
        · refine bcase_true (by rfl) ?_
          refine bcase_true (by rfl) ?_
          exact wakes5_ok fun h' e => ⟨_, rfl, hk _ (H.hext.trans e)⟩
        · refine bindI_of (((i + 1 : Nat) : Int)) (by exact i64_at _ _ (by omega) (by omega) (by omega)) ?_
          refine ⟨n - 1, by omega, i + 1, by omega, rfl, ?_, rfl⟩
          rw [take_snoc hx]
          intro y hy
          rcases List.mem_append.1 hy with hy | hy
          · exact hrt y hy
          · rw [List.mem_singleton.1 hy]
            exact Classical.byContradiction fun hh => by rw [hbr.2 hh] at h5; cases h5
    · rw [List.take_of_length_le (by omega)] at hrt
      exact absurd hrt hnr
  refine bcase_false (by rfl) ?_
  refine wdec_ok (n := ((l.length : Nat) : Int)) (Slot.rdO (A := []) (B := []) hsl (by simpa using H)) hbb.1 hbb.2 fun e1 m D1 q1 c1 h1 hd1 hs1 H' => ?_
  replace H := H.join H' hs1.w
  clear H'
  obtain ⟨rfl, hm⟩ := dec_rows hR hl hbs (Nat.le_refl _) hd1
  rw [List.take_of_length_le (Nat.le_refl _)] at hm
  refine ⟨_, _, _, _, rfl, ?_⟩
  have hhalf : IntKind.i64.wrap (((l.length : Nat) : Int).tdiv 2) = ((l.length / 2 : Nat) : Int) := i64_at _ _ (by rw [Int.ofNat_tdiv]; rfl) (by omega) (by omega)
  rw [hhalf]
  refine bindI_of _ rfl ?_
  refine wdec_ok (n := ((l.length / 2 : Nat) : Int)) (Slot.rdO' hsl H fun e he => List.mem_append_left _ he) hbb.1 hbb.2 fun e2 k D2 q2 c2 h2 hd2 hs2 H' => ?_
  replace H := H.join H' hs2.w
  clear H'
  obtain ⟨rfl, hkk⟩ := dec_rows hR hl hbs (by omega) hd2
  refine ⟨_, _, _, _, rfl, ?_⟩
  refine bcase_false (by rfl) ?_
  refine bcase_false (by rfl) ?_
  have hml : m.length = l.length := by rw [hm, List.length_map]
  refine bcase_false (by simp [hml]) ?_
  have hmc : m.length ≤ c1 := by
    obtain ⟨g1, ⟨_, _, g2, _⟩ | ⟨b, rest, _, _, g2⟩⟩ := hs1
    · omega
    · rw [List.length_append] at g2; omega
  refine bindI_of _ rfl ?_
  refine needs_of (by omega) ?_
  have hrm : rdO h2 q1 (m.length * 2) (whC m) := Slot.rdO' hs1 (Hp.pre H) fun e he => List.mem_append_right _ he
  have hkl : k.length = l.length / 2 := by rw [hkk, List.length_map, List.length_take]; omega
  have hta : (m.take (l.length / 2)).length = l.length / 2 := by rw [List.length_take]; omega
  have hrt : rdO h2 (subA q1 c1 0 2) ((m.take (l.length / 2)).length * 2) (whC (m.take (l.length / 2))) := by
    cases q1 with
    | none =>
      have hz : c1 = 0 := by
        obtain ⟨g1, ⟨_, _, _, g2⟩ | ⟨b, rest, _, g3, _⟩⟩ := hs1
        · exact g2
        · cases g3
      subst hz
      have : m = [] := List.length_eq_zero_iff.1 (by omega)
      subst this
      show whC (List.take _ []) = []
      rw [List.take_nil]
      rfl
    | some a =>
      have e : subA (some a) c1 0 2 = some a := by
        unfold subA
        split
        · rfl
        · rw [Nat.zero_mul]
          show some (a.add 0) = some a
          rw [add_zero']
      rw [e]
      refine ⟨whC_len _, fun j v hj => ?_⟩
      have hj2 : (whC m)[j]? = some v := by
        have e2 : whC m = whC (m.take (l.length / 2)) ++ whC (m.drop (l.length / 2)) := by
          unfold whC
          rw [← List.flatMap_append, List.take_append_drop]
        rw [e2, List.getElem?_append_left (List.getElem?_eq_some_iff.1 hj).1]
        exact hj
      exact hrm.2 j v hj2
  have e3 : (((l.length / 2 : Nat) : Int).toNat - 0) = (m.take (l.length / 2)).length := by rw [hta, Int.toNat_natCast, Nat.sub_zero]
  rw [e3]
  refine eqWh_ok (la := m.take (l.length / 2)) (lb := k) hrt (Slot.rdO' hs2 H fun e he => List.mem_append_right _ he) (by omega) ?_
  refine ⟨_, rfl, ?_⟩
  refine bcase_false (by
    have : m.take (l.length / 2) = k := by rw [hm, hkk, List.map_take]
    rw [decide_eq_true this]
    rfl) ?_
  refine ⟨fun n vs h' => ∃ i : Nat, i + n = l.length ∧ vs = [.int .i64 (i : Nat)] ∧ h' = h2, ⟨l.length, 0, by omega, rfl, rfl⟩, ?_⟩
  rintro n h' u x ⟨i, hin, hxx, rfl⟩
  injection hxx with hx1 hxx
  injection hx1 with _ hx1
  subst hx1
  refine bcase_dec (fun h4 => ?_) fun h4 => ?_
  · have hi : i < l.length := by omega
    obtain ⟨x, hx⟩ : ∃ x, l[i]? = some x := ⟨_, List.getElem?_eq_getElem hi⟩
    have hmx : m[i]? = some (nrm x) := by rw [hm, List.getElem?_map, hx]; rfl
    obtain ⟨ad, rfl, hc1, hc2⟩ := wh_at (H.rdO hr) hx
    obtain ⟨am, rfl, hm1, hm2⟩ := wh_at hrm hmx
    have hnd : 0 ≤ ((i : Nat) : Int) ∧ ((i : Nat) : Int) < ((l.length : Nat) : Int) := by omega
    have hnm : 0 ≤ ((i : Nat) : Int) ∧ ((i : Nat) : Int) < ((m.length : Nat) : Int) := by omega
    have next : ∃ m, m < n ∧ ∃ i' : Nat, i' + m = l.length ∧ [Value.int .i64 ((i + 1 : Nat) : Int)] = [.int .i64 (i' : Nat)] ∧ h' = h' := ⟨n - 1, by omega, i + 1, by omega, rfl, rfl⟩
    refine needs_of hnm (ptr_of (a := am) (needs_of hnd (ptr_of (a := ad) ?_)))
    refine ldB_of hm2 (ldB_of hc2 ?_)
    refine bcase_false (by show (!(x.2 == x.2)) = false; cases x.2 <;> rfl) ?_
    refine needs_of hnd (ptr_of (a := ad) (ldB_of hc2 ?_))
    obtain ⟨v, b⟩ := x
    cases b with
    | false =>
      refine bcase_true rfl ?_
      refine needs_of hnm (ptr_of (a := am) (needs_of hnd (ptr_of (a := ad) ?_)))
      refine ldI_of hm1 (ldI_of hc1 ?_)
      refine bcase_false (by show (v != v) = false; simp) ?_
      refine needs_of hnd (ptr_of (a := ad) (ldB_of hc2 ?_))
      refine bcase_false (by rfl) ?_
      refine bindI_of (((i + 1 : Nat) : Int)) (by exact i64_at _ _ (by omega) (by omega) (by omega)) ?_
      exact next
    | true =>
      refine bcase_false rfl ?_
      refine needs_of hnd (ptr_of (a := ad) (ldB_of hc2 ?_))
      refine bcase_true (by rfl) ?_
      refine needs_of hnm (ptr_of (a := am) ?_)
      refine ldI_of hm1 ?_
      refine bcase_false (by rfl) ?_
      refine bindI_of (((i + 1 : Nat) : Int)) (by exact i64_at _ _ (by omega) (by omega) (by omega)) ?_
      exact next
  · exact wakes5_ok fun h' e => ⟨_, rfl, hk _ (H.hext.trans e)⟩
end Go.Bm

/- Written by gen.py: the conditions of the functions of law5WholeMixed. -/
set_option linter.unusedVariables false
set_option linter.unusedSimpArgs false
namespace Go.Den.Yteakipgcanafoaa
open Go Go.Den

/- burin/burinlaw5.WholeMixed -/
set_option maxRecDepth 100000 in
def burinlaw5_WholeMixed (C : CallP) (a0_1 : Option Addr) (a0_1n : Nat) (a0_1c : Nat) (h : Heap) (K : Value → Heap → Prop) (Kp : List PanicEntry → Heap → Prop) : Prop :=
newC h [.slice a0_1 a0_1n a0_1c] T_burinlaw5_Mixed fun r_2 h_3 =>
C F_arith_New #[.int .i64 9000] h_3 (fun v_4 h_5 =>
∃ (r_6 : Option Addr), ∃ (r_7 : Int), v_4 = .tuple #[.pointer r_6, .int .i64 r_7] ∧ (
bcase (r_7 != (0 : Int)) (
K (.bool false) h_5) <|
bcase r_6.isNone (
K (.bool false) h_5) <|
C F_burinref4_New #[.int .i64 9000] h_5 (fun v_8 h_9 =>
∃ (r_10 : Option Addr), v_8 = .pointer r_10 ∧ (
∃ K_11 : List Value → Heap → Prop, (
∃ J_14 : Nat → List Value → Heap → Prop, (∃ n_16, J_14 n_16 [.int .i64 0] h_9) ∧ ∀ (n_16 : Nat) (h_17 : Heap) (u_18 : Nat → Value) (x_19 : Int), J_14 n_16 [.int .i64 x_19] h_17 → (
ldS h_17 ((⟨r_2, 0, none⟩ : Addr).add 0) fun x_20 x_20n x_20c =>
bcase (decide (x_19 < (x_20n : Int))) (
bcase (decide (x_19 < (200 : Int))) (
ldS h_17 ((⟨r_2, 0, none⟩ : Addr).add 0) fun x_21 x_21n x_21c =>
needs (0 ≤ x_19 ∧ x_19 < (x_21n : Int)) <|
ptr x_21 fun a_22 =>
ldB h_17 ((a_22.add (x_19.toNat * 5)).add 0) fun x_23 =>
ldI h_17 ((a_22.add (x_19.toNat * 5)).add 1) .i64 fun x_24 =>
ldI h_17 ((a_22.add (x_19.toNat * 5)).add 2) .i64 fun x_25 =>
ldI h_17 ((a_22.add (x_19.toNat * 5)).add 3) .i64 fun x_26 =>
ldB h_17 ((a_22.add (x_19.toNat * 5)).add 4) fun x_27 =>
newC h_17 [.bool false, .int .i64 0, .int .i64 0, .int .i64 0, .bool false] T_burinlaw5_Item fun r_28 h_29 =>
stV h_29 ((⟨r_28, 0, none⟩ : Addr).add 0) (.bool x_23) fun h_30 =>
stV h_30 ((⟨r_28, 0, none⟩ : Addr).add 1) (.int .i64 x_24) fun h_31 =>
stV h_31 ((⟨r_28, 0, none⟩ : Addr).add 2) (.int .i64 x_25) fun h_32 =>
stV h_32 ((⟨r_28, 0, none⟩ : Addr).add 3) (.int .i64 x_26) fun h_33 =>
stV h_33 ((⟨r_28, 0, none⟩ : Addr).add 4) (.bool x_27) fun h_34 =>
ldB h_34 ((⟨r_28, 0, none⟩ : Addr).add 0) fun x_35 =>
bcase x_35 (
ldI h_34 ((⟨r_28, 0, none⟩ : Addr).add 1) .i64 fun x_36 =>
ldI h_34 ((⟨r_28, 0, none⟩ : Addr).add 2) .i64 fun x_37 =>
ldI h_34 (((⟨r_28, 0, none⟩ : Addr).add 3).add 0) .i64 fun x_38 =>
C F_whole_PutID #[.pointer r_6, .int .i64 x_36, .int .i64 x_37, .int .i64 x_38] h_34 (fun v_39 h_40 =>
∃ (r_41 : Int), v_39 = .int .i64 r_41 ∧ (
ldB h_40 ((⟨r_28, 0, none⟩ : Addr).add 0) fun x_42 =>
ldI h_40 ((⟨r_28, 0, none⟩ : Addr).add 1) .i64 fun x_43 =>
ldI h_40 ((⟨r_28, 0, none⟩ : Addr).add 2) .i64 fun x_44 =>
ldI h_40 ((⟨r_28, 0, none⟩ : Addr).add 3) .i64 fun x_45 =>
ldB h_40 ((⟨r_28, 0, none⟩ : Addr).add 4) fun x_46 =>
C F_burinlaw5_badID #[.agg #[.bool x_42, .int .i64 x_43, .int .i64 x_44, .int .i64 x_45, .bool x_46]] h_40 (fun v_47 h_48 =>
∃ (r_49 : Int), v_47 = .int .i64 r_49 ∧ (
bcase (r_49 == (0 : Int)) (
ldI h_48 ((⟨r_28, 0, none⟩ : Addr).add 1) .i64 fun x_50 =>
ldI h_48 ((⟨r_28, 0, none⟩ : Addr).add 2) .i64 fun x_51 =>
ldI h_48 (((⟨r_28, 0, none⟩ : Addr).add 3).add 0) .i64 fun x_52 =>
C F_burinref5_PutID #[.pointer r_10, .int .i64 x_50, .int .i64 x_51, .int .i64 x_52] h_48 (fun v_53 h_54 =>
∃ (r_55 : Int), v_53 = .int .i64 r_55 ∧ (
bcase (r_41 != r_55) (
K (.bool false) h_54) <|
bindI (IntKind.i64.wrap (x_19 + (1 : Int))) fun z_56 =>
∃ m_15, m_15 < n_16 ∧ J_14 m_15 [.int .i64 z_56] h_54)) (Kp)) <|
bcase (r_41 != r_49) (
K (.bool false) h_48) <|
bindI (IntKind.i64.wrap (x_19 + (1 : Int))) fun z_57 =>
∃ m_15, m_15 < n_16 ∧ J_14 m_15 [.int .i64 z_57] h_48)) (Kp))) (Kp)) <|
ldI h_34 ((⟨r_28, 0, none⟩ : Addr).add 1) .i64 fun x_58 =>
ldI h_34 (((⟨r_28, 0, none⟩ : Addr).add 3).add 0) .i64 fun x_59 =>
ldB h_34 (((⟨r_28, 0, none⟩ : Addr).add 3).add 1) fun x_60 =>
C F_whole_Put #[.pointer r_6, .int .i64 x_58, .agg #[.int .i64 x_59, .bool x_60]] h_34 (fun v_61 h_62 =>
∃ (r_63 : Int), v_61 = .int .i64 r_63 ∧ (
ldB h_62 ((⟨r_28, 0, none⟩ : Addr).add 0) fun x_64 =>
ldI h_62 ((⟨r_28, 0, none⟩ : Addr).add 1) .i64 fun x_65 =>
ldI h_62 ((⟨r_28, 0, none⟩ : Addr).add 2) .i64 fun x_66 =>
ldI h_62 ((⟨r_28, 0, none⟩ : Addr).add 3) .i64 fun x_67 =>
ldB h_62 ((⟨r_28, 0, none⟩ : Addr).add 4) fun x_68 =>
C F_burinlaw5_badBase #[.agg #[.bool x_64, .int .i64 x_65, .int .i64 x_66, .int .i64 x_67, .bool x_68]] h_62 (fun v_69 h_70 =>
∃ (r_71 : Int), v_69 = .int .i64 r_71 ∧ (
∃ K_72 : List Value → Heap → Prop, (
bcase (r_71 == (0 : Int)) (
ldI h_70 (((⟨r_28, 0, none⟩ : Addr).add 3).add 0) .i64 fun x_75 =>
ldB h_70 (((⟨r_28, 0, none⟩ : Addr).add 3).add 1) fun x_76 =>
C F_burinref5_May #[.agg #[.int .i64 x_75, .bool x_76]] h_70 (fun v_77 h_78 =>
∃ (r_79 : Bool), v_77 = .bool r_79 ∧ (
bcase (!r_79) (
K_72 [.int .i64 50] h_78) <|
K_72 [.int .i64 r_71] h_78)) (Kp)) <|
K_72 [.int .i64 r_71] h_70) ∧ ∀ (h_73 : Heap) (u_74 : Nat → Value) (x_80 : Int), K_72 [.int .i64 x_80] h_73 → (
bcase (x_80 == (0 : Int)) (
ldI h_73 ((⟨r_28, 0, none⟩ : Addr).add 1) .i64 fun x_81 =>
ldI h_73 (((⟨r_28, 0, none⟩ : Addr).add 3).add 0) .i64 fun x_82 =>
ldB h_73 (((⟨r_28, 0, none⟩ : Addr).add 3).add 1) fun x_83 =>
C F_burinref5_Put #[.pointer r_10, .int .i64 x_81, .agg #[.int .i64 x_82, .bool x_83]] h_73 (fun v_84 h_85 =>
∃ (r_86 : Int), v_84 = .int .i64 r_86 ∧ (
bcase (r_63 != r_86) (
K (.bool false) h_85) <|
bindI (IntKind.i64.wrap (x_19 + (1 : Int))) fun z_87 =>
∃ m_15, m_15 < n_16 ∧ J_14 m_15 [.int .i64 z_87] h_85)) (Kp)) <|
bcase (r_63 != x_80) (
K (.bool false) h_73) <|
bindI (IntKind.i64.wrap (x_19 + (1 : Int))) fun z_88 =>
∃ m_15, m_15 < n_16 ∧ J_14 m_15 [.int .i64 z_88] h_73))) (Kp))) (Kp)) <|
K_11 [] h_17) <|
K_11 [] h_17)) ∧ ∀ (h_12 : Heap) (u_13 : Nat → Value) , K_11 [] h_12 → (
C F_arith_Coder_Flush #[.pointer r_6] h_12 (fun v_89 h_90 =>
∃ (r_91 : Option Addr) (r_91n : Nat) (r_91c : Nat), ∃ (r_92 : Int), v_89 = .tuple #[.slice r_91 r_91n r_91c, .int .i64 r_92] ∧ (
C F_burinref4_Coder_Flush #[.pointer r_10] h_90 (fun v_93 h_94 =>
∃ (r_95 : Option Addr) (r_95n : Nat) (r_95c : Nat), ∃ (r_96 : Int), v_93 = .tuple #[.slice r_95 r_95n r_95c, .int .i64 r_96] ∧ (
bcase (r_92 == r_96) (
C F_burinref0_Eq #[.slice r_91 r_91n r_91c, .slice r_95 r_95n r_95c] h_94 (fun v_97 h_98 =>
∃ (r_99 : Bool), v_97 = .bool r_99 ∧ (
bcase r_99 (
ptr r_6 fun a_100 =>
ptr r_10 fun a_101 =>
C F_arith_table_States #[.pointer (some (a_100.add 0))] h_98 (fun v_102 h_103 =>
∃ (r_104 : Option Addr) (r_104n : Nat) (r_104c : Nat), v_102 = .slice r_104 r_104n r_104c ∧ (
C F_burinref4_side_States #[.pointer (some (a_101.add 0))] h_103 (fun v_105 h_106 =>
∃ (r_107 : Option Addr) (r_107n : Nat) (r_107c : Nat), v_105 = .slice r_107 r_107n r_107c ∧ (
C F_burinref0_Eq #[.slice r_104 r_104n r_104c, .slice r_107 r_107n r_107c] h_106 (fun v_108 h_109 =>
∃ (r_110 : Bool), v_108 = .bool r_110 ∧ (
bcase r_110 (
C F_burinlaw5_wakes #[] h_109 (fun v_111 h_112 =>
∃ (r_113 : Bool), v_111 = .bool r_113 ∧ (
K (.bool r_113) h_112)) (Kp)) <|
K (.bool false) h_109)) (Kp))) (Kp))) (Kp)) <|
K (.bool false) h_98)) (Kp)) <|
K (.bool false) h_94)) (Kp))) (Kp)))) (Kp))) (Kp)

end Go.Den.Yteakipgcanafoaa

/- Written by gen.py: each condition of the functions of law5WholeMixed is the one of its body; so it is enough for its call. -/
set_option linter.unusedVariables false
set_option linter.unusedSimpArgs false
namespace Go.Den.Yteakipgcanafoaa
open Go Go.Den

noncomputable def hints_burinlaw5_WholeMixed : Hints := Hints.mk (fun i => bif Nat.beq i 25 then some ([6, 12, 16, 17, 20], .take 0 <| .take 1 <| .take 2 <| .take 3 <| .take 4 <| .take 5 <| .bar 6 [12, 16, 17, 20] <| .take 7 <| .take 8 <| .take 9 <| .take 10 <| .take 11 <| .take 13 <| .take 14 <| .take 15 <| .bar 12 [16, 17, 20] <| .bar 16 [17, 20] <| .bar 17 [20] <| .take 18 <| .take 19 <| .bar 20 [] <| .take 21 <| .take 22 <| .done) else (none))
  (fun i => bif Nat.beq i 6 then some ([(6, .int .i64)], 2475880078570760549781472196) else (none))
  (fun i => bif Nat.beq i 19 then some ([(9, .int .i64)], 1204203453131759529492992) else (bif Nat.beq i 23 then some ([], 2475880078570760549781472196) else (none))) []
set_option maxRecDepth 100000 in
theorem eq_burinlaw5_WholeMixed (C : CallP) (a0_1 : Option Addr) (a0_1n : Nat) (a0_1c : Nat) (h : Heap) (K : Value → Heap → Prop) (Kp : List PanicEntry → Heap → Prop) :
    fnD Go.Proofs.Try.prog C hints_burinlaw5_WholeMixed Go.Proofs.Try.f6 [.agg #[.slice a0_1 a0_1n a0_1c]] h K Kp = burinlaw5_WholeMixed C a0_1 a0_1n a0_1c h K Kp := by kernel_rfl

theorem call_burinlaw5_WholeMixed {a0_1 : Option Addr} {a0_1n : Nat} {a0_1c : Nat} {h : Heap} {K : Value → Heap → Prop} {Kp : List PanicEntry → Heap → Prop} (H : burinlaw5_WholeMixed (CallsHP Go.Proofs.Try.prog) a0_1 a0_1n a0_1c h K Kp) : CallsHP Go.Proofs.Try.prog F_burinlaw5_WholeMixed #[.agg #[.slice a0_1 a0_1n a0_1c]] h K Kp :=
  callsHP_of hints_burinlaw5_WholeMixed (by kernel_rfl) Go.Proofs.Try.func6 (by kernel_rfl) (by rw [eq_burinlaw5_WholeMixed]; exact H)

end Go.Den.Yteakipgcanafoaa

/- WhX: items (numbers and IDs here and there), both sides; the law WholeMixed, said of memory. -/
set_option linter.unusedVariables false
set_option linter.unusedSimpArgs false
namespace Go.Bm
open Go Go.Den Go.Den.Yteakipgcanafoaa
open Go.Ar (Cod CodOk Dec newC newC_ok codL refL RP decN newD u8s flushM bytesM)

theorem ptr_its {q : Option Addr} {a : Addr} {K : Addr → Prop} (h : q = some a) (H : K a) : ptr q K := by subst h; exact H
structure ItW where
  id : Bool
  base : Int
  width : Int
  v : Int
  none : Bool
def ItW.cs (t : ItW) : List Value := [.bool t.id, .int .i64 t.base, .int .i64 t.width, .int .i64 t.v, .bool t.none]
structure ItW.Cells (h : Heap) (a : Addr) (t : ItW) : Prop where
  k0 : hcell h (a.add 0) = some (.bool t.id)
  k1 : hcell h (a.add 1) = some (.int .i64 t.base)
  k2 : hcell h (a.add 2) = some (.int .i64 t.width)
  k3 : hcell h (a.add 3) = some (.int .i64 t.v)
  k4 : hcell h (a.add 4) = some (.bool t.none)
def ItW.I64 (t : ItW) : Prop := (-9223372036854775808 ≤ t.v ∧ t.v < 9223372036854775808) ∧ (-9223372036854775808 ≤ t.base ∧ t.base < 9223372036854775808) ∧ (-9223372036854775808 ≤ t.width ∧ t.width < 9223372036854775808)
def ItemsW (h : Heap) (sq : Option Addr) (slen : Nat) (T : Nat → ItW) : Prop := ∀ i, i < slen → ∃ a, sq = some a ∧ ItW.Cells h (a.add (i * 5)) (T i) ∧ (T i).I64

instance (base : Int) (w m : Nat) : Decidable (IdFit base w m) := by unfold IdFit; infer_instance
instance (v : Int) (b : Bool) : Decidable (rightW v b) := by unfold rightW; infer_instance
/-- What putting an ID, a number answers. -/
def errID (t : ItW) : Int := if ¬ (0 ≤ t.width ∧ t.width ≤ 12) then 52 else if ¬ IdFit t.base t.width.toNat 9000 then 51 else if ¬ (0 ≤ t.v ∧ t.v < ((2 ^ t.width.toNat : Nat) : Int)) then 50 else 0
def errWh (t : ItW) : Int := if ¬ (0 ≤ t.base ∧ t.base + ((512 : Nat) : Int) ≤ ((9000 : Nat) : Int)) then 51 else if ¬ rightW t.v t.none then 50 else 0
def errIt (t : ItW) : Int := if t.id = true then errID t else errWh t
/-- Its decisions. -/
def dsIt (t : ItW) : List (Nat × Nat) := if errIt t = 0 then (if t.id = true then dsId 9000 t.base t.width.toNat t.v.toNat else dsWh 9000 t.base t.v t.none) else []
theorem dsIt_err {t : ItW} (h : errIt t ≠ 0) : dsIt t = [] := by unfold dsIt; rw [if_neg h]
theorem errID_0 {t : ItW} (h : errID t = 0) : (0 ≤ t.width ∧ t.width ≤ 12) ∧ IdFit t.base t.width.toNat 9000 ∧ (0 ≤ t.v ∧ t.v < ((2 ^ t.width.toNat : Nat) : Int)) := by
  unfold errID at h
  split at h
  · cases h
  · split at h
    · cases h
    · split at h
      · cases h
      · rename_i h1 h2 h3
        exact ⟨Decidable.not_not.1 h1, Decidable.not_not.1 h2, Decidable.not_not.1 h3⟩
theorem errWh_0 {t : ItW} (h : errWh t = 0) : (0 ≤ t.base ∧ t.base + ((512 : Nat) : Int) ≤ ((9000 : Nat) : Int)) ∧ rightW t.v t.none := by
  unfold errWh at h
  split at h
  · cases h
  · split at h
    · cases h
    · rename_i h1 h2
      exact ⟨Decidable.not_not.1 h1, Decidable.not_not.1 h2⟩
theorem errID_52 {t : ItW} (h1 : ¬ (0 ≤ t.width ∧ t.width ≤ 12)) : errID t = 52 := by unfold errID; rw [if_pos h1]
theorem errID_51 {t : ItW} (h1 : 0 ≤ t.width ∧ t.width ≤ 12) (h2 : ¬ IdFit t.base t.width.toNat 9000) : errID t = 51 := by unfold errID; rw [if_neg (not_not_intro h1), if_pos h2]
theorem errID_50 {t : ItW} (h1 : 0 ≤ t.width ∧ t.width ≤ 12) (h2 : IdFit t.base t.width.toNat 9000) (h3 : ¬ (0 ≤ t.v ∧ t.v < ((2 ^ t.width.toNat : Nat) : Int))) : errID t = 50 := by unfold errID; rw [if_neg (not_not_intro h1), if_neg (not_not_intro h2), if_pos h3]
theorem errID_ok {t : ItW} (h1 : 0 ≤ t.width ∧ t.width ≤ 12) (h2 : IdFit t.base t.width.toNat 9000) (h3 : 0 ≤ t.v ∧ t.v < ((2 ^ t.width.toNat : Nat) : Int)) : errID t = 0 := by unfold errID; rw [if_neg (not_not_intro h1), if_neg (not_not_intro h2), if_neg (not_not_intro h3)]
theorem errWh_51 {t : ItW} (h1 : ¬ (0 ≤ t.base ∧ t.base + ((512 : Nat) : Int) ≤ ((9000 : Nat) : Int))) : errWh t = 51 := by unfold errWh; rw [if_pos h1]
theorem errWh_50 {t : ItW} (h1 : 0 ≤ t.base ∧ t.base + ((512 : Nat) : Int) ≤ ((9000 : Nat) : Int)) (h2 : ¬ rightW t.v t.none) : errWh t = 50 := by unfold errWh; rw [if_neg (not_not_intro h1), if_pos h2]
theorem errWh_ok {t : ItW} (h1 : 0 ≤ t.base ∧ t.base + ((512 : Nat) : Int) ≤ ((9000 : Nat) : Int)) (h2 : rightW t.v t.none) : errWh t = 0 := by unfold errWh; rw [if_neg (not_not_intro h1), if_neg (not_not_intro h2)]
theorem errIt_id {t : ItW} (h : t.id = true) : errIt t = errID t := by unfold errIt; rw [if_pos h]
theorem errIt_wh {t : ItW} (h : t.id = false) : errIt t = errWh t := by unfold errIt; rw [if_neg (by rw [h]; decide)]
theorem dsIt_id {t : ItW} (h : t.id = true) (he : errID t = 0) : dsIt t = dsId 9000 t.base t.width.toNat t.v.toNat := by unfold dsIt; rw [if_pos (by rw [errIt_id h]; exact he), if_pos h]
theorem dsIt_wh {t : ItW} (h : t.id = false) (he : errWh t = 0) : dsIt t = dsWh 9000 t.base t.v t.none := by unfold dsIt; rw [if_pos (by rw [errIt_wh h]; exact he), if_neg (by rw [h]; decide)]
theorem dsIt_len (t : ItW) : (dsIt t).length ≤ 39 := by
  unfold dsIt
  split
  · split
    · rename_i h1 h2
      rw [errIt_id h2] at h1
      have := errID_0 h1
      rw [dsId_len]
      omega
    · exact dsWh_len _ _ _ _
  · exact Nat.zero_le _
theorem dsIt_bit (t : ItW) : ∀ d ∈ dsIt t, d.2 ≤ 1 := fun d hd => by
  unfold dsIt at hd
  split at hd
  · split at hd
    · exact dsId_bit _ _ _ _ d hd
    · exact dsWh_bit _ _ _ _ d hd
  · cases hd
/-- The items that are put, of the first ones. -/
def doneL (T : Nat → ItW) : Nat → List ItW
  | 0 => []
  | i + 1 => if errIt (T i) = 0 then doneL T i ++ [T i] else doneL T i
def dsD (l : List ItW) : List (Nat × Nat) := l.flatMap dsIt
theorem dsD_step (T : Nat → ItW) (i : Nat) : dsD (doneL T (i + 1)) = dsD (doneL T i) ++ dsIt (T i) := by
  show dsD (if errIt (T i) = 0 then doneL T i ++ [T i] else doneL T i) = _
  split
  · unfold dsD
    rw [List.flatMap_append]
    congr 1
    show dsIt (T i) ++ [] = _
    rw [List.append_nil]
  · rename_i h
    rw [dsIt_err h, List.append_nil]
theorem doneL_len (T : Nat → ItW) : ∀ i, (doneL T i).length ≤ i
  | 0 => Nat.le_refl _
  | i + 1 => by
    have := doneL_len T i
    unfold doneL
    split
    · rw [List.length_append]; show _ + 1 ≤ _; omega
    · omega
theorem doneL_ok (T : Nat → ItW) : ∀ i, ∀ t ∈ doneL T i, errIt t = 0
  | 0 => fun t ht => by cases ht
  | i + 1 => fun t ht => by
    unfold doneL at ht
    split at ht
    · rcases List.mem_append.1 ht with ht | ht
      · exact doneL_ok T i t ht
      · rw [List.mem_singleton.1 ht]; assumption
    · exact doneL_ok T i t ht
theorem dsD_len : ∀ l : List ItW, (dsD l).length ≤ 39 * l.length
  | [] => Nat.le_refl _
  | x :: l => by
    have h1 := dsD_len l
    have h2 := dsIt_len x
    show (dsIt x ++ dsD l).length ≤ _
    rw [List.length_append, List.length_cons]
    omega
theorem dsD_bit (l : List ItW) : ∀ d ∈ dsD l, d.2 ≤ 1 := fun d hd => by
  obtain ⟨x, _, hx⟩ := List.mem_flatMap.1 hd
  exact dsIt_bit x d hx

section
variable {h0 h : Heap} {FF : List Nat} {K : Value → Heap → Prop} {Kp : List PanicEntry → Heap → Prop} {L : List (Nat × Nat)} {t : ItW}
/-- The program puts an ID. -/
theorem itId_ok {p q r : Nat} {rest : List Value} (H : Hp h0 FF h (codL p q r (cdL 9000 L) rest)) (hL : L.length ≤ 10000) (hid : t.id = true)
    (hk : ∀ r' rest' h', Hp h0 FF h' (codL p q r' (cdL 9000 (L ++ dsIt t)) rest') → K (.int .i64 (errID t)) h') :
    CP F_whole_PutID #[.pointer (at0 p), .int .i64 t.base, .int .i64 t.width, .int .i64 t.v] h K Kp := by
  have hc := cdL_ok (m := 9000) (L := L) (by omega)
  have stay : errID t ≠ 0 → K (.int .i64 (errID t)) h := fun he => by
    rw [dsIt_err (by rw [errIt_id hid]; exact he), List.append_nil] at hk
    exact hk r rest h H
  refine wputid_ok H hc (by decide) (by decide) (by omega) (fun h1 => ?_) (fun w ew hw hf => ?_) (fun w ew hw hf hv => ?_) (fun w x r' rest' h' ew hw hf ex hx H => ?_)
  · have e := errID_52 h1
    rw [e] at stay
    exact stay (by decide)
  · have e := errID_51 (t := t) (by omega) (by rw [ew]; exact hf)
    rw [e] at stay
    exact stay (by decide)
  · have e := errID_50 (t := t) (by omega) (by rw [ew]; exact hf) (by rw [ew]; exact hv)
    rw [e] at stay
    exact stay (by decide)
  · have e := errID_ok (t := t) (by omega) (by rw [ew]; exact hf) (by rw [ew]; exact ⟨by omega, by rw [ex, Int.toNat_natCast]; omega⟩)
    have hd := dsIt_id hid e
    rw [ew, ex, Int.toNat_natCast, Int.toNat_natCast] at hd
    rw [run_id, ← hd] at H
    have := hk r' rest' h' H
    rw [e] at this
    exact this
/-- The program puts a number. -/
theorem itWh_ok {p q r : Nat} {rest : List Value} (H : Hp h0 FF h (codL p q r (cdL 9000 L) rest)) (hL : L.length ≤ 10000) (hid : t.id = false) (ht : t.I64)
    (hk : ∀ r' rest' h', Hp h0 FF h' (codL p q r' (cdL 9000 (L ++ dsIt t)) rest') → K (.int .i64 (errWh t)) h') :
    CP F_whole_Put #[.pointer (at0 p), .int .i64 t.base, .agg #[.int .i64 t.v, .bool t.none]] h K Kp := by
  have hc := cdL_ok (m := 9000) (L := L) (by omega)
  have stay : ∀ h', Hp h0 FF h' (codL p q r (cdL 9000 L) rest) → errWh t ≠ 0 → K (.int .i64 (errWh t)) h' := fun h' H he => by
    rw [dsIt_err (by rw [errIt_wh hid]; exact he), List.append_nil] at hk
    exact hk r rest h' H
  refine wput_ok H hc (by decide) (by decide) ht.1 (by omega) (fun h' hf H => ?_) (fun h' hf hr H => ?_) fun r' rest' h' hf hr H => ?_
  · have e := errWh_51 (t := t) hf
    have := stay h' H (by rw [e]; decide)
    rw [e] at this
    exact this
  · have e := errWh_50 (t := t) hf hr
    have := stay h' H (by rw [e]; decide)
    rw [e] at this
    exact this
  · have e := errWh_ok (t := t) hf hr
    have hd := dsIt_wh hid e
    rw [run_wh, ← hd] at H
    have := hk r' rest' h' H
    rw [e] at this
    exact this
/-- What the law thinks of an ID. -/
theorem badID_ok {b4 : Bool} (hk : ∀ h', hext h h' → K (.int .i64 (errID t)) h') (ht : t.I64) : CP F_burinlaw5_badID #[.agg #[.bool b4, .int .i64 t.base, .int .i64 t.width, .int .i64 t.v, .bool t.none]] h K Kp := by
  refine call_burinlaw5_badID ?_
  unfold burinlaw5_badID
  have H := Hp.nil h []
  refine newC_hp H fun r6 h H => ?_
  repeat first | with_reducible refine ldI_of (by with_unfolding_all first | exact hpA H 0 rfl rfl | exact Hp.cell H 0 rfl rfl | exact hpB H 0 rfl rfl | exact hpC H 0 rfl rfl) ?_ | with_reducible refine ldS_of (by with_unfolding_all first | exact hpA H 0 rfl rfl | exact Hp.cell H 0 rfl rfl | exact hpB H 0 rfl rfl | exact hpC H 0 rfl rfl) ?_ | with_reducible refine ldP_of (by with_unfolding_all first | exact hpA H 0 rfl rfl | exact Hp.cell H 0 rfl rfl | exact hpB H 0 rfl rfl | exact hpC H 0 rfl rfl) ?_ | with_reducible refine ldB_of (by with_unfolding_all first | exact hpA H 0 rfl rfl | exact Hp.cell H 0 rfl rfl | exact hpB H 0 rfl rfl | exact hpC H 0 rfl rfl) ?_ | with_reducible refine ldT_of (by with_unfolding_all first | exact hpA H 0 rfl rfl | exact Hp.cell H 0 rfl rfl | exact hpB H 0 rfl rfl | exact hpC H 0 rfl rfl) ?_
  have e52 : ¬ (0 ≤ t.width ∧ t.width ≤ 12) → K (.int .i64 52) h := fun h1 => by
    have := hk h H.hext
    rw [errID_52 h1] at this
    exact this
  refine bcase_dec (fun h1 => e52 (by omega)) fun h1 => ?_
  repeat first | with_reducible refine ldI_of (by with_unfolding_all first | exact hpA H 0 rfl rfl | exact Hp.cell H 0 rfl rfl | exact hpB H 0 rfl rfl | exact hpC H 0 rfl rfl) ?_ | with_reducible refine ldS_of (by with_unfolding_all first | exact hpA H 0 rfl rfl | exact Hp.cell H 0 rfl rfl | exact hpB H 0 rfl rfl | exact hpC H 0 rfl rfl) ?_ | with_reducible refine ldP_of (by with_unfolding_all first | exact hpA H 0 rfl rfl | exact Hp.cell H 0 rfl rfl | exact hpB H 0 rfl rfl | exact hpC H 0 rfl rfl) ?_ | with_reducible refine ldB_of (by with_unfolding_all first | exact hpA H 0 rfl rfl | exact Hp.cell H 0 rfl rfl | exact hpB H 0 rfl rfl | exact hpC H 0 rfl rfl) ?_ | with_reducible refine ldT_of (by with_unfolding_all first | exact hpA H 0 rfl rfl | exact Hp.cell H 0 rfl rfl | exact hpB H 0 rfl rfl | exact hpC H 0 rfl rfl) ?_
  refine bcase_dec (fun h2 => e52 (by omega)) fun h2 => ?_
  have hw : 0 ≤ t.width ∧ t.width ≤ 12 := ⟨by omega, by omega⟩
  obtain ⟨w, ew⟩ : ∃ w : Nat, t.width = (w : Nat) := ⟨t.width.toNat, by omega⟩
  have hw12 : w ≤ 12 := by omega
  have hp := pow12 hw12
  have e51 : ¬ IdFit t.base w 9000 → K (.int .i64 51) h := fun h1 => by
    have := hk h H.hext
    rw [errID_51 hw (by rw [ew]; exact h1)] at this
    exact this
  repeat first | with_reducible refine ldI_of (by with_unfolding_all first | exact hpA H 0 rfl rfl | exact Hp.cell H 0 rfl rfl | exact hpB H 0 rfl rfl | exact hpC H 0 rfl rfl) ?_ | with_reducible refine ldS_of (by with_unfolding_all first | exact hpA H 0 rfl rfl | exact Hp.cell H 0 rfl rfl | exact hpB H 0 rfl rfl | exact hpC H 0 rfl rfl) ?_ | with_reducible refine ldP_of (by with_unfolding_all first | exact hpA H 0 rfl rfl | exact Hp.cell H 0 rfl rfl | exact hpB H 0 rfl rfl | exact hpC H 0 rfl rfl) ?_ | with_reducible refine ldB_of (by with_unfolding_all first | exact hpA H 0 rfl rfl | exact Hp.cell H 0 rfl rfl | exact hpB H 0 rfl rfl | exact hpC H 0 rfl rfl) ?_ | with_reducible refine ldT_of (by with_unfolding_all first | exact hpA H 0 rfl rfl | exact Hp.cell H 0 rfl rfl | exact hpB H 0 rfl rfl | exact hpC H 0 rfl rfl) ?_
  refine bcase_dec (fun h3 => e51 (by unfold IdFit; omega)) fun h3 => ?_
  repeat first | with_reducible refine ldI_of (by with_unfolding_all first | exact hpA H 0 rfl rfl | exact Hp.cell H 0 rfl rfl | exact hpB H 0 rfl rfl | exact hpC H 0 rfl rfl) ?_ | with_reducible refine ldS_of (by with_unfolding_all first | exact hpA H 0 rfl rfl | exact Hp.cell H 0 rfl rfl | exact hpB H 0 rfl rfl | exact hpC H 0 rfl rfl) ?_ | with_reducible refine ldP_of (by with_unfolding_all first | exact hpA H 0 rfl rfl | exact Hp.cell H 0 rfl rfl | exact hpB H 0 rfl rfl | exact hpC H 0 rfl rfl) ?_ | with_reducible refine ldB_of (by with_unfolding_all first | exact hpA H 0 rfl rfl | exact Hp.cell H 0 rfl rfl | exact hpB H 0 rfl rfl | exact hpC H 0 rfl rfl) ?_ | with_reducible refine ldT_of (by with_unfolding_all first | exact hpA H 0 rfl rfl | exact Hp.cell H 0 rfl rfl | exact hpB H 0 rfl rfl | exact hpC H 0 rfl rfl) ?_
  rw [ew]
  refine bindI_of (((w : Nat) : Int)) (by exact u64_in _ (by omega) (by omega)) ?_
  refine needs_of (by omega) ?_
  refine bindI_of (((2 ^ w : Nat) : Int)) (by exact shl1_of hw12) ?_
  refine bindI_of (((9000 : Int) - ((2 ^ w : Nat) : Int))) (by exact i64_in _ (by omega) (by omega)) ?_
  refine bcase_dec (fun h4 => e51 (by unfold IdFit; omega)) fun h4 => ?_
  have hf : IdFit t.base w 9000 := ⟨by omega, by omega⟩
  have e50 : ¬ (0 ≤ t.v ∧ t.v < ((2 ^ w : Nat) : Int)) → K (.int .i64 50) h := fun h1 => by
    have := hk h H.hext
    rw [errID_50 hw (by rw [ew]; exact hf) (by rw [ew]; exact h1)] at this
    exact this
  refine ldI_of (hpB H 0 rfl rfl) ?_
  refine bcase_dec (fun h5 => e50 (by omega)) fun h5 => ?_
  refine ldI_of (hpB H 0 rfl rfl) ?_
  repeat first | with_reducible refine ldI_of (by with_unfolding_all first | exact hpA H 0 rfl rfl | exact Hp.cell H 0 rfl rfl | exact hpB H 0 rfl rfl | exact hpC H 0 rfl rfl) ?_ | with_reducible refine ldS_of (by with_unfolding_all first | exact hpA H 0 rfl rfl | exact Hp.cell H 0 rfl rfl | exact hpB H 0 rfl rfl | exact hpC H 0 rfl rfl) ?_ | with_reducible refine ldP_of (by with_unfolding_all first | exact hpA H 0 rfl rfl | exact Hp.cell H 0 rfl rfl | exact hpB H 0 rfl rfl | exact hpC H 0 rfl rfl) ?_ | with_reducible refine ldB_of (by with_unfolding_all first | exact hpA H 0 rfl rfl | exact Hp.cell H 0 rfl rfl | exact hpB H 0 rfl rfl | exact hpC H 0 rfl rfl) ?_ | with_reducible refine ldT_of (by with_unfolding_all first | exact hpA H 0 rfl rfl | exact Hp.cell H 0 rfl rfl | exact hpB H 0 rfl rfl | exact hpC H 0 rfl rfl) ?_
  rw [ew]
  refine bindI_of (((w : Nat) : Int)) (by exact u64_in _ (by omega) (by omega)) ?_
  refine needs_of (by omega) ?_
  refine bindI_of (((2 ^ w : Nat) : Int)) (by exact shl1_of hw12) ?_
  refine bcase_dec (fun h6 => e50 (by omega)) fun h6 => ?_
  have := hk h H.hext
  rw [errID_ok hw (by rw [ew]; exact hf) (by rw [ew]; exact ⟨by omega, by rw [Int.toNat_natCast]; omega⟩)] at this
  exact this
theorem badBase_ok {b4 : Bool} (hk : ∀ h', hext h h' → K (.int .i64 (if ¬ (0 ≤ t.base ∧ t.base + ((512 : Nat) : Int) ≤ ((9000 : Nat) : Int)) then 51 else 0)) h') : CP F_burinlaw5_badBase #[.agg #[.bool b4, .int .i64 t.base, .int .i64 t.width, .int .i64 t.v, .bool t.none]] h K Kp := by
  refine call_burinlaw5_badBase ?_
  unfold burinlaw5_badBase
  have H := Hp.nil h []
  refine newC_hp H fun r6 h H => ?_
  repeat first | with_reducible refine ldI_of (by with_unfolding_all first | exact hpA H 0 rfl rfl | exact Hp.cell H 0 rfl rfl | exact hpB H 0 rfl rfl | exact hpC H 0 rfl rfl) ?_ | with_reducible refine ldS_of (by with_unfolding_all first | exact hpA H 0 rfl rfl | exact Hp.cell H 0 rfl rfl | exact hpB H 0 rfl rfl | exact hpC H 0 rfl rfl) ?_ | with_reducible refine ldP_of (by with_unfolding_all first | exact hpA H 0 rfl rfl | exact Hp.cell H 0 rfl rfl | exact hpB H 0 rfl rfl | exact hpC H 0 rfl rfl) ?_ | with_reducible refine ldB_of (by with_unfolding_all first | exact hpA H 0 rfl rfl | exact Hp.cell H 0 rfl rfl | exact hpB H 0 rfl rfl | exact hpC H 0 rfl rfl) ?_ | with_reducible refine ldT_of (by with_unfolding_all first | exact hpA H 0 rfl rfl | exact Hp.cell H 0 rfl rfl | exact hpB H 0 rfl rfl | exact hpC H 0 rfl rfl) ?_
  have hk := hk h H.hext
  refine bcase_dec (fun h1 => ?_) fun h1 => ?_
  · rw [if_pos (by omega)] at hk
    exact hk
  repeat first | with_reducible refine ldI_of (by with_unfolding_all first | exact hpA H 0 rfl rfl | exact Hp.cell H 0 rfl rfl | exact hpB H 0 rfl rfl | exact hpC H 0 rfl rfl) ?_ | with_reducible refine ldS_of (by with_unfolding_all first | exact hpA H 0 rfl rfl | exact Hp.cell H 0 rfl rfl | exact hpB H 0 rfl rfl | exact hpC H 0 rfl rfl) ?_ | with_reducible refine ldP_of (by with_unfolding_all first | exact hpA H 0 rfl rfl | exact Hp.cell H 0 rfl rfl | exact hpB H 0 rfl rfl | exact hpC H 0 rfl rfl) ?_ | with_reducible refine ldB_of (by with_unfolding_all first | exact hpA H 0 rfl rfl | exact Hp.cell H 0 rfl rfl | exact hpB H 0 rfl rfl | exact hpC H 0 rfl rfl) ?_ | with_reducible refine ldT_of (by with_unfolding_all first | exact hpA H 0 rfl rfl | exact Hp.cell H 0 rfl rfl | exact hpB H 0 rfl rfl | exact hpC H 0 rfl rfl) ?_
  refine bcase_dec (fun h2 => ?_) fun h2 => ?_
  · rw [if_pos (by omega)] at hk
    exact hk
  · rw [if_neg (by omega)] at hk
    exact hk
end

set_option maxRecDepth 100000 in
set_option maxHeartbeats 8000000 in
theorem wMixed_law {hB : Heap} {sq : Option Addr} {slen scap : Nat} {T : Nat → ItW} (hT : ItemsW hB sq slen T) {K : Value → Heap → Prop} {Kp : List PanicEntry → Heap → Prop} (hk : ∀ h', hext hB h' → K (.bool true) h') :
    CP F_burinlaw5_WholeMixed #[.agg #[.slice sq slen scap]] hB K Kp := by
  refine call_burinlaw5_WholeMixed ?_
  unfold burinlaw5_WholeMixed
  have fr : ∀ {h : Heap} {L : List Ent} {c : Addr} {v : Value}, Hp hB [] h L → hcell hB c = some v → hcell h c = some v := fun H hc => H.fr.cell (by simp) hc
  have H := Hp.nil hB []
  refine newC_hp H fun r2 h H => ?_
  refine Go.Ar.new_ok (n := 9000) (by decide) (by decide) fun p q r1 h H' => ?_
  replace H := H.join H' rfl
  clear H'
  refine ⟨_, _, rfl, ?_⟩
  refine bcase_false (by rfl) ?_
  refine bcase_false (by rfl) ?_
  refine Go.Ar.rnew_ok (n := 9000) (by decide) fun A r2' h H' => ?_
  replace H := H.join H' rfl
  clear H'
  refine ⟨_, rfl, ?_⟩
  have H : Hp hB [] h ([⟨r2, true, T_burinlaw5_Mixed, [.slice sq slen scap]⟩] ++ codL p q r1 (cdL 9000 (dsD (doneL T 0))) [] ++ refL A r2' (cdL 9000 (dsD (doneL T 0))) []) := H
  refine ⟨fun _ h' => ∃ i r1 rest1 r2' rest2, i ≤ 200 ∧ Hp hB [] h' ([⟨r2, true, T_burinlaw5_Mixed, [.slice sq slen scap]⟩] ++ codL p q r1 (cdL 9000 (dsD (doneL T i))) rest1 ++ refL A r2' (cdL 9000 (dsD (doneL T i))) rest2), ?_, ?_⟩
  · refine ⟨fun n vs h' => ∃ (i : Nat) (r1 : Nat) (rest1 : List Value) (r2' : Nat) (rest2 : List Value), i + n = 200 ∧ vs = [.int .i64 (i : Nat)] ∧ Hp hB [] h' ([⟨r2, true, T_burinlaw5_Mixed, [.slice sq slen scap]⟩] ++ codL p q r1 (cdL 9000 (dsD (doneL T i))) rest1 ++ refL A r2' (cdL 9000 (dsD (doneL T i))) rest2),
      ⟨200, 0, r1, [], r2', [], rfl, rfl, H⟩, ?_⟩
    clear H
    rintro n h u x ⟨i, r1, rest1, r2', rest2, hin, hxx, H⟩
    injection hxx with hxx
    injection hxx with _ hxx
    subst hxx
    repeat first | with_reducible refine ldI_of (by with_unfolding_all first | exact hpA H 0 rfl rfl | exact Hp.cell H 0 rfl rfl | exact hpB H 0 rfl rfl | exact hpC H 0 rfl rfl) ?_ | with_reducible refine ldS_of (by with_unfolding_all first | exact hpA H 0 rfl rfl | exact Hp.cell H 0 rfl rfl | exact hpB H 0 rfl rfl | exact hpC H 0 rfl rfl) ?_ | with_reducible refine ldP_of (by with_unfolding_all first | exact hpA H 0 rfl rfl | exact Hp.cell H 0 rfl rfl | exact hpB H 0 rfl rfl | exact hpC H 0 rfl rfl) ?_ | with_reducible refine ldB_of (by with_unfolding_all first | exact hpA H 0 rfl rfl | exact Hp.cell H 0 rfl rfl | exact hpB H 0 rfl rfl | exact hpC H 0 rfl rfl) ?_ | with_reducible refine ldT_of (by with_unfolding_all first | exact hpA H 0 rfl rfl | exact Hp.cell H 0 rfl rfl | exact hpB H 0 rfl rfl | exact hpC H 0 rfl rfl) ?_
    refine bcase_dec (fun h1 => ?_) fun h1 => ⟨i, r1, rest1, r2', rest2, by omega, H⟩
    refine bcase_dec (fun h2 => ?_) fun h2 => ⟨i, r1, rest1, r2', rest2, by omega, H⟩
    repeat first | with_reducible refine ldI_of (by with_unfolding_all first | exact hpA H 0 rfl rfl | exact Hp.cell H 0 rfl rfl | exact hpB H 0 rfl rfl | exact hpC H 0 rfl rfl) ?_ | with_reducible refine ldS_of (by with_unfolding_all first | exact hpA H 0 rfl rfl | exact Hp.cell H 0 rfl rfl | exact hpB H 0 rfl rfl | exact hpC H 0 rfl rfl) ?_ | with_reducible refine ldP_of (by with_unfolding_all first | exact hpA H 0 rfl rfl | exact Hp.cell H 0 rfl rfl | exact hpB H 0 rfl rfl | exact hpC H 0 rfl rfl) ?_ | with_reducible refine ldB_of (by with_unfolding_all first | exact hpA H 0 rfl rfl | exact Hp.cell H 0 rfl rfl | exact hpB H 0 rfl rfl | exact hpC H 0 rfl rfl) ?_ | with_reducible refine ldT_of (by with_unfolding_all first | exact hpA H 0 rfl rfl | exact Hp.cell H 0 rfl rfl | exact hpB H 0 rfl rfl | exact hpC H 0 rfl rfl) ?_
    obtain ⟨a, hsq, hC, hI⟩ := hT i (by omega)
    obtain ⟨k0, k1, k2, k3, k4⟩ := hC
    have hdl := dsD_len (doneL T i)
    have hdn := doneL_len T i
    have hstep := dsD_step T i
    have hco := cdL_ok (m := 9000) (L := dsD (doneL T i)) (by omega)
    refine needs_of (by omega) (ptr_its hsq ?_)
    rw [Int.toNat_natCast]
    refine ldB_of (fr H k0) (ldI_of (fr H k1) (ldI_of (fr H k2) (ldI_of (fr H k3) (ldB_of (fr H k4) ?_))))
    refine newC_hp H fun r28 h H => ?_
    repeat first | with_reducible refine stA H 9 (by with_unfolding_all exact rfl) (by with_unfolding_all exact rfl) (by with_unfolding_all exact rfl) fun h H => ?_ | with_reducible refine st0 H 9 (by with_unfolding_all exact rfl) (by with_unfolding_all exact rfl) (by with_unfolding_all exact rfl) fun h H => ?_ | with_reducible refine stB H 9 (by with_unfolding_all exact rfl) (by with_unfolding_all exact rfl) (by with_unfolding_all exact rfl) fun h H => ?_
    obtain ⟨t, ht⟩ : ∃ t, t = T i := ⟨_, rfl⟩
    rw [← ht] at hstep hI H
    have next : ∀ {h' : Heap} {r1 r2' : Nat} {rest1 rest2 X : List Value}, Hp hB [] h' (([⟨r2, true, T_burinlaw5_Mixed, [.slice sq slen scap]⟩] ++ codL p q r1 (cdL 9000 (dsD (doneL T i) ++ dsIt t)) rest1 ++ refL A r2' (cdL 9000 (dsD (doneL T i) ++ dsIt t)) rest2) ++ [⟨r28, true, T_burinlaw5_Item, X⟩]) →
        ∃ m, m < n ∧ ∃ (i' : Nat) (r1 : Nat) (rest1 : List Value) (r2' : Nat) (rest2 : List Value), i' + m = 200 ∧ [Value.int .i64 ((i + 1 : Nat) : Int)] = [.int .i64 (i' : Nat)] ∧ Hp hB [] h' ([⟨r2, true, T_burinlaw5_Mixed, [.slice sq slen scap]⟩] ++ codL p q r1 (cdL 9000 (dsD (doneL T i'))) rest1 ++ refL A r2' (cdL 9000 (dsD (doneL T i'))) rest2) := fun H =>
      ⟨n - 1, by omega, i + 1, _, _, _, _, by omega, rfl, by rw [hstep]; exact Hp.pre H⟩
    have H : Hp hB [] h (([⟨r2, true, T_burinlaw5_Mixed, [.slice sq slen scap]⟩] ++ codL p q r1 (cdL 9000 (dsD (doneL T i))) rest1 ++ refL A r2' (cdL 9000 (dsD (doneL T i))) rest2) ++ [⟨r28, true, T_burinlaw5_Item, [.bool t.id, .int .i64 t.base, .int .i64 t.width, .int .i64 t.v, .bool t.none]⟩]) := H
    repeat first | with_reducible refine ldI_of (by with_unfolding_all first | exact hpA H 9 rfl rfl | exact Hp.cell H 9 rfl rfl | exact hpB H 9 rfl rfl | exact hpC H 9 rfl rfl) ?_ | with_reducible refine ldS_of (by with_unfolding_all first | exact hpA H 9 rfl rfl | exact Hp.cell H 9 rfl rfl | exact hpB H 9 rfl rfl | exact hpC H 9 rfl rfl) ?_ | with_reducible refine ldP_of (by with_unfolding_all first | exact hpA H 9 rfl rfl | exact Hp.cell H 9 rfl rfl | exact hpB H 9 rfl rfl | exact hpC H 9 rfl rfl) ?_ | with_reducible refine ldB_of (by with_unfolding_all first | exact hpA H 9 rfl rfl | exact Hp.cell H 9 rfl rfl | exact hpB H 9 rfl rfl | exact hpC H 9 rfl rfl) ?_ | with_reducible refine ldT_of (by with_unfolding_all first | exact hpA H 9 rfl rfl | exact Hp.cell H 9 rfl rfl | exact hpB H 9 rfl rfl | exact hpC H 9 rfl rfl) ?_
    refine bcase_of (fun hid => ?_) fun hid => ?_
    · repeat first | with_reducible refine ldI_of (by with_unfolding_all first | exact hpA H 9 rfl rfl | exact Hp.cell H 9 rfl rfl | exact hpB H 9 rfl rfl | exact hpC H 9 rfl rfl) ?_ | with_reducible refine ldS_of (by with_unfolding_all first | exact hpA H 9 rfl rfl | exact Hp.cell H 9 rfl rfl | exact hpB H 9 rfl rfl | exact hpC H 9 rfl rfl) ?_ | with_reducible refine ldP_of (by with_unfolding_all first | exact hpA H 9 rfl rfl | exact Hp.cell H 9 rfl rfl | exact hpB H 9 rfl rfl | exact hpC H 9 rfl rfl) ?_ | with_reducible refine ldB_of (by with_unfolding_all first | exact hpA H 9 rfl rfl | exact Hp.cell H 9 rfl rfl | exact hpB H 9 rfl rfl | exact hpC H 9 rfl rfl) ?_ | with_reducible refine ldT_of (by with_unfolding_all first | exact hpA H 9 rfl rfl | exact Hp.cell H 9 rfl rfl | exact hpB H 9 rfl rfl | exact hpC H 9 rfl rfl) ?_
      refine itId_ok (t := t) (H.give [1, 2, 3] (by decide) rfl) (by omega) hid fun r3 rest3 h H' => ?_
      replace H := H.put [1, 2, 3] (by decide) rfl rfl H' rfl rfl
      clear H'
      refine ⟨_, rfl, ?_⟩
      have H : Hp hB [] h (([⟨r2, true, T_burinlaw5_Mixed, [.slice sq slen scap]⟩] ++ codL p q r3 (cdL 9000 (dsD (doneL T i) ++ dsIt t)) rest3 ++ refL A r2' (cdL 9000 (dsD (doneL T i))) rest2) ++ [⟨r28, true, T_burinlaw5_Item, [.bool t.id, .int .i64 t.base, .int .i64 t.width, .int .i64 t.v, .bool t.none]⟩]) := H
      repeat first | with_reducible refine ldI_of (by with_unfolding_all first | exact hpA H 9 rfl rfl | exact Hp.cell H 9 rfl rfl | exact hpB H 9 rfl rfl | exact hpC H 9 rfl rfl) ?_ | with_reducible refine ldS_of (by with_unfolding_all first | exact hpA H 9 rfl rfl | exact Hp.cell H 9 rfl rfl | exact hpB H 9 rfl rfl | exact hpC H 9 rfl rfl) ?_ | with_reducible refine ldP_of (by with_unfolding_all first | exact hpA H 9 rfl rfl | exact Hp.cell H 9 rfl rfl | exact hpB H 9 rfl rfl | exact hpC H 9 rfl rfl) ?_ | with_reducible refine ldB_of (by with_unfolding_all first | exact hpA H 9 rfl rfl | exact Hp.cell H 9 rfl rfl | exact hpB H 9 rfl rfl | exact hpC H 9 rfl rfl) ?_ | with_reducible refine ldT_of (by with_unfolding_all first | exact hpA H 9 rfl rfl | exact Hp.cell H 9 rfl rfl | exact hpB H 9 rfl rfl | exact hpC H 9 rfl rfl) ?_
      refine badID_ok (t := t) (fun h' e => ?_) hI
      have H := H.ext e
      refine ⟨_, rfl, ?_⟩
      refine bcase_eq (fun h5 => ?_) fun h5 => ?_
      · repeat first | with_reducible refine ldI_of (by with_unfolding_all first | exact hpA H 9 rfl rfl | exact Hp.cell H 9 rfl rfl | exact hpB H 9 rfl rfl | exact hpC H 9 rfl rfl) ?_ | with_reducible refine ldS_of (by with_unfolding_all first | exact hpA H 9 rfl rfl | exact Hp.cell H 9 rfl rfl | exact hpB H 9 rfl rfl | exact hpC H 9 rfl rfl) ?_ | with_reducible refine ldP_of (by with_unfolding_all first | exact hpA H 9 rfl rfl | exact Hp.cell H 9 rfl rfl | exact hpB H 9 rfl rfl | exact hpC H 9 rfl rfl) ?_ | with_reducible refine ldB_of (by with_unfolding_all first | exact hpA H 9 rfl rfl | exact Hp.cell H 9 rfl rfl | exact hpB H 9 rfl rfl | exact hpC H 9 rfl rfl) ?_ | with_reducible refine ldT_of (by with_unfolding_all first | exact hpA H 9 rfl rfl | exact Hp.cell H 9 rfl rfl | exact hpB H 9 rfl rfl | exact hpC H 9 rfl rfl) ?_
        obtain ⟨g1, g2, g3⟩ := errID_0 h5
        have ew : t.width = ((t.width.toNat : Nat) : Int) := by omega
        have ev : t.v = ((t.v.toNat : Nat) : Int) := by omega
        have hd := dsIt_id hid h5
        rw [ew, ev]
        refine rputid_ok (w := t.width.toNat) (x := t.v.toNat) (H.give [4, 5, 6, 7, 8] (by decide) rfl) hco (by decide) (by decide) (by omega) (by omega) g2 (by omega) fun r4 rest4 h H' => ?_
        replace H := H.put [4, 5, 6, 7, 8] (by decide) rfl rfl H' rfl rfl
        clear H'
        rw [run_id, ← hd] at H
        refine ⟨_, rfl, ?_⟩
        refine bcase_false (by simp [h5]) ?_
        refine bindI_of (((i + 1 : Nat) : Int)) (by exact i64_at _ _ (by omega) (by omega) (by omega)) ?_
        exact next H
      · refine bcase_false (by simp) ?_
        refine bindI_of (((i + 1 : Nat) : Int)) (by exact i64_at _ _ (by omega) (by omega) (by omega)) ?_
        have hd := dsIt_err (t := t) (by rw [errIt_id hid]; exact h5)
        refine next (rest2 := rest2) (r2' := r2') (r1 := r3) (rest1 := rest3) (X := [.bool t.id, .int .i64 t.base, .int .i64 t.width, .int .i64 t.v, .bool t.none]) ?_
        rw [hd, List.append_nil] at H ⊢
        exact H
    · repeat first | with_reducible refine ldI_of (by with_unfolding_all first | exact hpA H 9 rfl rfl | exact Hp.cell H 9 rfl rfl | exact hpB H 9 rfl rfl | exact hpC H 9 rfl rfl) ?_ | with_reducible refine ldS_of (by with_unfolding_all first | exact hpA H 9 rfl rfl | exact Hp.cell H 9 rfl rfl | exact hpB H 9 rfl rfl | exact hpC H 9 rfl rfl) ?_ | with_reducible refine ldP_of (by with_unfolding_all first | exact hpA H 9 rfl rfl | exact Hp.cell H 9 rfl rfl | exact hpB H 9 rfl rfl | exact hpC H 9 rfl rfl) ?_ | with_reducible refine ldB_of (by with_unfolding_all first | exact hpA H 9 rfl rfl | exact Hp.cell H 9 rfl rfl | exact hpB H 9 rfl rfl | exact hpC H 9 rfl rfl) ?_ | with_reducible refine ldT_of (by with_unfolding_all first | exact hpA H 9 rfl rfl | exact Hp.cell H 9 rfl rfl | exact hpB H 9 rfl rfl | exact hpC H 9 rfl rfl) ?_
      refine itWh_ok (t := t) (H.give [1, 2, 3] (by decide) rfl) (by omega) hid hI fun r3 rest3 h H' => ?_
      replace H := H.put [1, 2, 3] (by decide) rfl rfl H' rfl rfl
      clear H'
      refine ⟨_, rfl, ?_⟩
      have H : Hp hB [] h (([⟨r2, true, T_burinlaw5_Mixed, [.slice sq slen scap]⟩] ++ codL p q r3 (cdL 9000 (dsD (doneL T i) ++ dsIt t)) rest3 ++ refL A r2' (cdL 9000 (dsD (doneL T i))) rest2) ++ [⟨r28, true, T_burinlaw5_Item, [.bool t.id, .int .i64 t.base, .int .i64 t.width, .int .i64 t.v, .bool t.none]⟩]) := H
      repeat first | with_reducible refine ldI_of (by with_unfolding_all first | exact hpA H 9 rfl rfl | exact Hp.cell H 9 rfl rfl | exact hpB H 9 rfl rfl | exact hpC H 9 rfl rfl) ?_ | with_reducible refine ldS_of (by with_unfolding_all first | exact hpA H 9 rfl rfl | exact Hp.cell H 9 rfl rfl | exact hpB H 9 rfl rfl | exact hpC H 9 rfl rfl) ?_ | with_reducible refine ldP_of (by with_unfolding_all first | exact hpA H 9 rfl rfl | exact Hp.cell H 9 rfl rfl | exact hpB H 9 rfl rfl | exact hpC H 9 rfl rfl) ?_ | with_reducible refine ldB_of (by with_unfolding_all first | exact hpA H 9 rfl rfl | exact Hp.cell H 9 rfl rfl | exact hpB H 9 rfl rfl | exact hpC H 9 rfl rfl) ?_ | with_reducible refine ldT_of (by with_unfolding_all first | exact hpA H 9 rfl rfl | exact Hp.cell H 9 rfl rfl | exact hpB H 9 rfl rfl | exact hpC H 9 rfl rfl) ?_
      refine badBase_ok (t := t) (fun h' e => ?_)
      have H := H.ext e
      refine ⟨_, rfl, ?_⟩
      obtain ⟨P, hP⟩ : ∃ P, P = (([⟨r2, true, T_burinlaw5_Mixed, [.slice sq slen scap]⟩] ++ codL p q r3 (cdL 9000 (dsD (doneL T i) ++ dsIt t)) rest3 ++ refL A r2' (cdL 9000 (dsD (doneL T i))) rest2) ++ [⟨r28, true, T_burinlaw5_Item, [.bool t.id, .int .i64 t.base, .int .i64 t.width, .int .i64 t.v, .bool t.none]⟩] : List Ent) := ⟨_, rfl⟩
      refine ⟨fun vs h2 => vs = [.int .i64 (errWh t)] ∧ Hp hB [] h2 P, ?_, ?_⟩
      · refine bcase_eq (fun h5 => ?_) fun h5 => ?_
        · have hf : 0 ≤ t.base ∧ t.base + ((512 : Nat) : Int) ≤ ((9000 : Nat) : Int) := by
            refine Decidable.byContradiction fun hh => ?_
            rw [if_pos hh] at h5
            cases h5
          rw [if_neg (not_not_intro hf)]
          refine ldI_of (hpB H 9 rfl rfl) (ldB_of (hpB H 9 rfl rfl) ?_)
          refine rmay5_ok fun br h1 hbr e1 => ?_
          have H := H.ext e1
          refine ⟨_, rfl, ?_⟩
          refine bcase_not (fun h6 => ?_) fun h6 => ?_
          · refine ⟨?_, by rw [hP]; exact H⟩
            rw [errWh_50 hf (fun hh => by rw [hbr.2 hh] at h6; cases h6)]
          · refine ⟨?_, by rw [hP]; exact H⟩
            rw [errWh_ok hf (hbr.1 h6)]
        · have hf : ¬ (0 ≤ t.base ∧ t.base + ((512 : Nat) : Int) ≤ ((9000 : Nat) : Int)) := fun hh => h5 (by rw [if_neg (not_not_intro hh)])
          rw [if_pos hf]
          refine ⟨?_, by rw [hP]; exact H⟩
          rw [errWh_51 hf]
      · clear H
        rintro h u x ⟨hxx, H⟩
        injection hxx with hxx
        injection hxx with _ hxx
        subst hxx
        rw [hP] at H
        refine bcase_eq (fun h5 => ?_) fun h5 => ?_
        · repeat first | with_reducible refine ldI_of (by with_unfolding_all first | exact hpA H 9 rfl rfl | exact Hp.cell H 9 rfl rfl | exact hpB H 9 rfl rfl | exact hpC H 9 rfl rfl) ?_ | with_reducible refine ldS_of (by with_unfolding_all first | exact hpA H 9 rfl rfl | exact Hp.cell H 9 rfl rfl | exact hpB H 9 rfl rfl | exact hpC H 9 rfl rfl) ?_ | with_reducible refine ldP_of (by with_unfolding_all first | exact hpA H 9 rfl rfl | exact Hp.cell H 9 rfl rfl | exact hpB H 9 rfl rfl | exact hpC H 9 rfl rfl) ?_ | with_reducible refine ldB_of (by with_unfolding_all first | exact hpA H 9 rfl rfl | exact Hp.cell H 9 rfl rfl | exact hpB H 9 rfl rfl | exact hpC H 9 rfl rfl) ?_ | with_reducible refine ldT_of (by with_unfolding_all first | exact hpA H 9 rfl rfl | exact Hp.cell H 9 rfl rfl | exact hpB H 9 rfl rfl | exact hpC H 9 rfl rfl) ?_
          obtain ⟨g1, g2⟩ := errWh_0 h5
          have hd := dsIt_wh hid h5
          refine rput5_ok (H.give [4, 5, 6, 7, 8] (by decide) rfl) hco (by decide) (by decide) ⟨by omega, by omega⟩ g2 (by omega) fun r4 rest4 h H' => ?_
          replace H := H.put [4, 5, 6, 7, 8] (by decide) rfl rfl H' rfl rfl
          clear H'
          rw [run_wh, ← hd] at H
          refine ⟨_, rfl, ?_⟩
          refine bcase_false (by simp [h5]) ?_
          refine bindI_of (((i + 1 : Nat) : Int)) (by exact i64_at _ _ (by omega) (by omega) (by omega)) ?_
          exact next H
        · refine bcase_false (by simp) ?_
          refine bindI_of (((i + 1 : Nat) : Int)) (by exact i64_at _ _ (by omega) (by omega) (by omega)) ?_
          have hd := dsIt_err (t := t) (by rw [errIt_wh hid]; exact h5)
          refine next (rest2 := rest2) (r2' := r2') (r1 := r3) (rest1 := rest3) (X := [.bool t.id, .int .i64 t.base, .int .i64 t.width, .int .i64 t.v, .bool t.none]) ?_
          rw [hd, List.append_nil] at H ⊢
          exact H
  · clear H
    rintro h u ⟨i, r1, rest1, r2', rest2, hi, H⟩
    have hdl := dsD_len (doneL T i)
    have hdn := doneL_len T i
    have hco := cdL_ok (m := 9000) (L := dsD (doneL T i)) (by omega)
    obtain ⟨S, hS⟩ : ∃ S, S = cdL 9000 (dsD (doneL T i)) := ⟨_, rfl⟩
    rw [← hS] at H hco
    refine Go.Ar.flush_ok (H.give [1, 2, 3] (by decide) rfl) hco.wf hco.done fun r3' rest3 o1 orest1 h' H' => ?_
    have H := Go.Bm.Hp.backD H [1, 2, 3] (by decide) rfl rfl H' rfl rfl rfl
    clear H'
    refine ⟨_, _, _, _, rfl, ?_⟩
    have H : Hp hB [] h' ([⟨r2, true, T_burinlaw5_Mixed, [.slice sq slen scap]⟩] ++ codL p q r3' (flushM S) rest3 ++ refL A r2' S rest2 ++ [⟨o1, true, T_uint8, u8s (bytesM (flushM S)) ++ orest1⟩]) := H
    refine Go.Ar.rflush_ok (H.give [4, 5, 6, 7, 8] (by decide) rfl) hco.wf hco.done fun r4' rest4 o2 orest2 h' H' => ?_
    have H := Go.Bm.Hp.backD H [4, 5, 6, 7, 8] (by decide) rfl rfl H' rfl rfl rfl
    clear H'
    refine ⟨_, _, _, _, rfl, ?_⟩
    have H : Hp hB [] h' ([⟨r2, true, T_burinlaw5_Mixed, [.slice sq slen scap]⟩] ++ codL p q r3' (flushM S) rest3 ++ refL A r4' (flushM S) rest4 ++ [⟨o1, true, T_uint8, u8s (bytesM (flushM S)) ++ orest1⟩] ++ [⟨o2, true, T_uint8, u8s (bytesM (flushM S)) ++ orest2⟩]) := H
    have hfl := Go.Ar.fl_len hco (by omega)
    have hst := (Go.Ar.flushM_keep S).1
    refine bcase_true (by rfl) ?_
    refine Go.Ar.eq_ok (xs := bytesM (flushM S)) (ys := bytesM (flushM S)) (Go.Ar.row_rdO H 9 rfl) (Go.Ar.row_rdO H 10 rfl) hfl ?_
    refine ⟨_, rfl, ?_⟩
    refine bcase_true (by simp) ?_
    refine ptr_of (a := ⟨p, 0, none⟩) (ptr_of (a := ⟨A.p, 0, none⟩) ?_)
    have hl1 : 1 ≤ (flushM S).st.length := by rw [hst, hco.len]; omega
    have hl2 : (flushM S).st.length ≤ 131072 := by rw [hst, hco.len]; omega
    refine Go.Ar.states_ok (st := (flushM S).st) H 1 2 rfl rfl hl1 hl2 fun o3 or3 h H => ?_
    refine ⟨_, _, _, rfl, ?_⟩
    refine Go.Ar.rstates_ok (st := (flushM S).st) (H.give [4, 5, 6, 7, 8] (by decide) rfl) (by rw [hst]; exact hco.wf.st) hl1 hl2 fun o4 or4 h' H' => ?_
    have H := Go.Bm.Hp.backD H [4, 5, 6, 7, 8] (by decide) rfl rfl H' rfl rfl rfl
    clear H'
    refine ⟨_, _, _, rfl, ?_⟩
    have H : Hp hB [] h' ([⟨r2, true, T_burinlaw5_Mixed, [.slice sq slen scap]⟩] ++ codL p q r3' (flushM S) rest3 ++ refL A r4' (flushM S) rest4 ++ [⟨o1, true, T_uint8, u8s (bytesM (flushM S)) ++ orest1⟩] ++ [⟨o2, true, T_uint8, u8s (bytesM (flushM S)) ++ orest2⟩] ++ [⟨o3, true, T_uint8, u8s (flushM S).st ++ or3⟩] ++ [⟨o4, true, T_uint8, u8s (flushM S).st ++ or4⟩]) := H
    refine Go.Ar.eq_ok (xs := (flushM S).st) (ys := (flushM S).st) (Go.Ar.row_rdO H 11 rfl) (Go.Ar.row_rdO H 12 rfl) (by omega) ?_
    refine ⟨_, rfl, ?_⟩
    refine bcase_true (by simp) ?_
    exact wakes5_ok fun h' e => ⟨_, rfl, hk _ (H.hext.trans e)⟩

set_option maxRecDepth 100000 in
/-- Items that come in. -/
theorem wd_items {h : Heap} {cs : List Value} (H : WDx TP h T_s_burinlaw5_Item cs) : ∃ q len cap T, cs = [.slice q len cap] ∧ ItemsW h q len T := by
  obtain ⟨q, len, cap, rfl, _, _, _, h4⟩ := wd_slice Go.Proofs.Try.underlying39 H
  have k : TP.cellsOf T_burinlaw5_Item = 5 := by kernel_rfl
  rw [k] at h4
  have key : ∀ i, ∃ t : ItW, i < len → ∃ a, q = some a ∧ ItW.Cells h (a.add (i * 5)) t ∧ t.I64 := fun i => by
    rcases Nat.lt_or_ge i len with hi | hi
    · obtain ⟨a, cs', ha, hr, hd⟩ := h4 i hi
      obtain ⟨hl, hf⟩ := wd_struct Go.Proofs.Try.underlying48 hd
      rw [k] at hl
      obtain ⟨v0, v1, v2, v3, v4, rfl⟩ : ∃ a b c d e, cs' = [a, b, c, d, e] := by
        match cs', hl with
        | [a, b, c, d, e], _ => exact ⟨a, b, c, d, e, rfl⟩
      have kB : TP.cellsOf T_bool = 1 := by kernel_rfl
      have kI : TP.cellsOf T_int64 = 1 := by kernel_rfl
      have kW : TP.cellsOf T_api_Whole = 2 := by kernel_rfl
      obtain ⟨x0, e0⟩ := wd_bool Go.Proofs.Try.underlying4 (one_of kB (hf 0 _ rfl) (v := v0) rfl)
      obtain ⟨x1, e1, b1⟩ := wd_int Go.Proofs.Try.underlying3 (one_of k_int (hf 1 _ rfl) (v := v1) rfl)
      obtain ⟨x2, e2, b2⟩ := wd_int Go.Proofs.Try.underlying3 (one_of k_int (hf 2 _ rfl) (v := v2) rfl)
      have f3 : WDx TP h T_api_Whole (([v0, v1, v2, v3, v4].drop 3).take (TP.cellsOf T_api_Whole)) := hf 3 _ rfl
      rw [kW] at f3
      obtain ⟨_, hf3⟩ := wd_struct Go.Proofs.Try.underlying38 f3
      obtain ⟨x3, e3, b3⟩ := wd_int Go.Proofs.Try.underlying2 (one_of kI (hf3 0 _ rfl) (v := v3) rfl)
      obtain ⟨x4, e4⟩ := wd_bool Go.Proofs.Try.underlying4 (one_of kB (hf3 1 _ rfl) (v := v4) rfl)
      simp only [List.cons.injEq, and_true] at e0 e1 e2 e3 e4
      subst e0 e1 e2 e3 e4
      have m1 : IntKind.i64.min = -9223372036854775808 := by decide
      have m2 : IntKind.i64.max = 9223372036854775807 := by decide
      have c := fun j v hj => hr.2 j v hj
      exact ⟨⟨x0, x1, x2, x3, x4⟩, fun _ => ⟨a, ha, ⟨c 0 _ rfl, c 1 _ rfl, c 2 _ rfl, c 3 _ rfl, c 4 _ rfl⟩, ⟨⟨by show _ ≤ x3; omega, by show x3 < _; omega⟩, ⟨by show _ ≤ x1; omega, by show x1 < _; omega⟩, ⟨by show _ ≤ x2; omega, by show x2 < _; omega⟩⟩⟩⟩
    · exact ⟨⟨false, 0, 0, 0, false⟩, fun h => absurd h (by omega)⟩
  obtain ⟨T, hT⟩ := Classical.skolem.1 key
  exact ⟨q, len, cap, T, rfl, hT⟩
theorem mixed_of {h : Heap} {cs : Array Value} (hsz : cs.size = TP.cellsOf T_burinlaw5_Mixed) (hw : WDx TP h T_burinlaw5_Mixed cs.toList) : ∃ q len cap T, cs = #[.slice q len cap] ∧ ItemsW h q len T := by
  obtain ⟨hl, hf⟩ := wd_struct Go.Proofs.Try.underlying41 hw
  have k : TP.cellsOf T_burinlaw5_Mixed = 1 := by kernel_rfl
  rw [k] at hl
  obtain ⟨v0, hcs⟩ : ∃ a, cs.toList = [a] := by
    match cs.toList, hl with
    | [a], _ => exact ⟨a, rfl⟩
  rw [hcs] at hf
  have k1 : TP.cellsOf T_s_burinlaw5_Item = 1 := by kernel_rfl
  obtain ⟨q, len, cap, T, e0, hT⟩ := wd_items (one_of k1 (hf 0 _ rfl) (v := v0) rfl)
  simp only [List.cons.injEq, and_true] at e0
  subst e0
  refine ⟨q, len, cap, T, ?_, hT⟩
  apply Array.toList_inj.1
  rw [hcs]
theorem wMixed_arg {h : Heap} {cs : Array Value} (hsz : cs.size = TP.cellsOf T_burinlaw5_Mixed) (hw : WDx TP h T_burinlaw5_Mixed cs.toList) {K : Value → Heap → Prop} {Kp : List PanicEntry → Heap → Prop} (hk : ∀ h', hext h h' → K (.bool true) h') :
    CP F_burinlaw5_WholeMixed #[.agg cs] h K Kp := by
  obtain ⟨q, len, cap, T, rfl, hT⟩ := mixed_of hsz hw
  exact wMixed_law hT hk
end Go.Bm

/- Written by gen.py: the conditions of the functions of law5WholeBack. -/
set_option linter.unusedVariables false
set_option linter.unusedSimpArgs false
namespace Go.Den.Yteakipgcanafoaa
open Go Go.Den

/- burin/burinlaw5.WholeBack -/
set_option maxRecDepth 100000 in
def burinlaw5_WholeBack (C : CallP) (a0_1 : Option Addr) (a0_1n : Nat) (a0_1c : Nat) (h : Heap) (K : Value → Heap → Prop) (Kp : List PanicEntry → Heap → Prop) : Prop :=
newC h [.slice a0_1 a0_1n a0_1c] T_burinlaw5_Mixed fun r_2 h_3 =>
C F_arith_New #[.int .i64 9000] h_3 (fun v_4 h_5 =>
∃ (r_6 : Option Addr), ∃ (r_7 : Int), v_4 = .tuple #[.pointer r_6, .int .i64 r_7] ∧ (
bcase (r_7 != (0 : Int)) (
K (.bool false) h_5) <|
bcase r_6.isNone (
K (.bool false) h_5) <|
∃ K_8 : List Value → Heap → Prop, (
∃ J_11 : Nat → List Value → Heap → Prop, (∃ n_13, J_11 n_13 [.slice none 0 0, .int .i64 0] h_5) ∧ ∀ (n_13 : Nat) (h_14 : Heap) (u_15 : Nat → Value) (x_16 : Option Addr) (x_16n : Nat) (x_16c : Nat) (x_17 : Int), J_11 n_13 [.slice x_16 x_16n x_16c, .int .i64 x_17] h_14 → (
ldS h_14 ((⟨r_2, 0, none⟩ : Addr).add 0) fun x_18 x_18n x_18c =>
bcase (decide (x_17 < (x_18n : Int))) (
bcase (decide (x_17 < (200 : Int))) (
ldS h_14 ((⟨r_2, 0, none⟩ : Addr).add 0) fun x_19 x_19n x_19c =>
needs (0 ≤ x_17 ∧ x_17 < (x_19n : Int)) <|
ptr x_19 fun a_20 =>
ldB h_14 ((a_20.add (x_17.toNat * 5)).add 0) fun x_21 =>
ldI h_14 ((a_20.add (x_17.toNat * 5)).add 1) .i64 fun x_22 =>
ldI h_14 ((a_20.add (x_17.toNat * 5)).add 2) .i64 fun x_23 =>
ldI h_14 ((a_20.add (x_17.toNat * 5)).add 3) .i64 fun x_24 =>
ldB h_14 ((a_20.add (x_17.toNat * 5)).add 4) fun x_25 =>
newC h_14 [.bool false, .int .i64 0, .int .i64 0, .int .i64 0, .bool false] T_burinlaw5_Item fun r_26 h_27 =>
stV h_27 ((⟨r_26, 0, none⟩ : Addr).add 0) (.bool x_21) fun h_28 =>
stV h_28 ((⟨r_26, 0, none⟩ : Addr).add 1) (.int .i64 x_22) fun h_29 =>
stV h_29 ((⟨r_26, 0, none⟩ : Addr).add 2) (.int .i64 x_23) fun h_30 =>
stV h_30 ((⟨r_26, 0, none⟩ : Addr).add 3) (.int .i64 x_24) fun h_31 =>
stV h_31 ((⟨r_26, 0, none⟩ : Addr).add 4) (.bool x_25) fun h_32 =>
ldB h_32 ((⟨r_26, 0, none⟩ : Addr).add 0) fun x_33 =>
bcase x_33 (
ldI h_32 ((⟨r_26, 0, none⟩ : Addr).add 1) .i64 fun x_34 =>
ldI h_32 ((⟨r_26, 0, none⟩ : Addr).add 2) .i64 fun x_35 =>
ldI h_32 (((⟨r_26, 0, none⟩ : Addr).add 3).add 0) .i64 fun x_36 =>
C F_whole_PutID #[.pointer r_6, .int .i64 x_34, .int .i64 x_35, .int .i64 x_36] h_32 (fun v_37 h_38 =>
∃ (r_39 : Int), v_37 = .int .i64 r_39 ∧ (
bcase (r_39 == (0 : Int)) (
ldB h_38 ((⟨r_26, 0, none⟩ : Addr).add 0) fun x_40 =>
ldI h_38 ((⟨r_26, 0, none⟩ : Addr).add 1) .i64 fun x_41 =>
ldI h_38 ((⟨r_26, 0, none⟩ : Addr).add 2) .i64 fun x_42 =>
ldI h_38 ((⟨r_26, 0, none⟩ : Addr).add 3) .i64 fun x_43 =>
ldB h_38 ((⟨r_26, 0, none⟩ : Addr).add 4) fun x_44 =>
newC h_38 [.bool x_40, .int .i64 x_41, .int .i64 x_42, .int .i64 x_43, .bool x_44] T_burinlaw5_Item fun r_45 h_46 =>
appC h_46 T_burinlaw5_Item 5 40 [.bool false, .int .i64 0, .int .i64 0, .int .i64 0, .bool false] x_16 (x_16n) (x_16c) (some ⟨r_45, 0, none⟩) (1) fun q_47 q_47n q_47c h_48 =>
bindI (IntKind.i64.wrap (x_17 + (1 : Int))) fun z_49 =>
∃ m_12, m_12 < n_13 ∧ J_11 m_12 [.slice q_47 q_47n q_47c, .int .i64 z_49] h_48) <|
bindI (IntKind.i64.wrap (x_17 + (1 : Int))) fun z_50 =>
∃ m_12, m_12 < n_13 ∧ J_11 m_12 [.slice x_16 x_16n x_16c, .int .i64 z_50] h_38)) (Kp)) <|
ldI h_32 ((⟨r_26, 0, none⟩ : Addr).add 1) .i64 fun x_51 =>
ldI h_32 (((⟨r_26, 0, none⟩ : Addr).add 3).add 0) .i64 fun x_52 =>
ldB h_32 (((⟨r_26, 0, none⟩ : Addr).add 3).add 1) fun x_53 =>
C F_whole_Put #[.pointer r_6, .int .i64 x_51, .agg #[.int .i64 x_52, .bool x_53]] h_32 (fun v_54 h_55 =>
∃ (r_56 : Int), v_54 = .int .i64 r_56 ∧ (
bcase (r_56 == (0 : Int)) (
ldB h_55 ((⟨r_26, 0, none⟩ : Addr).add 0) fun x_57 =>
ldI h_55 ((⟨r_26, 0, none⟩ : Addr).add 1) .i64 fun x_58 =>
ldI h_55 ((⟨r_26, 0, none⟩ : Addr).add 2) .i64 fun x_59 =>
ldI h_55 ((⟨r_26, 0, none⟩ : Addr).add 3) .i64 fun x_60 =>
ldB h_55 ((⟨r_26, 0, none⟩ : Addr).add 4) fun x_61 =>
newC h_55 [.bool x_57, .int .i64 x_58, .int .i64 x_59, .int .i64 x_60, .bool x_61] T_burinlaw5_Item fun r_62 h_63 =>
appC h_63 T_burinlaw5_Item 5 40 [.bool false, .int .i64 0, .int .i64 0, .int .i64 0, .bool false] x_16 (x_16n) (x_16c) (some ⟨r_62, 0, none⟩) (1) fun q_64 q_64n q_64c h_65 =>
bindI (IntKind.i64.wrap (x_17 + (1 : Int))) fun z_66 =>
∃ m_12, m_12 < n_13 ∧ J_11 m_12 [.slice q_64 q_64n q_64c, .int .i64 z_66] h_65) <|
bindI (IntKind.i64.wrap (x_17 + (1 : Int))) fun z_67 =>
∃ m_12, m_12 < n_13 ∧ J_11 m_12 [.slice x_16 x_16n x_16c, .int .i64 z_67] h_55)) (Kp)) <|
K_8 [.slice x_16 x_16n x_16c] h_14) <|
K_8 [.slice x_16 x_16n x_16c] h_14)) ∧ ∀ (h_9 : Heap) (u_10 : Nat → Value) (x_68 : Option Addr) (x_68n : Nat) (x_68c : Nat), K_8 [.slice x_68 x_68n x_68c] h_9 → (
C F_arith_Coder_Flush #[.pointer r_6] h_9 (fun v_69 h_70 =>
∃ (r_71 : Option Addr) (r_71n : Nat) (r_71c : Nat), ∃ (r_72 : Int), v_69 = .tuple #[.slice r_71 r_71n r_71c, .int .i64 r_72] ∧ (
C F_arith_NewDecoder #[.slice r_71 r_71n r_71c, .int .i64 9000] h_70 (fun v_73 h_74 =>
∃ (r_75 : Option Addr), ∃ (r_76 : Int), v_73 = .tuple #[.pointer r_75, .int .i64 r_76] ∧ (
bcase (r_72 != (0 : Int)) (
K (.bool false) h_74) <|
bcase (r_76 != (0 : Int)) (
K (.bool false) h_74) <|
bcase r_75.isNone (
K (.bool false) h_74) <|
∃ J_77 : Nat → List Value → Heap → Prop, (∃ n_79, J_77 n_79 [.int .i64 0] h_74) ∧ ∀ (n_79 : Nat) (h_80 : Heap) (u_81 : Nat → Value) (x_82 : Int), J_77 n_79 [.int .i64 x_82] h_80 → (
bcase (decide (x_82 < (x_68n : Int))) (
needs (0 ≤ x_82 ∧ x_82 < (x_68n : Int)) <|
ptr x_68 fun a_83 =>
ldB h_80 ((a_83.add (x_82.toNat * 5)).add 0) fun x_84 =>
ldI h_80 ((a_83.add (x_82.toNat * 5)).add 1) .i64 fun x_85 =>
ldI h_80 ((a_83.add (x_82.toNat * 5)).add 2) .i64 fun x_86 =>
ldI h_80 ((a_83.add (x_82.toNat * 5)).add 3) .i64 fun x_87 =>
ldB h_80 ((a_83.add (x_82.toNat * 5)).add 4) fun x_88 =>
newC h_80 [.bool false, .int .i64 0, .int .i64 0, .int .i64 0, .bool false] T_burinlaw5_Item fun r_89 h_90 =>
stV h_90 ((⟨r_89, 0, none⟩ : Addr).add 0) (.bool x_84) fun h_91 =>
stV h_91 ((⟨r_89, 0, none⟩ : Addr).add 1) (.int .i64 x_85) fun h_92 =>
stV h_92 ((⟨r_89, 0, none⟩ : Addr).add 2) (.int .i64 x_86) fun h_93 =>
stV h_93 ((⟨r_89, 0, none⟩ : Addr).add 3) (.int .i64 x_87) fun h_94 =>
stV h_94 ((⟨r_89, 0, none⟩ : Addr).add 4) (.bool x_88) fun h_95 =>
ldB h_95 ((⟨r_89, 0, none⟩ : Addr).add 0) fun x_96 =>
bcase x_96 (
ldI h_95 ((⟨r_89, 0, none⟩ : Addr).add 1) .i64 fun x_97 =>
ldI h_95 ((⟨r_89, 0, none⟩ : Addr).add 2) .i64 fun x_98 =>
C F_whole_GetID #[.pointer r_75, .int .i64 x_97, .int .i64 x_98] h_95 (fun v_99 h_100 =>
∃ (r_101 : Int), ∃ (r_102 : Int), v_99 = .tuple #[.int .i64 r_101, .int .i64 r_102] ∧ (
bcase (r_102 != (0 : Int)) (
K (.bool false) h_100) <|
ldI h_100 (((⟨r_89, 0, none⟩ : Addr).add 3).add 0) .i64 fun x_103 =>
bcase (r_101 != x_103) (
K (.bool false) h_100) <|
bindI (IntKind.i64.wrap (x_82 + (1 : Int))) fun z_104 =>
∃ m_78, m_78 < n_79 ∧ J_77 m_78 [.int .i64 z_104] h_100)) (Kp)) <|
ldI h_95 ((⟨r_89, 0, none⟩ : Addr).add 1) .i64 fun x_105 =>
C F_whole_Get #[.pointer r_75, .int .i64 x_105] h_95 (fun v_106 h_107 =>
∃ (r_108 : Int) (r_109 : Bool), ∃ (r_110 : Int), v_106 = .tuple #[.agg #[.int .i64 r_108, .bool r_109], .int .i64 r_110] ∧ (
newC h_107 [.int .i64 0, .bool false] T_api_Whole fun r_111 h_112 =>
stV h_112 ((⟨r_111, 0, none⟩ : Addr).add 0) (.int .i64 r_108) fun h_113 =>
stV h_113 ((⟨r_111, 0, none⟩ : Addr).add 1) (.bool r_109) fun h_114 =>
bcase (r_110 != (0 : Int)) (
K (.bool false) h_114) <|
ldB h_114 ((⟨r_111, 0, none⟩ : Addr).add 1) fun x_115 =>
ldB h_114 (((⟨r_89, 0, none⟩ : Addr).add 3).add 1) fun x_116 =>
bcase (!(x_115 == x_116)) (
K (.bool false) h_114) <|
ldB h_114 ((⟨r_111, 0, none⟩ : Addr).add 1) fun x_117 =>
bcase (!x_117) (
ldI h_114 ((⟨r_111, 0, none⟩ : Addr).add 0) .i64 fun x_118 =>
ldI h_114 (((⟨r_89, 0, none⟩ : Addr).add 3).add 0) .i64 fun x_119 =>
bcase (x_118 != x_119) (
K (.bool false) h_114) <|
ldB h_114 ((⟨r_111, 0, none⟩ : Addr).add 1) fun x_120 =>
bcase x_120 (
ldI h_114 ((⟨r_111, 0, none⟩ : Addr).add 0) .i64 fun x_121 =>
bcase (x_121 != (0 : Int)) (
K (.bool false) h_114) <|
bindI (IntKind.i64.wrap (x_82 + (1 : Int))) fun z_122 =>
∃ m_78, m_78 < n_79 ∧ J_77 m_78 [.int .i64 z_122] h_114) <|
bindI (IntKind.i64.wrap (x_82 + (1 : Int))) fun z_123 =>
∃ m_78, m_78 < n_79 ∧ J_77 m_78 [.int .i64 z_123] h_114) <|
ldB h_114 ((⟨r_111, 0, none⟩ : Addr).add 1) fun x_124 =>
bcase x_124 (
ldI h_114 ((⟨r_111, 0, none⟩ : Addr).add 0) .i64 fun x_125 =>
bcase (x_125 != (0 : Int)) (
K (.bool false) h_114) <|
bindI (IntKind.i64.wrap (x_82 + (1 : Int))) fun z_126 =>
∃ m_78, m_78 < n_79 ∧ J_77 m_78 [.int .i64 z_126] h_114) <|
bindI (IntKind.i64.wrap (x_82 + (1 : Int))) fun z_127 =>
∃ m_78, m_78 < n_79 ∧ J_77 m_78 [.int .i64 z_127] h_114)) (Kp)) <|
ptr r_6 fun a_128 =>
ptr r_75 fun a_129 =>
C F_arith_table_States #[.pointer (some (a_128.add 0))] h_80 (fun v_130 h_131 =>
∃ (r_132 : Option Addr) (r_132n : Nat) (r_132c : Nat), v_130 = .slice r_132 r_132n r_132c ∧ (
C F_arith_table_States #[.pointer (some (a_129.add 0))] h_131 (fun v_133 h_134 =>
∃ (r_135 : Option Addr) (r_135n : Nat) (r_135c : Nat), v_133 = .slice r_135 r_135n r_135c ∧ (
C F_burinref0_Eq #[.slice r_132 r_132n r_132c, .slice r_135 r_135n r_135c] h_134 (fun v_136 h_137 =>
∃ (r_138 : Bool), v_136 = .bool r_138 ∧ (
bcase r_138 (
C F_burinlaw5_wakes #[] h_137 (fun v_139 h_140 =>
∃ (r_141 : Bool), v_139 = .bool r_141 ∧ (
K (.bool r_141) h_140)) (Kp)) <|
K (.bool false) h_137)) (Kp))) (Kp))) (Kp)))) (Kp))) (Kp)))) (Kp)

end Go.Den.Yteakipgcanafoaa

/- Written by gen.py: each condition of the functions of law5WholeBack is the one of its body; so it is enough for its call. -/
set_option linter.unusedVariables false
set_option linter.unusedSimpArgs false
namespace Go.Den.Yteakipgcanafoaa
open Go Go.Den

noncomputable def hints_burinlaw5_WholeBack : Hints := Hints.mk (fun i => bif Nat.beq i 30 then some ([3, 7, 8, 10], .take 0 <| .take 1 <| .take 2 <| .take 4 <| .take 5 <| .take 6 <| .bar 3 [7, 8, 10] <| .bar 7 [8, 10] <| .bar 8 [10] <| .take 9 <| .bar 10 [] <| .take 11 <| .take 12 <| .done) else (none))
  (fun i => bif Nat.beq i 6 then some ([(5, .slc), (6, .int .i64)], 147573952589407977952) else (bif Nat.beq i 20 then some ([(12, .int .i64)], 91343852333181432387575559539857016194133651460) else (none)))
  (fun i => bif Nat.beq i 15 then some ([(5, .slc)], 147573952589407977952) else (none)) []
set_option maxRecDepth 100000 in
theorem eq_burinlaw5_WholeBack (C : CallP) (a0_1 : Option Addr) (a0_1n : Nat) (a0_1c : Nat) (h : Heap) (K : Value → Heap → Prop) (Kp : List PanicEntry → Heap → Prop) :
    fnD Go.Proofs.Try.prog C hints_burinlaw5_WholeBack Go.Proofs.Try.f8 [.agg #[.slice a0_1 a0_1n a0_1c]] h K Kp = burinlaw5_WholeBack C a0_1 a0_1n a0_1c h K Kp := by kernel_rfl

theorem call_burinlaw5_WholeBack {a0_1 : Option Addr} {a0_1n : Nat} {a0_1c : Nat} {h : Heap} {K : Value → Heap → Prop} {Kp : List PanicEntry → Heap → Prop} (H : burinlaw5_WholeBack (CallsHP Go.Proofs.Try.prog) a0_1 a0_1n a0_1c h K Kp) : CallsHP Go.Proofs.Try.prog F_burinlaw5_WholeBack #[.agg #[.slice a0_1 a0_1n a0_1c]] h K Kp :=
  callsHP_of hints_burinlaw5_WholeBack (by kernel_rfl) Go.Proofs.Try.func8 (by kernel_rfl) (by rw [eq_burinlaw5_WholeBack]; exact H)

end Go.Den.Yteakipgcanafoaa

/- WhY: the law WholeBack, said of memory. -/
set_option linter.unusedVariables false
set_option linter.unusedSimpArgs false
namespace Go.Bm
open Go Go.Den Go.Den.Yteakipgcanafoaa
open Go.Ar (Cod CodOk Dec newC newC_ok newD newD_ok codL decL decN u8s flushM bytesM)

/-- A row of items. -/
def itsC (l : List ItW) : List Value := l.flatMap ItW.cs
theorem itsC_len : ∀ l : List ItW, (itsC l).length = l.length * 5
  | [] => rfl
  | x :: l => by
    have h1 := itsC_len l
    show (x.cs ++ itsC l).length = _
    rw [List.length_append, List.length_cons, h1]
    show 5 + _ = _
    omega
theorem itsC_get {l : List ItW} {i : Nat} {x : ItW} (h : l[i]? = some x) : ∀ k v, x.cs[k]? = some v → (itsC l)[i * 5 + k]? = some v := by
  induction l generalizing i with
  | nil => rw [List.getElem?_nil] at h; cases h
  | cons y l ih =>
    intro k v hv
    have hk : k < 5 := (List.getElem?_eq_some_iff.1 hv).1
    show (y.cs ++ itsC l)[i * 5 + k]? = _
    cases i with
    | zero =>
      rw [List.getElem?_cons_zero] at h
      injection h with h
      subst h
      rw [Nat.zero_mul, Nat.zero_add, List.getElem?_append_left hk]
      exact hv
    | succ i =>
      rw [List.getElem?_cons_succ] at h
      have h5 : y.cs.length = 5 := rfl
      rw [List.getElem?_append_right (by omega), h5, show (i + 1) * 5 + k - 5 = i * 5 + k by omega]
      exact ih h k v hv
theorem its_at {h : Heap} {a : Option Addr} {l : List ItW} (hr : rdO h a (l.length * 5) (itsC l)) {i : Nat} {x : ItW} (hi : l[i]? = some x) : ∃ ad, a = some ad ∧ ItW.Cells h (ad.add (((i : Nat) : Int).toNat * 5)) x := by
  have g := itsC_get hi
  obtain ⟨ad, rfl, h3⟩ := rdO_cell hr (g 0 _ rfl)
  have key : ∀ k v, x.cs[k]? = some v → hcell h ((ad.add (((i : Nat) : Int).toNat * 5)).add k) = some v := fun k v hv => by
    obtain ⟨ad', he, h4⟩ := rdO_cell hr (g k v hv)
    injection he with he
    subst he
    rw [Int.toNat_natCast, Go.Ar.add_add']
    exact h4
  exact ⟨ad, rfl, ⟨key 0 _ rfl, key 1 _ rfl, key 2 _ rfl, key 3 _ rfl, key 4 _ rfl⟩⟩
theorem dsD_at {l : List ItW} {i : Nat} {x : ItW} (h : l[i]? = some x) : dsD l = dsD (l.take i) ++ (dsIt x ++ dsD (l.drop (i + 1))) ∧ dsD (l.take (i + 1)) = dsD (l.take i) ++ dsIt x := by
  constructor
  · have e : l = l.take i ++ (x :: l.drop (i + 1)) := by
      obtain ⟨hi2, hx2⟩ := List.getElem?_eq_some_iff.1 h
      rw [← hx2, ← List.drop_eq_getElem_cons hi2, List.take_append_drop]
    have e2 : dsD l = dsD (l.take i ++ (x :: l.drop (i + 1))) := congrArg dsD e
    rw [e2]
    unfold dsD
    rw [List.flatMap_append]
    rfl
  · rw [take_snoc h]
    unfold dsD
    rw [List.flatMap_append]
    congr 1
    show dsIt x ++ [] = _
    rw [List.append_nil]
theorem doneL_i64 {T : Nat → ItW} : ∀ {i : Nat}, (∀ j, j < i → (T j).I64) → ∀ t ∈ doneL T i, t.I64
  | 0, _ => fun t ht => by cases ht
  | i + 1, h => fun t ht => by
    have ht : t ∈ (if errIt (T i) = 0 then doneL T i ++ [T i] else doneL T i) := ht
    split at ht
    · rcases List.mem_append.1 ht with ht | ht
      · exact doneL_i64 (fun j hj => h j (by omega)) t ht
      · rw [List.mem_singleton.1 ht]; exact h i (by omega)
    · exact doneL_i64 (fun j hj => h j (by omega)) t ht
theorem decN_okW {k : Nat → Nat} {bytes : List Nat} {m : Nat} (hb : ∀ x ∈ bytes, x < 256) : ∀ i, i ≤ 16777216 → Go.Ar.DecOk bytes m i (decN k bytes m i)
  | 0, _ => newD_ok hb m
  | i + 1, hi => Go.Ar.getD_ok (decN_okW hb i (by omega)) _ (by omega)

set_option maxRecDepth 100000 in
set_option maxHeartbeats 8000000 in
theorem wBack_law {hB : Heap} {sq : Option Addr} {slen scap : Nat} {T : Nat → ItW} (hT : ItemsW hB sq slen T) {K : Value → Heap → Prop} {Kp : List PanicEntry → Heap → Prop} (hk : ∀ h', hext hB h' → K (.bool true) h') :
    CP F_burinlaw5_WholeBack #[.agg #[.slice sq slen scap]] hB K Kp := by
  refine call_burinlaw5_WholeBack ?_
  unfold burinlaw5_WholeBack
  have fr : ∀ {h : Heap} {L : List Ent} {c : Addr} {v : Value}, Hp hB [] h L → hcell hB c = some v → hcell h c = some v := fun H hc => H.fr.cell (by simp) hc
  have H := Hp.nil hB []
  refine newC_hp H fun r2 h H => ?_
  refine Go.Ar.new_ok (n := 9000) (by decide) (by decide) fun p q r1 h H' => ?_
  replace H := H.join H' rfl
  clear H'
  refine ⟨_, _, rfl, ?_⟩
  refine bcase_false (by rfl) ?_
  refine bcase_false (by rfl) ?_
  have H : Hp hB [] h (([⟨r2, true, T_burinlaw5_Mixed, [.slice sq slen scap]⟩] ++ codL p q r1 (cdL 9000 (dsD (doneL T 0))) []) ++ []) := H
  refine ⟨fun vs h' => ∃ (i : Nat) (r1 : Nat) (rest1 : List Value) (D : List Ent) (dq : Option Addr) (dc : Nat), i ≤ 200 ∧ i ≤ slen ∧ vs = [.slice dq (doneL T i).length dc] ∧ Slot T_burinlaw5_Item 5 D dq (doneL T i).length dc (itsC (doneL T i)) ∧ Hp hB [] h' (([⟨r2, true, T_burinlaw5_Mixed, [.slice sq slen scap]⟩] ++ codL p q r1 (cdL 9000 (dsD (doneL T i))) rest1) ++ D), ?_, ?_⟩
  · refine ⟨fun n vs h' => ∃ (i : Nat) (r1 : Nat) (rest1 : List Value) (D : List Ent) (dq : Option Addr) (dc : Nat), i + n = 200 ∧ i ≤ slen ∧ vs = [.slice dq (doneL T i).length dc, .int .i64 (i : Nat)] ∧ Slot T_burinlaw5_Item 5 D dq (doneL T i).length dc (itsC (doneL T i)) ∧ Hp hB [] h' (([⟨r2, true, T_burinlaw5_Mixed, [.slice sq slen scap]⟩] ++ codL p q r1 (cdL 9000 (dsD (doneL T i))) rest1) ++ D),
      ⟨200, 0, r1, [], [], none, 0, rfl, by omega, rfl, Slot.nil _ _, H⟩, ?_⟩
    clear H
    rintro n h u xa xn xc xi ⟨i, r1, rest1, D, dq, dc, hin, his, hxx, hsl, H⟩
    injection hxx with hx1 hxx
    injection hxx with hx2 hxx
    injection hx1 with hx1 hx3 hx4
    injection hx2 with _ hx2
    subst xa xn xc xi
    repeat first | with_reducible refine ldI_of (by with_unfolding_all first | exact hpA H 0 rfl rfl | exact Hp.cell H 0 rfl rfl | exact hpB H 0 rfl rfl | exact hpC H 0 rfl rfl) ?_ | with_reducible refine ldS_of (by with_unfolding_all first | exact hpA H 0 rfl rfl | exact Hp.cell H 0 rfl rfl | exact hpB H 0 rfl rfl | exact hpC H 0 rfl rfl) ?_ | with_reducible refine ldP_of (by with_unfolding_all first | exact hpA H 0 rfl rfl | exact Hp.cell H 0 rfl rfl | exact hpB H 0 rfl rfl | exact hpC H 0 rfl rfl) ?_ | with_reducible refine ldB_of (by with_unfolding_all first | exact hpA H 0 rfl rfl | exact Hp.cell H 0 rfl rfl | exact hpB H 0 rfl rfl | exact hpC H 0 rfl rfl) ?_ | with_reducible refine ldT_of (by with_unfolding_all first | exact hpA H 0 rfl rfl | exact Hp.cell H 0 rfl rfl | exact hpB H 0 rfl rfl | exact hpC H 0 rfl rfl) ?_
    refine bcase_dec (fun h1 => ?_) fun h1 => ⟨i, r1, rest1, D, dq, dc, by omega, his, rfl, hsl, H⟩
    refine bcase_dec (fun h2 => ?_) fun h2 => ⟨i, r1, rest1, D, dq, dc, by omega, his, rfl, hsl, H⟩
    repeat first | with_reducible refine ldI_of (by with_unfolding_all first | exact hpA H 0 rfl rfl | exact Hp.cell H 0 rfl rfl | exact hpB H 0 rfl rfl | exact hpC H 0 rfl rfl) ?_ | with_reducible refine ldS_of (by with_unfolding_all first | exact hpA H 0 rfl rfl | exact Hp.cell H 0 rfl rfl | exact hpB H 0 rfl rfl | exact hpC H 0 rfl rfl) ?_ | with_reducible refine ldP_of (by with_unfolding_all first | exact hpA H 0 rfl rfl | exact Hp.cell H 0 rfl rfl | exact hpB H 0 rfl rfl | exact hpC H 0 rfl rfl) ?_ | with_reducible refine ldB_of (by with_unfolding_all first | exact hpA H 0 rfl rfl | exact Hp.cell H 0 rfl rfl | exact hpB H 0 rfl rfl | exact hpC H 0 rfl rfl) ?_ | with_reducible refine ldT_of (by with_unfolding_all first | exact hpA H 0 rfl rfl | exact Hp.cell H 0 rfl rfl | exact hpB H 0 rfl rfl | exact hpC H 0 rfl rfl) ?_
    obtain ⟨a, hsq, hC, hI⟩ := hT i (by omega)
    obtain ⟨k0, k1, k2, k3, k4⟩ := hC
    have hdl := dsD_len (doneL T i)
    have hdn := doneL_len T i
    have hstep := dsD_step T i
    have hdone : doneL T (i + 1) = if errIt (T i) = 0 then doneL T i ++ [T i] else doneL T i := rfl
    have hco := cdL_ok (m := 9000) (L := dsD (doneL T i)) (by omega)
    refine needs_of (by omega) (ptr_its hsq ?_)
    rw [Int.toNat_natCast]
    refine ldB_of (fr H k0) (ldI_of (fr H k1) (ldI_of (fr H k2) (ldI_of (fr H k3) (ldB_of (fr H k4) ?_))))
    refine newC_hp H fun r28 h H => ?_
    have H := H.rot
    repeat first | with_reducible refine stA H 0 (by with_unfolding_all exact rfl) (by with_unfolding_all exact rfl) (by with_unfolding_all exact rfl) fun h H => ?_ | with_reducible refine st0 H 0 (by with_unfolding_all exact rfl) (by with_unfolding_all exact rfl) (by with_unfolding_all exact rfl) fun h H => ?_ | with_reducible refine stB H 0 (by with_unfolding_all exact rfl) (by with_unfolding_all exact rfl) (by with_unfolding_all exact rfl) fun h H => ?_
    obtain ⟨t, ht⟩ : ∃ t, t = T i := ⟨_, rfl⟩
    rw [← ht] at hstep hI H hdone
    have H : Hp hB [] h ([⟨r28, true, T_burinlaw5_Item, t.cs⟩] ++ (([⟨r2, true, T_burinlaw5_Mixed, [.slice sq slen scap]⟩] ++ codL p q r1 (cdL 9000 (dsD (doneL T i))) rest1) ++ D)) := H
    have stay : ∀ {h' : Heap} {r1 : Nat} {rest1 : List Value}, errIt t ≠ 0 → Hp hB [] h' ([⟨r28, true, T_burinlaw5_Item, t.cs⟩] ++ (([⟨r2, true, T_burinlaw5_Mixed, [.slice sq slen scap]⟩] ++ codL p q r1 (cdL 9000 (dsD (doneL T i) ++ dsIt t)) rest1) ++ D)) →
        ∃ m, m < n ∧ ∃ (i' : Nat) (r1 : Nat) (rest1 : List Value) (D : List Ent) (dq' : Option Addr) (dc' : Nat), i' + m = 200 ∧ i' ≤ slen ∧ [Value.slice dq (doneL T i).length dc, Value.int .i64 ((i + 1 : Nat) : Int)] = [.slice dq' (doneL T i').length dc', .int .i64 (i' : Nat)] ∧ Slot T_burinlaw5_Item 5 D dq' (doneL T i').length dc' (itsC (doneL T i')) ∧ Hp hB [] h' (([⟨r2, true, T_burinlaw5_Mixed, [.slice sq slen scap]⟩] ++ codL p q r1 (cdL 9000 (dsD (doneL T i'))) rest1) ++ D) := fun {h' r1 rest1} he H => by
      rw [if_neg he] at hdone
      refine ⟨n - 1, by omega, i + 1, r1, rest1, D, dq, dc, by omega, by omega, ?_, ?_, ?_⟩
      · rw [hdone]
      · rw [hdone]; exact hsl
      · rw [hstep]; exact Hp.suf H
    have add : ∀ {h' : Heap} {r1 : Nat} {rest1 : List Value}, errIt t = 0 → Hp hB [] h' ([⟨r28, true, T_burinlaw5_Item, t.cs⟩] ++ (([⟨r2, true, T_burinlaw5_Mixed, [.slice sq slen scap]⟩] ++ codL p q r1 (cdL 9000 (dsD (doneL T i) ++ dsIt t)) rest1) ++ D)) →
        newC h' t.cs T_burinlaw5_Item fun r46 h47 => appC h47 T_burinlaw5_Item 5 40 [.bool false, .int .i64 0, .int .i64 0, .int .i64 0, .bool false] dq (doneL T i).length dc (some ⟨r46, 0, none⟩) 1 fun q1 q1n q1c h48 => bindI (IntKind.i64.wrap ((i : Int) + 1)) fun z =>
        ∃ m, m < n ∧ ∃ (i' : Nat) (r1 : Nat) (rest1 : List Value) (D : List Ent) (dq' : Option Addr) (dc' : Nat), i' + m = 200 ∧ i' ≤ slen ∧ [Value.slice q1 q1n q1c, Value.int .i64 z] = [.slice dq' (doneL T i').length dc', .int .i64 (i' : Nat)] ∧ Slot T_burinlaw5_Item 5 D dq' (doneL T i').length dc' (itsC (doneL T i')) ∧ Hp hB [] h48 (([⟨r2, true, T_burinlaw5_Mixed, [.slice sq slen scap]⟩] ++ codL p q r1 (cdL 9000 (dsD (doneL T i'))) rest1) ++ D) := fun {h' r1 rest1} he H => by
      rw [if_pos he] at hdone
      refine newC_hp H fun r46 h47 H => ?_
      have H : Hp hB [] h47 (([⟨r28, true, T_burinlaw5_Item, t.cs⟩] ++ ([⟨r2, true, T_burinlaw5_Mixed, [.slice sq slen scap]⟩] ++ codL p q r1 (cdL 9000 (dsD (doneL T i) ++ dsIt t)) rest1)) ++ (D ++ [⟨r46, true, T_burinlaw5_Item, t.cs⟩])) := H.as (by simp only [List.append_assoc])
      refine Slot.app (m := 1) (new := t.cs) hsl H rfl (Hp.rdO_mem (rest := []) (cs := t.cs) H (List.mem_append_right _ (List.mem_append_right _ (List.mem_singleton.2 (by rw [List.append_nil])))) rfl) rfl (fun v hv => by
        have hv : v = .bool t.id ∨ v = .int .i64 t.base ∨ v = .int .i64 t.width ∨ v = .int .i64 t.v ∨ v = .bool t.none := by simpa [ItW.cs] using hv
        rcases hv with rfl | rfl | rfl | rfl | rfl <;> rfl) (by decide) (by omega) fun D' q' c' h' hsl' H' => ?_
      refine bindI_of (((i + 1 : Nat) : Int)) (by exact i64_at _ _ (by omega) (by omega) (by omega)) ?_
      refine ⟨n - 1, by omega, i + 1, r1, rest1, D', q', c', by omega, by omega, ?_, ?_, ?_⟩
      · rw [hdone, List.length_append]
        rfl
      · rw [hdone, List.length_append]
        have e : itsC (doneL T i ++ [t]) = itsC (doneL T i) ++ t.cs := by
          unfold itsC
          rw [List.flatMap_append]
          congr 1
        rw [e]
        exact hsl'
      · rw [hstep]
        have H2 : Hp hB [] h' (([⟨r28, true, T_burinlaw5_Item, t.cs⟩] ++ ([⟨r2, true, T_burinlaw5_Mixed, [.slice sq slen scap]⟩] ++ codL p q r1 (cdL 9000 (dsD (doneL T i) ++ dsIt t)) rest1) ++ D') ++ [⟨r46, true, T_burinlaw5_Item, t.cs⟩]) := H'.as (by simp only [List.append_assoc])
        have H3 := Hp.pre H2
        rw [List.append_assoc] at H3
        exact Hp.suf H3
    refine ldB_of (hpA H 0 rfl rfl) ?_
    refine bcase_of (fun hid => ?_) fun hid => ?_
    · refine ldI_of (hpA H 0 rfl rfl) (ldI_of (hpA H 0 rfl rfl) (ldI_of (hpB H 0 rfl rfl) ?_))
      refine itId_ok (t := t) (H.give [2, 3, 4] (by simp) rfl) (by omega) hid fun r3 rest3 h H' => ?_
      replace H := H.put [2, 3, 4] (by simp) rfl rfl H' rfl rfl
      clear H'
      refine ⟨_, rfl, ?_⟩
      have H : Hp hB [] h ([⟨r28, true, T_burinlaw5_Item, t.cs⟩] ++ (([⟨r2, true, T_burinlaw5_Mixed, [.slice sq slen scap]⟩] ++ codL p q r3 (cdL 9000 (dsD (doneL T i) ++ dsIt t)) rest3) ++ D)) := H
      refine bcase_eq (fun h5 => ?_) fun h5 => ?_
      · refine ldB_of (hpA H 0 rfl rfl) (ldI_of (hpA H 0 rfl rfl) (ldI_of (hpA H 0 rfl rfl) (ldI_of (hpA H 0 rfl rfl) (ldB_of (hpA H 0 rfl rfl) ?_))))
        exact add (by rw [errIt_id hid]; exact h5) H
      · refine bindI_of (((i + 1 : Nat) : Int)) (by exact i64_at _ _ (by omega) (by omega) (by omega)) ?_
        exact stay (by rw [errIt_id hid]; exact h5) H
    · refine ldI_of (hpA H 0 rfl rfl) (ldI_of (hpB H 0 rfl rfl) (ldB_of (hpB H 0 rfl rfl) ?_))
      refine itWh_ok (t := t) (H.give [2, 3, 4] (by simp) rfl) (by omega) hid hI fun r3 rest3 h H' => ?_
      replace H := H.put [2, 3, 4] (by simp) rfl rfl H' rfl rfl
      clear H'
      refine ⟨_, rfl, ?_⟩
      have H : Hp hB [] h ([⟨r28, true, T_burinlaw5_Item, t.cs⟩] ++ (([⟨r2, true, T_burinlaw5_Mixed, [.slice sq slen scap]⟩] ++ codL p q r3 (cdL 9000 (dsD (doneL T i) ++ dsIt t)) rest3) ++ D)) := H
      refine bcase_eq (fun h5 => ?_) fun h5 => ?_
      · refine ldB_of (hpA H 0 rfl rfl) (ldI_of (hpA H 0 rfl rfl) (ldI_of (hpA H 0 rfl rfl) (ldI_of (hpA H 0 rfl rfl) (ldB_of (hpA H 0 rfl rfl) ?_))))
        exact add (by rw [errIt_wh hid]; exact h5) H
      · refine bindI_of (((i + 1 : Nat) : Int)) (by exact i64_at _ _ (by omega) (by omega) (by omega)) ?_
        exact stay (by rw [errIt_wh hid]; exact h5) H
  clear H
  rintro h u xa xn xc ⟨i, r1, rest1, D, dq, dc, hi, his, hxx, hsl, H⟩
  injection hxx with hx1 hxx
  injection hx1 with hx1 hx3 hx4
  subst xa xn xc
  have hdl := dsD_len (doneL T i)
  have hdn := doneL_len T i
  have hderr := doneL_ok T i
  have hdi := doneL_i64 (T := T) (i := i) fun j hj => by
    obtain ⟨_, _, _, hI⟩ := hT j (by omega)
    exact hI
  generalize doneL T i = dn at hsl H hdl hdn hderr hdi ⊢
  have hco := cdL_ok (m := 9000) (L := dsD dn) (by omega)
  obtain ⟨S, hS⟩ : ∃ S, S = cdL 9000 (dsD dn) := ⟨_, rfl⟩
  rw [← hS] at H hco
  rw [List.append_assoc] at H
  replace H := Hp.suf H
  refine Go.Ar.flush_ok (H.give [0, 1, 2] (by simp) rfl) hco.wf hco.done fun r3' rest3 o1 orest1 h' H' => ?_
  have H := Go.Bm.Hp.backD H [0, 1, 2] (by simp) rfl rfl H' rfl rfl rfl
  clear H'
  refine ⟨_, _, _, _, rfl, ?_⟩
  have H : Hp hB [] h' ((codL p q r3' (flushM S) rest3 ++ D) ++ [⟨o1, true, T_uint8, u8s (bytesM (flushM S)) ++ orest1⟩]) := H
  have hlt := Go.Ar.flushM_lt hco.wf
  have hfl := Go.Ar.fl_len hco (by omega)
  have hst := (Go.Ar.flushM_keep S).1
  obtain ⟨bs, hbs⟩ : ∃ bs, bs = bytesM (flushM S) := ⟨_, rfl⟩
  rw [← hbs] at H hlt hfl ⊢
  refine Go.Ar.newDecoder_ok (n := 9000) (b := bs) (by omega) (by omega) hlt hfl (Hp.rdO_mem H (List.mem_append_right _ (List.mem_singleton.2 rfl)) (by rw [Go.Ar.u8s_length, Nat.mul_one])) fun p2 q2 e0 bp bc h' hbok H' => ?_
  have hew : e0.w = true := hbok.1
  have H := (H.join H' (by simp [decL, Go.Ar.decE, hew])).rot
  clear H'
  refine ⟨_, _, rfl, ?_⟩
  refine bcase_false (by rfl) ?_
  refine bcase_false (by rfl) ?_
  refine bcase_false (by rfl) ?_
  obtain ⟨L, hL⟩ : ∃ L, L = dsD dn := ⟨_, rfl⟩
  have hwalk := walk_of (m := 9000) (L := L) (by rw [hL]; exact dsD_bit dn) (by rw [hL]; omega)
  have hbt : bytesM (flushM (cdL 9000 L)) = bs := by rw [hbs, hS, hL]
  rw [hbt] at hwalk
  obtain ⟨X, hX⟩ : ∃ X, X = (codL p q r3' (flushM S) rest3 ++ D) ++ [⟨o1, true, T_uint8, u8s bs ++ orest1⟩] := ⟨_, rfl⟩
  rw [← hX] at H
  have H : Hp hB [] h' (decL p2 q2 e0 bp bc (decN (kOf L) bs 9000 (dsD (dn.take 0)).length) ++ X) := H
  refine ⟨fun n vs h' => ∃ j : Nat, j + n = dn.length ∧ vs = [.int .i64 (j : Nat)] ∧ Hp hB [] h' (decL p2 q2 e0 bp bc (decN (kOf L) bs 9000 (dsD (dn.take j)).length) ++ X), ⟨dn.length, 0, by omega, rfl, H⟩, ?_⟩
  clear H
  rintro n h u xi ⟨j, hjn, hxx, H⟩
  injection hxx with hxx
  injection hxx with _ hxx
  subst xi
  refine bcase_dec (fun h4 => ?_) fun h4 => ?_
  · have hj : j < dn.length := by omega
    obtain ⟨t, htj⟩ : ∃ t, dn[j]? = some t := ⟨_, List.getElem?_eq_getElem hj⟩
    have htm := List.mem_of_getElem? htj
    have hte := hderr t htm
    have hI := hdi t htm
    obtain ⟨hsp, hnx⟩ := dsD_at htj
    have hspl := congrArg List.length hsp
    rw [List.length_append, List.length_append] at hspl
    rw [← hL] at hsp
    have hdo := decN_okW (k := kOf L) (m := 9000) hlt (dsD (dn.take j)).length (by omega)
    have hrD : rdO h dq (dn.length * 5) (itsC dn) := Slot.rdO' hsl H fun e he => by rw [hX]; exact List.mem_append_right _ (List.mem_append_left _ (List.mem_append_right _ he))
    obtain ⟨ad, hdq, hC⟩ := its_at hrD htj
    obtain ⟨k0, k1, k2, k3, k4⟩ := hC
    refine needs_of (by omega) (ptr_its hdq ?_)
    refine ldB_of k0 (ldI_of k1 (ldI_of k2 (ldI_of k3 (ldB_of k4 ?_))))
    clear k0 k1 k2 k3 k4
    refine newC_hp H fun r89 h H => ?_
    have H := H.rot
    repeat first | with_reducible refine stA H 0 (by with_unfolding_all exact rfl) (by with_unfolding_all exact rfl) (by with_unfolding_all exact rfl) fun h H => ?_ | with_reducible refine st0 H 0 (by with_unfolding_all exact rfl) (by with_unfolding_all exact rfl) (by with_unfolding_all exact rfl) fun h H => ?_ | with_reducible refine stB H 0 (by with_unfolding_all exact rfl) (by with_unfolding_all exact rfl) (by with_unfolding_all exact rfl) fun h H => ?_
    have H : Hp hB [] h ([⟨r89, true, T_burinlaw5_Item, t.cs⟩] ++ (decL p2 q2 e0 bp bc (decN (kOf L) bs 9000 (dsD (dn.take j)).length) ++ X)) := H
    have next : ∀ {h' : Heap} {Y : List Ent}, Hp hB [] h' (Y ++ (decL p2 q2 e0 bp bc (decN (kOf L) bs 9000 (dsD (dn.take j) ++ dsIt t).length) ++ X)) → ∃ m, m < n ∧ ∃ j' : Nat, j' + m = dn.length ∧ [Value.int .i64 ((j + 1 : Nat) : Int)] = [.int .i64 (j' : Nat)] ∧ Hp hB [] h' (decL p2 q2 e0 bp bc (decN (kOf L) bs 9000 (dsD (dn.take j')).length) ++ X) := fun H =>
      ⟨n - 1, by omega, j + 1, by omega, rfl, by rw [hnx]; exact Hp.suf H⟩
    refine ldB_of (hpA H 0 rfl rfl) ?_
    refine bcase_of (fun hid => ?_) fun hid => ?_
    · rw [errIt_id hid] at hte
      obtain ⟨g1, g2, g3⟩ := errID_0 hte
      rw [dsIt_id hid hte] at hsp next
      have hg := get_ID hwalk (x := t.v.toNat) (w := t.width.toNat) (by omega) hsp
      refine ldI_of (hpA H 0 rfl rfl) (ldI_of (hpA H 0 rfl rfl) ?_)
      refine wgetid_ok (bytes := bs) (m := 9000) (H.give [1, 2, 3] (by simp) rfl) hew hbok hdo hfl (by omega) (by decide) (by decide) (fun hh => absurd g1 hh) (fun w hw hw12 hf => ?_) (fun w h' hw hw12 hf _ H' => ?_)
      · exfalso
        rw [hw, Int.toNat_natCast] at g2
        exact hf g2
      obtain rfl : t.width.toNat = w := by omega
      rw [hg] at H' ⊢
      replace H := H.put [1, 2, 3] (by simp) rfl (by simp [decL, Go.Ar.decE, hew]) H' (by simp [decL, Go.Ar.decE, hew]) rfl
      clear H'
      refine ⟨_, _, rfl, ?_⟩
      refine bcase_false (by rfl) ?_
      refine ldI_of (hpB H 0 rfl rfl) ?_
      refine bcase_ne (fun hh => absurd (by show ((2 ^ t.width.toNat + t.v.toNat : Nat) : Int) - ((2 ^ t.width.toNat : Nat) : Int) = t.v; omega) hh) fun _ => ?_
      refine bindI_of (((j + 1 : Nat) : Int)) (by exact i64_at _ _ (by omega) (by omega) (by omega)) ?_
      exact next (Y := [⟨r89, true, T_burinlaw5_Item, t.cs⟩]) H
    · rw [errIt_wh hid] at hte
      obtain ⟨g1, g2⟩ := errWh_0 hte
      rw [dsIt_wh hid hte] at hsp next
      have hg := get_wh hwalk g2 hsp
      refine ldI_of (hpA H 0 rfl rfl) ?_
      refine wget_ok (bytes := bs) (m := 9000) (H.give [1, 2, 3] (by simp) rfl) hew hbok hdo hfl (by omega) (by decide) (by decide) g1 fun h' n' hn' _ H' => ?_
      rw [hg] at H' ⊢
      replace H := H.put [1, 2, 3] (by simp) rfl (by simp [decL, Go.Ar.decE, hew]) H' (by simp [decL, Go.Ar.decE, hew]) rfl
      clear H'
      refine ⟨_, _, _, rfl, ?_⟩
      have H : Hp hB [] h' ([⟨r89, true, T_burinlaw5_Item, t.cs⟩] ++ (decL p2 q2 e0 bp bc (decN (kOf L) bs 9000 (dsD (dn.take j) ++ dsWh 9000 t.base t.v t.none).length) ++ X)) := H
      refine newC_hp H fun r111 h H => ?_
      have H := H.rot
      repeat first | with_reducible refine stA H 0 (by with_unfolding_all exact rfl) (by with_unfolding_all exact rfl) (by with_unfolding_all exact rfl) fun h H => ?_ | with_reducible refine st0 H 0 (by with_unfolding_all exact rfl) (by with_unfolding_all exact rfl) (by with_unfolding_all exact rfl) fun h H => ?_ | with_reducible refine stB H 0 (by with_unfolding_all exact rfl) (by with_unfolding_all exact rfl) (by with_unfolding_all exact rfl) fun h H => ?_
      have H : Hp hB [] h (([⟨r111, true, T_api_Whole, [.int .i64 (if t.none = true then 0 else t.v), .bool t.none]⟩] ++ [⟨r89, true, T_burinlaw5_Item, t.cs⟩]) ++ (decL p2 q2 e0 bp bc (decN (kOf L) bs 9000 (dsD (dn.take j) ++ dsWh 9000 t.base t.v t.none).length) ++ X)) := H
      refine bcase_false (by rfl) ?_
      refine ldB_of (hpA H 0 rfl rfl) (ldB_of (hpB H 1 rfl rfl) ?_)
      refine bcase_false (by cases t.none <;> rfl) ?_
      refine ldB_of (hpA H 0 rfl rfl) ?_
      refine bcase_not (fun hn => ?_) fun hn => ?_
      · refine ldI_of (hpA H 0 rfl rfl) (ldI_of (hpB H 1 rfl rfl) ?_)
        refine bcase_ne (fun hh => absurd (by rw [if_neg (by rw [hn]; decide)]) hh) fun _ => ?_
        refine ldB_of (hpA H 0 rfl rfl) ?_
        refine bcase_false hn ?_
        refine bindI_of (((j + 1 : Nat) : Int)) (by exact i64_at _ _ (by omega) (by omega) (by omega)) ?_
        exact next H
      · refine ldB_of (hpA H 0 rfl rfl) ?_
        refine bcase_true hn ?_
        refine ldI_of (hpA H 0 rfl rfl) ?_
        refine bcase_ne (fun hh => absurd (by rw [if_pos hn]) hh) fun _ => ?_
        refine bindI_of (((j + 1 : Nat) : Int)) (by exact i64_at _ _ (by omega) (by omega) (by omega)) ?_
        exact next H
  · have hj : j = dn.length := by omega
    rw [hj, List.take_of_length_le (Nat.le_refl _), ← hL] at H
    rw [← hL] at hdl
    have hdo := decN_okW (k := kOf L) (m := 9000) hlt L.length (by omega)
    have hsy := (Go.Ar.back_run (kOf L) (bOf L) 9000 L.length (bOf_le (by rw [hL]; exact dsD_bit dn)) (by omega) (by rw [show Go.Ar.codN (kOf L) (bOf L) 9000 L.length = cdL 9000 L from rfl, hbt]; exact hlt) L.length (Nat.le_refl _)).st
    rw [show Go.Ar.codN (kOf L) (bOf L) 9000 L.length = cdL 9000 L from rfl, hbt, show cdL 9000 L = S by rw [hS, hL]] at hsy
    have hl1 : 1 ≤ (flushM S).st.length := by rw [hst, hco.len]; omega
    have hl2 : (flushM S).st.length ≤ 131072 := by rw [hst, hco.len]; omega
    rw [hX] at H
    have H : Hp hB [] h ((decL p2 q2 e0 bp bc (decN (kOf L) bs 9000 L.length) ++ codL p q r3' (flushM S) rest3) ++ (D ++ [⟨o1, true, T_uint8, u8s bs ++ orest1⟩])) := H.as (by simp only [List.append_assoc])
    refine ptr_of (a := ⟨p, 0, none⟩) (ptr_of (a := ⟨p2, 0, none⟩) ?_)
    refine Go.Ar.states_ok (st := (flushM S).st) (Hp.pre H) 3 4 rfl rfl hl1 hl2 fun o5 or5 h H => ?_
    refine ⟨_, _, _, rfl, ?_⟩
    refine Go.Ar.states_ok (st := (decN (kOf L) bs 9000 L.length).st) H 0 1 rfl rfl (by rw [hdo.len]; omega) (by rw [hdo.len]; omega) fun o6 or6 h H => ?_
    refine ⟨_, _, _, rfl, ?_⟩
    refine Go.Ar.eq_ok (xs := (flushM S).st) (ys := (decN (kOf L) bs 9000 L.length).st) (Go.Ar.row_rdO H 6 rfl) (Go.Ar.row_rdO H 7 rfl) (by omega) ?_
    refine ⟨_, rfl, ?_⟩
    refine bcase_true (by rw [hst, hsy]; simp) ?_
    exact wakes5_ok fun h' e => ⟨_, rfl, hk _ (H.hext.trans e)⟩
theorem wBack_arg {h : Heap} {cs : Array Value} (hsz : cs.size = TP.cellsOf T_burinlaw5_Mixed) (hw : WDx TP h T_burinlaw5_Mixed cs.toList) {K : Value → Heap → Prop} {Kp : List PanicEntry → Heap → Prop} (hk : ∀ h', hext h h' → K (.bool true) h') :
    CP F_burinlaw5_WholeBack #[.agg cs] h K Kp := by
  obtain ⟨q, len, cap, T, rfl, hT⟩ := mixed_of hsz hw
  exact wBack_law hT hk
end Go.Bm

/- ArLink2: what a law's walk hands on. -/
namespace Go.Proofs.Yteakipgcanafoaa
open Go.ChangeShapes Go.WideShapes Go.ChangeAt Go.RowKit
set_option linter.unusedVariables false

theorem own : ownKnob Try.prog.godebug = none := by kernel_rfl
theorem laidOut : laidOutB Try.prog = true := by kernel_rfl

/-- What a call that keeps all old rows leaves, as a row's statement asks it. -/
theorem below_of {W W' : World} (hk : Go.Den.keeps W W') (h : Go.Den.hext W.heap W'.heap) : Below W.heap.size W W' :=
  ⟨hk.1, hk.2.1, hk.2.2, h.1, fun k hlt => h.2 k hlt⟩

theorem walk_of {f : FuncId} {args : Array Value} {W : World}
    (h : Calls Try.prog f args W fun e w' => Go.Den.keeps W w' ∧ match e with
      | .returned v => v = .bool true ∧ Go.Den.hext W.heap w'.heap
      | .panicked c => False
      | .outgrown => False) : Calls Try.prog f args W fun e W' => e = .returned (.bool true) ∧ Below W.heap.size W W' := by
  refine h.mono fun e W' he => ?_
  obtain ⟨hk, he⟩ := he
  cases e with
  | returned v => exact ⟨by rw [he.1], below_of hk he.2⟩
  | panicked c => exact he.elim
  | outgrown => exact he.elim

end Go.Proofs.Yteakipgcanafoaa

/- WhBack: the given statement WholeBackSaid. -/
namespace Go.Proofs.Yteakipgcanafoaa
open Go.ChangeShapes Go.WideShapes Go.ChangeAt Go.RowKit
set_option linter.unusedVariables false

theorem wholeBack_walk (W : World) {cs : Array Value} (hsz : cs.size = Try.prog.cellsOf 41) (hw : Go.Den.WDx Try.prog W.heap 41 cs.toList) : Calls Try.prog 8 #[.agg cs] W fun e W' => e = .returned (.bool true) ∧ Below W.heap.size W W' :=
  walk_of ((Go.Bm.wBack_arg (h := W.heap) (K := fun v h' => v = .bool true ∧ Go.Den.hext W.heap h') (Kp := fun _ _ => False) hsz hw fun h' e => ⟨rfl, e⟩).2 W rfl)

set_option maxRecDepth 100000 in
theorem wholeBack_lifted (os : Os) (started : os.Started) (H : Type) (enc : TypeId × Value → H) :
    ReturnsInHanded {} Try.checked os 8 .any (Rows.wholeBackSpec.pre6 enc Try.prog Try.f8 Rows.wholeBackRow.domain false) (Rows.wholeBackSpec.post enc Try.prog Try.f8 false true false false) := by
  refine returnsInHanded_of_change_sized (C := Try.checked) own started (by kernel_rfl) Try.func8
    (ChangeSpec.witness6 (enc := enc) (C := Try.checked) false ⟨#[], #[.agg #[.slice none 0 0]], []⟩ 8 (by kernel_rfl) (by kernel_rfl) (by kernel_rfl) (by kernel_rfl)) ?_
  intro W base args ds gs before hval0 hW hcnd hz _
  have hval : ∀ (j : Nat) t v, Try.f8.params[j]? = some t → args[j]? = some v → Value.okWide Try.prog W .any base t v := hval0
  have hz : ∀ n ∈ DataW.weightsEach Try.prog (Try.f8.params.toList ++ Rows.wholeBackSpec.plain.varTypes Try.prog) (ds ++ gs), n ≤ reachBytes := fun n hn => by simpa using List.all_eq_true.1 hz n hn
  have hW' := hW
  obtain ⟨p, q, hA0, hV, rfl, hfz, hnd⟩ := hW
  have hA : DataW.TrodAll enc Try.prog W 0 (fun _ => true) true Try.f8.params.toList args.toList ds p := hA0
  rw [Try.params8] at hA hval hz
  obtain ⟨v0, vs0, d0, ds0, p0, q0, hargs, rfl, rfl, h0, r0⟩ := trodAll_cons hA
  obtain ⟨rfl, rfl, rfl⟩ := trodAll_nil r0
  obtain rfl : args = #[v0] := by cases args; simp_all
  obtain ⟨rfl, rfl⟩ := trodVars_none hV
  obtain ⟨cs, rfl, hsz⟩ := okWide_struct Try.underlying41 (hval 0 41 v0 rfl rfl)
  have hwd : Go.Den.WDx Try.prog W.heap 41 cs.toList := by
    obtain ⟨f, hf⟩ := h0
    exact ⟨f, Go.Den.wd_of hf fun n hn => hz n (DataW.weights_mem_each (j := 0) rfl rfl n hn)⟩
  clear hA0 hval0
  simp only [List.append_nil] at hW'
  refine (wholeBack_walk W hsz hwd).mono fun e W' ⟨he, hb⟩ => ?_
  subst he
  refine ⟨_, rfl, [d0], [], _, [], p0, [], hW', ?_, ?_, ?_, hb.frame _, fun h => Bool.noConfusion h⟩
  · exact trodAll_cons_mk (shut_bool Go.Proofs.Try.underlying4 _) trodAll_mk0
  · exact ⟨p0, [], Below.trod laidOut (by kernel_rfl) (of_decide_eq_true (by kernel_rfl)) h0 hb (fun x hx => by simpa using hW'.lt x hx), rfl, (List.append_nil p0).symm⟩
  · rfl

theorem wholeBack_over : Rows.wholeBackRow.holds Try.pinned (OpenSpec.ofChange Rows.wholeBackSpec) :=
  OpenClaim.holds_of_wide 8 Try.f8 rfl rfl rfl rfl rfl rfl rfl ⟨rfl, rfl, rfl, rfl, rfl⟩ rfl rfl rfl rfl rfl (by kernel_rfl) Try.func8 (by kernel_rfl)
    (of_decide_eq_true (by kernel_rfl)) (by unfold Func.isWrapper; first | (rw [if_pos (by decide +kernel)]; kernel_rfl) | (rw [if_neg (by decide +kernel)]; exact ⟨rfl, rfl⟩))
    (fun os started H enc _ => wholeBack_lifted os started H enc)

theorem wholeBack_proved : Rows.WholeBackSaid := wholeBack_over

#print axioms wholeBack_proved
end Go.Proofs.Yteakipgcanafoaa
