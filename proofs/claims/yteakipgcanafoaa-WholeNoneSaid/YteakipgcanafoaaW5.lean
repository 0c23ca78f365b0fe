/- W5: put together by wip/tools/bundle.py: WhF Mburinref4 Bburinref4 ArR ArS ArT ArU ArV WhG RfC RfD ArW ArX ArY PgA PgB PgC PgD PgF RfE RfF RfG RfH WhH WhI RdA. -/
import Derived.Test.YteakipgcanafoaaW1
import Derived.Test.YteakipgcanafoaaW2
import Derived.Test.YteakipgcanafoaaW3
import Derived.Test.YteakipgcanafoaaW4
import Derived.Test.YteakipgcanafoaaProg

/- WhF: burinref5.Bits, next, May. -/
set_option linter.unusedVariables false
set_option linter.unusedSimpArgs false
namespace Go.Bm
open Go Go.Den Go.Den.Yteakipgcanafoaa
open Go.Ar (Cod CodOk codL idx putM putM_ok)

def ints (l : List Nat) : List Value := l.map fun x => .int .i64 (x : Nat)
theorem ints_len (l : List Nat) : (ints l).length = l.length := by simp [ints]
theorem ints_app (a b : List Nat) : ints (a ++ b) = ints a ++ ints b := by simp [ints]
theorem ints_get {l : List Nat} {i x : Nat} (h : l[i]? = some x) : (ints l)[i]? = some (.int .i64 (x : Nat)) := by simp [ints, h]
theorem wFrom_mono {a b : Nat} (h : a ≤ b) (hb : b ≤ 5) : wFrom a ≤ wFrom b := by
  have h1 : wFrom 0 = 0 := rfl
  have h2 : wFrom 1 = 4 := rfl
  have h3 : wFrom 2 = 20 := rfl
  have h4 : wFrom 3 = 84 := rfl
  have h5 : wFrom 4 = 340 := rfl
  have h6 : wFrom 5 = 4436 := rfl
  have all : ∀ k, k ≤ 5 → k = 0 ∨ k = 1 ∨ k = 2 ∨ k = 3 ∨ k = 4 ∨ k = 5 := fun k hk => by omega
  rcases all a (by omega) with rfl | rfl | rfl | rfl | rfl | rfl <;> rcases all b hb with rfl | rfl | rfl | rfl | rfl | rfl <;> omega
def fromC : List Value := [.int .i64 0, .int .i64 4, .int .i64 20, .int .i64 84, .int .i64 340, .int .i64 4436]
def widC : List Value := [.int .i64 2, .int .i64 4, .int .i64 6, .int .i64 8, .int .i64 12, .int .i64 32]
theorem fromC_get {k : Nat} (h : k ≤ 5) : fromC[0 + k * 1]? = some (.int .i64 (wFrom k : Nat)) ∧ widC[0 + k * 1]? = some (.int .i64 (wWid k : Nat)) := by
  have : k = 0 ∨ k = 1 ∨ k = 2 ∨ k = 3 ∨ k = 4 ∨ k = 5 := by omega
  rcases this with rfl | rfl | rfl | rfl | rfl | rfl <;> exact ⟨rfl, rfl⟩
section
variable {hB : Heap} {K : Value → Heap → Prop} {Kp : List PanicEntry → Heap → Prop}
theorem rmay5_ok {v : Int} {none : Bool} (hk : ∀ (b : Bool) h', (b = true ↔ rightW v none) → hext hB h' → K (.bool b) h') : CP F_burinref5_May #[.agg #[.int .i64 v, .bool none]] hB K Kp := by
  refine call_burinref5_May ?_
  unfold burinref5_May
  have H := Hp.nil hB []
  refine newC_hp H fun r3 h H => ?_
  refine ldB_of (hpA H 0 rfl rfl) ?_
  cases none with
  | true => exact bcase_true rfl (hk true _ (by simp [rightW]) H.hext)
  | false =>
    refine bcase_false rfl ?_
    refine ldI_of (hpA H 0 rfl rfl) ?_
    with_reducible_and_instances refine bcase_dec (fun h1 => ?_) fun h1 => ?_
    · refine ldI_of (hpA H 0 rfl rfl) ?_
      refine hk _ _ ⟨fun h2 => .inr ⟨by omega, of_decide_eq_true h2⟩, fun h2 => ?_⟩ H.hext
      rcases h2 with h2 | h2
      · cases h2
      · exact decide_eq_true h2.2
    · refine hk false _ ⟨(fun h2 => by cases h2), fun h2 => ?_⟩ H.hext
      rcases h2 with h2 | h2
      · cases h2
      · omega
theorem rnext5_ok {v b : Nat} (hv : v < 512) (hb : b ≤ 1) (hk : K (.int .i64 (nextW v b : Nat)) hB) : CP F_burinref5_next #[.int .i64 (v : Nat), .int .i64 (b : Nat)] hB K Kp := by
  refine call_burinref5_next ?_
  unfold burinref5_next
  have hd : (decide ((v : Int) < 256)) = decide (v < 256) := decide_eq_decide.2 (by omega)
  rw [hd]
  by_cases h3 : v < 256
  · refine bcase_true (decide_eq_true h3) ?_
    refine bindI_of (((2 * v : Nat) : Int)) (by exact i64_at _ _ (by omega) (by omega) (by omega)) ?_
    refine bindI_of (((2 * v + b : Nat) : Int)) (by exact i64_at _ _ (by omega) (by omega) (by omega)) ?_
    have e : nextW v b = 2 * v + b := by unfold nextW; rw [if_pos (by omega)]
    rw [e] at hk
    exact hk
  · refine bcase_false (decide_eq_false h3) ?_
    refine bindI_of (((2 * v : Nat) : Int)) (by exact i64_at _ _ (by omega) (by omega) (by omega)) ?_
    refine bindI_of (((2 * v + b : Nat) : Int)) (by exact i64_at _ _ (by omega) (by omega) (by omega)) ?_
    refine bindI_of ((((2 * v + b) % 256 : Nat) : Int)) (by exact tmod_nat _ 256) ?_
    have e : nextW v b = (2 * v + b) % 256 + 256 := by unfold nextW; rw [if_neg (by omega)]
    refine bindI_of (((nextW v b : Nat) : Int)) (by exact i64_at _ _ (by omega) (by omega) (by omega)) ?_
    exact hk
set_option maxRecDepth 100000 in
set_option maxHeartbeats 4000000 in
theorem bitsR_ok {v : Int} {none : Bool} (hr : rightW v none) (hk : ∀ q rest h', Hp hB [] h' [⟨q, true, T_int, ints (bitsL (sgW v none) (mW v none)) ++ rest⟩] → K (.slice (at0 q) (bitsL (sgW v none) (mW v none)).length (ints (bitsL (sgW v none) (mW v none)) ++ rest).length) h') :
    CP F_burinref5_Bits #[.agg #[.int .i64 v, .bool none]] hB K Kp := by
  refine call_burinref5_Bits ?_
  unfold burinref5_Bits
  have H := Hp.nil hB []
  refine newC_hp H fun r3 h H => ?_
  refine ldB_of (hpA H 0 rfl rfl) ?_
  cases none with
  | true =>
    refine bcase_true rfl ?_
    refine newC_hp H fun r6 h H => ?_
    have e : bitsL (sgW v true) (mW v true) = [1, 0, 0, 0] := by
      have e1 : sgW v true = 1 := if_pos rfl
      have e2 : mW v true = 0 := rfl
      rw [e1, e2]
      decide
    rw [e] at hk
    exact hk r6 [] _ (H.pick [1] (by decide) rfl)
  | false =>
    refine bcase_false rfl ?_
    have hv : -2147483648 ≤ v ∧ v ≤ 2147483648 := by
      rcases hr with h | h
      · cases h
      · exact h
    refine ldI_of (hpA H 0 rfl rfl) ?_
    obtain ⟨sg, hsg⟩ : ∃ sg, sg = sgW v false := ⟨_, rfl⟩
    obtain ⟨m, hm⟩ : ∃ m, m = mW v false := ⟨_, rfl⟩
    have hm2 : m = v.natAbs := hm
    rw [← hsg, ← hm] at hk
    clear hm
    have one : ∀ {h : Heap} {q x k : Nat} {pre : List Nat} {rest : List Value} {A : List Ent} {K1 : Option Addr → Nat → Nat → Heap → Prop}, Hp hB [] h ([⟨q, true, T_int, ints pre ++ rest⟩] ++ A ++ [⟨k, true, T_int, [.int .i64 (x : Nat)]⟩]) → pre.length ≤ 100 →
        (∀ q' rest' h', Hp hB [] h' ([⟨q', true, T_int, ints (pre ++ [x]) ++ rest'⟩] ++ A) → K1 (at0 q') (pre ++ [x]).length (ints (pre ++ [x]) ++ rest').length h') →
        appC h T_int 1 8 [.int .i64 0] (at0 q) pre.length (ints pre ++ rest).length (some ⟨k, 0, Option.none⟩) 1 K1 := fun {h q x k pre rest A K1} H hp hk1 => by
      refine appC_own H 0 rfl (xs := ints pre) (by rw [ints_len]) rfl (Hp.rdO_mem (rest := []) (cs := [.int .i64 (x : Nat)]) H (List.mem_append_right _ (List.mem_singleton.2 rfl)) rfl) rfl (fun v hv => by rw [List.mem_singleton.1 hv]; rfl) (by omega) fun q' rest' h' H' => ?_
      have H' : Hp hB [] h' ([⟨q', true, T_int, (ints pre ++ [.int .i64 (x : Nat)]) ++ rest'⟩] ++ A ++ [⟨k, true, T_int, [.int .i64 (x : Nat)]⟩]) := H'
      have e : ints pre ++ [.int .i64 (x : Nat)] = ints (pre ++ [x]) := by rw [ints_app]; rfl
      rw [e] at H' ⊢
      have := hk1 q' rest' h' (Hp.pre H')
      rw [List.length_append, List.length_singleton] at this
      exact this
    refine ⟨fun vs h' => ∃ q rest, vs = [.int .i64 (m : Nat), .slice (at0 q) 1 (ints [sg] ++ rest).length] ∧ Hp hB [] h' [⟨q, true, T_int, ints [sg] ++ rest⟩], ?_, ?_⟩
    · refine bcase_dec (fun h1 => ?_) fun h1 => ?_
      · have es : sg = 1 := by rw [hsg]; unfold sgW; rw [if_neg (by simp), if_pos h1]
        refine bindI_of (((m : Nat) : Int)) (by exact i64_at _ _ (by omega) (by omega) (by omega)) ?_
        refine newC_hp H fun r13 h H => ?_
        refine appC_new H (rdO_hp (o := 0) (n := 1 * 1) H 1 rfl (Nat.le_refl _)) rfl (Nat.le_refl _) (by decide) fun q rest h' _ H => ?_
        have H := H.pick [2] (by decide) (L' := [⟨q, true, T_int, ints [sg] ++ rest⟩]) (by rw [es]; rfl)
        exact ⟨q, rest, by rw [List.length_append, ints_len]; rfl, H⟩
      · have es : sg = 0 := by rw [hsg]; unfold sgW; rw [if_neg (by simp), if_neg h1]
        refine newC_hp H fun r13 h H => ?_
        refine appC_new H (rdO_hp (o := 0) (n := 1 * 1) H 1 rfl (Nat.le_refl _)) rfl (Nat.le_refl _) (by decide) fun q rest h' _ H => ?_
        have H := H.pick [2] (by decide) (L' := [⟨q, true, T_int, ints [sg] ++ rest⟩]) (by rw [es]; rfl)
        have ev : v = (m : Nat) := by omega
        exact ⟨q, rest, by rw [List.length_append, ints_len, ev]; rfl, H⟩
    · clear H
      rintro h u x y yn yc ⟨q, rest, hxx, H⟩
      injection hxx with hx1 hxx
      injection hxx with hx2 hxx
      injection hx1 with _ hx1
      injection hx2 with hx2 hx3 hx4
      subst x y yn yc
      have hwk := wK_le m
      obtain ⟨hw1, hw2⟩ := wK_spec m
      refine newC_hp H fun r23 h H => ?_
      refine newC_hp H fun r25 h H => ?_
      have H : Hp hB [] _ ([⟨q, true, T_int, ints [sg] ++ rest⟩] ++ [⟨r23, true, T_int, fromC⟩, ⟨r25, true, T_int, widC⟩]) := H
      refine ⟨fun vs h' => ∃ q rest, vs = [.slice (at0 q) ([sg] ++ List.replicate (wK m) 1).length (ints ([sg] ++ List.replicate (wK m) 1) ++ rest).length, .int .i64 (wK m : Nat)] ∧ Hp hB [] h' ([⟨q, true, T_int, ints ([sg] ++ List.replicate (wK m) 1) ++ rest⟩] ++ [⟨r23, true, T_int, fromC⟩, ⟨r25, true, T_int, widC⟩]), ?_, ?_⟩
      · refine ⟨fun n vs h' => ∃ (k q : Nat) (rest : List Value), k + n = 5 ∧ k ≤ wK m ∧ vs = [.slice (at0 q) ([sg] ++ List.replicate k 1).length (ints ([sg] ++ List.replicate k 1) ++ rest).length, .int .i64 (k : Nat)] ∧ Hp hB [] h' ([⟨q, true, T_int, ints ([sg] ++ List.replicate k 1) ++ rest⟩] ++ [⟨r23, true, T_int, fromC⟩, ⟨r25, true, T_int, widC⟩]),
          ⟨5, 0, q, rest, rfl, by omega, rfl, H⟩, ?_⟩
        clear H
        rintro n h u x xn xc k' ⟨k, q, rest, hkn, hkw, hxx, H⟩
        injection hxx with hx1 hxx
        injection hxx with hx2 hxx
        injection hx2 with _ hx2
        injection hx1 with hx1 hx3 hx4
        subst x xn xc k'
        refine bcase_dec (fun h1 => ?_) fun h1 => ?_
        · have hk5 : k < 5 := by omega
          refine bindI_of (((k + 1 : Nat) : Int)) (by exact i64_at _ _ (by omega) (by omega) (by omega)) ?_
          refine needs_of (by omega) ?_
          rw [Int.toNat_natCast]
          refine ldI_of (hpA H 1 rfl (fromC_get (by omega : k + 1 ≤ 5)).1) ?_
          refine bcase_dec (fun h2 => ?_) fun h2 => ?_
          · have hk1 : k + 1 ≤ wK m := by
              rcases Nat.lt_or_ge (wK m) (k + 1) with h3 | h3
              · have := hw2 (k + 1) (by omega) h3
                omega
              · exact h3
            refine newC_hp H fun r39 h H => ?_
            refine one (x := 1) H (by simp; omega) fun q' rest' h' H => ?_
            rw [show [sg] ++ List.replicate k 1 ++ [1] = [sg] ++ List.replicate (k + 1) 1 by rw [List.replicate_succ', List.append_assoc]] at H ⊢
            refine bindI_of (((k + 1 : Nat) : Int)) (by exact i64_at _ _ (by omega) (by omega) (by omega)) ?_
            exact ⟨n - 1, by omega, k + 1, q', rest', by omega, hk1, rfl, H⟩
          · have hkk : wK m = k := by
              rcases Nat.lt_or_ge k (wK m) with h3 | h3
              · have := wFrom_mono (show k + 1 ≤ wK m by omega) hwk
                omega
              · omega
            rw [hkk]
            exact ⟨q, rest, rfl, H⟩
        · have hkk : wK m = k := by omega
          rw [hkk]
          exact ⟨q, rest, rfl, H⟩
      · clear H
        rintro h u x xn xc k' ⟨q, rest, hxx, H⟩
        injection hxx with hx1 hxx
        injection hxx with hx2 hxx
        injection hx2 with _ hx2
        injection hx1 with hx1 hx3 hx4
        subst x xn xc k'
        refine ⟨fun vs h' => ∃ q rest, vs = [.slice (at0 q) (headB sg m).length (ints (headB sg m) ++ rest).length] ∧ Hp hB [] h' ([⟨q, true, T_int, ints (headB sg m) ++ rest⟩] ++ [⟨r23, true, T_int, fromC⟩, ⟨r25, true, T_int, widC⟩]), ?_, ?_⟩
        · refine bcase_dec (fun h1 => ?_) fun h1 => ?_
          · have h1 : wK m < 5 := by omega
            refine newC_hp H fun r49 h H => ?_
            refine one (x := 0) H (by simp; omega) fun q' rest' h' H => ?_
            have e : [sg] ++ List.replicate (wK m) 1 ++ [0] = headB sg m := by unfold headB; rw [if_pos h1]
            rw [e] at H ⊢
            exact ⟨q', rest', rfl, H⟩
          · have e : [sg] ++ List.replicate (wK m) 1 = headB sg m := by unfold headB; rw [if_neg (by omega), List.append_nil]
            rw [e] at H ⊢
            exact ⟨q, rest, rfl, H⟩
        · clear H
          rintro h u x xn xc ⟨q, rest, hxx, H⟩
          injection hxx with hx1 hxx
          injection hx1 with hx1 hx3 hx4
          subst x xn xc
          obtain ⟨g0, g1⟩ := fromC_get hwk
          refine needs_of (by omega) ?_
          rw [Int.toNat_natCast]
          refine ldI_of (hpA H 2 rfl g1) ?_
          have hwid := wWid_le _ hwk
          obtain ⟨w, hw⟩ : ∃ w, w = wWid (wK m) := ⟨_, rfl⟩
          obtain ⟨y, hy⟩ : ∃ y, y = m - wFrom (wK m) := ⟨_, rfl⟩
          have hbits : bitsL sg m = headB sg m ++ tailB y w := by rw [hy, hw]; rfl
          have hbn := bitsL_len sg m
          rw [hbits, List.length_append, tailB_len] at hbn
          rw [hbits] at hk
          rw [← hw] at hwid ⊢
          refine bindI_of (((w : Int) - 1)) (by exact i64_in _ (by omega) (by omega)) ?_
          refine ⟨fun n vs h' => ∃ (i q : Nat) (rest : List Value), i + n = w ∧ vs = [.slice (at0 q) (headB sg m ++ (tailB y w).take i).length (ints (headB sg m ++ (tailB y w).take i) ++ rest).length, .int .i64 ((w : Int) - 1 - (i : Nat))] ∧ Hp hB [] h' ([⟨q, true, T_int, ints (headB sg m ++ (tailB y w).take i) ++ rest⟩] ++ [⟨r23, true, T_int, fromC⟩, ⟨r25, true, T_int, widC⟩]),
            ⟨w, 0, q, rest, by omega, by simp, by simpa using H⟩, ?_⟩
          clear H
          rintro n h u x xn xc k' ⟨i, q, rest, hin, hxx, H⟩
          injection hxx with hx1 hxx
          injection hxx with hx2 hxx
          injection hx2 with _ hx2
          injection hx1 with hx1 hx3 hx4
          subst x xn xc k'
          refine bcase_dec (fun h7 => ?_) fun h7 => ?_
          · have hi : i < w := by omega
            refine needs_of (by omega) ?_
            refine ldI_of (hpA H 1 rfl g0) ?_
            refine bindI_of (((y : Nat) : Int)) (by exact i64_at _ _ (by omega) (by omega) (by omega)) ?_
            rw [show (w : Int) - 1 - (i : Nat) = ((w - 1 - i : Nat) : Int) by omega]
            refine bindI_of (((w - 1 - i : Nat) : Int)) (by exact u64_in _ (by omega) (by omega)) ?_
            refine needs_of (by omega) ?_
            refine bindI_of (((y / 2 ^ (w - 1 - i) : Nat) : Int)) (by exact shr_of (by show _ ≤ 64; omega)) ?_
            obtain ⟨z, hz⟩ : ∃ z, z = y / 2 ^ (w - 1 - i) := ⟨_, rfl⟩
            rw [← hz]
            refine bindI_of (((z % 2 : Nat) : Int)) (by exact (and63_1 _).trans (by omega)) ?_
            refine newC_hp H fun r68 h H => ?_
            have htl : ((tailB y w).take i).length ≤ w := by rw [List.length_take, tailB_len]; omega
            refine one (x := z % 2) H (by rw [List.length_append]; omega) fun q' rest' h' H => ?_
            rw [show headB sg m ++ (tailB y w).take i ++ [z % 2] = headB sg m ++ (tailB y w).take (i + 1) by rw [tailB_take hi, ← hz, List.append_assoc]] at H ⊢
            refine bindI_of (((w : Int) - 1 - (i + 1 : Nat))) (by exact i64_at _ _ (by omega) (by omega) (by omega)) ?_
            exact ⟨n - 1, by omega, i + 1, q', rest', by omega, rfl, H⟩
          · have hi : w = i := by omega
            subst hi
            rw [List.take_of_length_le (by rw [tailB_len]; exact Nat.le_refl _)] at H ⊢
            exact hk q rest h (Hp.pre H)
end
end Go.Bm

/- Written by gen.py: the conditions of the functions of burinref4. -/
set_option linter.unusedVariables false
set_option linter.unusedSimpArgs false
namespace Go.Den.Yteakipgcanafoaa
open Go Go.Den

/- burin/burinref4.New -/
set_option maxRecDepth 100000 in
def burinref4_New (C : CallP) (contexts : Int) (h : Heap) (K : Value → Heap → Prop) (Kp : List PanicEntry → Heap → Prop) : Prop :=
C F_burinref4_begun #[.int .i64 contexts] h (fun v_1 h_2 =>
∃ (r_3 : Option Addr) (r_3n : Nat) (r_3c : Nat) (r_4 : Option Addr) (r_4n : Nat) (r_4c : Nat) (r_5 : Option Addr) (r_5n : Nat) (r_5c : Nat) (r_6 : Int), v_1 = .agg #[.slice r_3 r_3n r_3c, .slice r_4 r_4n r_4c, .slice r_5 r_5n r_5c, .int .i64 r_6] ∧ (
newC h_2 [.int .u8 0] T_uint8 fun r_7 h_8 =>
newC h_8 [.slice r_3 r_3n r_3c, .slice r_4 r_4n r_4c, .slice r_5 r_5n r_5c, .int .i64 r_6, .int .i64 32768, .int .i64 0, .int .i64 12, .slice (some ⟨r_7, 0, none⟩) 1 1, .bool false] T_burinref4_Coder fun r_9 h_10 =>
K (.pointer (some ⟨r_9, 0, none⟩)) h_10)) (Kp)

/- (*burin/burinref4.Coder).Flush -/
set_option maxRecDepth 100000 in
def burinref4_Coder_Flush (C : CallP) (a0 : Option Addr) (h : Heap) (K : Value → Heap → Prop) (Kp : List PanicEntry → Heap → Prop) : Prop :=
ptr a0 fun a_1 =>
ldB h (a_1.add 8) fun x_2 =>
bcase x_2 (
K (.tuple #[.slice none 0 0, .int .i64 43]) h) <|
ptr a0 fun a_3 =>
stV h (a_3.add 8) (.bool true) fun h_4 =>
ptr a0 fun a_5 =>
ptr a0 fun a_6 =>
ldI h_4 (a_5.add 5) .i64 fun x_7 =>
ldI h_4 (a_6.add 4) .i64 fun x_8 =>
bindI (IntKind.i64.wrap (x_7 + x_8)) fun z_9 =>
ptr a0 fun a_10 =>
ldI h_4 (a_10.add 5) .i64 fun x_11 =>
bindI (bitI .or .i64 x_11 (65535 : Int)) fun z_12 =>
ptr a0 fun a_13 =>
stV h_4 (a_13.add 5) (.int .i64 z_12) fun h_14 =>
∃ K_15 : List Value → Heap → Prop, (
ptr a0 fun a_18 =>
ldI h_14 (a_18.add 5) .i64 fun x_19 =>
bcase (decide (x_19 ≥ z_9)) (
ptr a0 fun a_20 =>
ldI h_14 (a_20.add 5) .i64 fun x_21 =>
bindI (IntKind.i64.wrap (x_21 - (32768 : Int))) fun z_22 =>
ptr a0 fun a_23 =>
stV h_14 (a_23.add 5) (.int .i64 z_22) fun h_24 =>
K_15 [] h_24) <|
K_15 [] h_14) ∧ ∀ (h_16 : Heap) (u_17 : Nat → Value) , K_15 [] h_16 → (
ptr a0 fun a_25 =>
ptr a0 fun a_26 =>
ldI h_16 (a_25.add 5) .i64 fun x_27 =>
ldI h_16 (a_26.add 6) .i64 fun x_28 =>
bindI (IntKind.u64.wrap x_28) fun z_29 =>
needs (0 ≤ z_29) <|
bindI (shlI .i64 x_27 z_29) fun z_30 =>
bindI (bitI .and .i64 z_30 (4294967295 : Int)) fun z_31 =>
ptr a0 fun a_32 =>
stV h_16 (a_32.add 5) (.int .i64 z_31) fun h_33 =>
C F_burinref4_Coder_out #[.pointer a0] h_33 (fun v_34 h_35 =>
ptr a0 fun a_36 =>
ptr a0 fun a_37 =>
ldI h_35 (a_36.add 5) .i64 fun x_38 =>
ldI h_35 (a_37.add 6) .i64 fun x_39 =>
bindI (IntKind.u64.wrap x_39) fun z_40 =>
needs (0 ≤ z_40) <|
bindI (shlI .i64 x_38 z_40) fun z_41 =>
bindI (bitI .and .i64 z_41 (4294967295 : Int)) fun z_42 =>
ptr a0 fun a_43 =>
stV h_35 (a_43.add 5) (.int .i64 z_42) fun h_44 =>
C F_burinref4_Coder_out #[.pointer a0] h_44 (fun v_45 h_46 =>
ptr a0 fun a_47 =>
ldS h_46 (a_47.add 7) fun x_48 x_48n x_48c =>
∃ K_49 : List Value → Heap → Prop, (
ptr a0 fun a_52 =>
ldS h_46 (a_52.add 7) fun x_53 x_53n x_53c =>
bindI (IntKind.i64.wrap ((x_48n : Int) - (1 : Int))) fun z_54 =>
needs (0 ≤ z_54 ∧ z_54 < (x_53n : Int)) <|
ptr x_53 fun a_55 =>
ldI h_46 (a_55.add (z_54.toNat * 1)) .u8 fun x_56 =>
bcase (x_56 == (255 : Int)) (
bindI (IntKind.i64.wrap ((x_48n : Int) - (1 : Int))) fun z_57 =>
K_49 [.int .i64 z_57] h_46) <|
K_49 [.int .i64 (x_48n : Int)] h_46) ∧ ∀ (h_50 : Heap) (u_51 : Nat → Value) (x_58 : Int), K_49 [.int .i64 x_58] h_50 → (
ptr a0 fun a_59 =>
ldS h_50 (a_59.add 7) fun x_60 x_60n x_60c =>
needs (0 ≤ x_58 ∧ x_58 ≤ ((x_60c : Nat) : Int)) <|
needs (0 ≤ (1 : Int) ∧ (1 : Int) ≤ ((x_58.toNat : Nat) : Int)) <|
appC h_50 T_uint8 1 1 [.int .u8 0] none (0) (0) (subA x_60 (x_60c) ((1 : Int).toNat) 1) ((x_58.toNat - (1 : Int).toNat)) fun q_61 q_61n q_61c h_62 =>
K (.tuple #[.slice q_61 q_61n q_61c, .int .i64 0]) h_62)) (Kp)) (Kp))

/- (*burin/burinref4.side).States -/
set_option maxRecDepth 100000 in
def burinref4_side_States (C : CallP) (s : Option Addr) (h : Heap) (K : Value → Heap → Prop) (Kp : List PanicEntry → Heap → Prop) : Prop :=
∃ J_1 : Nat → List Value → Heap → Prop, (∃ n_3, J_1 n_3 [.slice none 0 0, .int .i64 0] h) ∧ ∀ (n_3 : Nat) (h_4 : Heap) (u_5 : Nat → Value) (b_6 : Option Addr) (b_6n : Nat) (b_6c : Nat) (i_7 : Int), J_1 n_3 [.slice b_6 b_6n b_6c, .int .i64 i_7] h_4 → (
ptr s fun a_8 =>
ldS h_4 (a_8.add 1) fun x_9 x_9n x_9c =>
bcase (decide (i_7 < (x_9n : Int))) (
ptr s fun a_10 =>
ptr s fun a_11 =>
ldS h_4 (a_10.add 1) fun x_12 x_12n x_12c =>
needs (0 ≤ i_7 ∧ i_7 < (x_12n : Int)) <|
ptr x_12 fun a_13 =>
ldI h_4 (a_13.add (i_7.toNat * 1)) .i64 fun x_14 =>
bindI (IntKind.i64.wrap ((2 : Int) * x_14)) fun z_15 =>
ldS h_4 (a_11.add 2) fun x_16 x_16n x_16c =>
needs (0 ≤ i_7 ∧ i_7 < (x_16n : Int)) <|
ptr x_16 fun a_17 =>
ldI h_4 (a_17.add (i_7.toNat * 1)) .i64 fun x_18 =>
bindI (IntKind.i64.wrap (z_15 + x_18)) fun z_19 =>
bindI (IntKind.u8.wrap z_19) fun z_20 =>
newC h_4 [.int .u8 z_20] T_uint8 fun r_21 h_22 =>
appC h_22 T_uint8 1 1 [.int .u8 0] b_6 (b_6n) (b_6c) (some ⟨r_21, 0, none⟩) (1) fun q_23 q_23n q_23c h_24 =>
bindI (IntKind.i64.wrap (i_7 + (1 : Int))) fun z_25 =>
∃ m_2, m_2 < n_3 ∧ J_1 m_2 [.slice q_23 q_23n q_23c, .int .i64 z_25] h_24) <|
K (.slice b_6 b_6n b_6c) h_4)

/- burin/burinref4.NewDecoder -/
set_option maxRecDepth 100000 in
def burinref4_NewDecoder (C : CallP) (b : Option Addr) (bn : Nat) (bc : Nat) (contexts : Int) (h : Heap) (K : Value → Heap → Prop) (Kp : List PanicEntry → Heap → Prop) : Prop :=
C F_burinref4_begun #[.int .i64 contexts] h (fun v_1 h_2 =>
∃ (r_3 : Option Addr) (r_3n : Nat) (r_3c : Nat) (r_4 : Option Addr) (r_4n : Nat) (r_4c : Nat) (r_5 : Option Addr) (r_5n : Nat) (r_5c : Nat) (r_6 : Int), v_1 = .agg #[.slice r_3 r_3n r_3c, .slice r_4 r_4n r_4c, .slice r_5 r_5n r_5c, .int .i64 r_6] ∧ (
appC h_2 T_uint8 1 1 [.int .u8 0] none (0) (0) b (bn) fun q_7 q_7n q_7c h_8 =>
newC h_8 [.slice r_3 r_3n r_3c, .slice r_4 r_4n r_4c, .slice r_5 r_5n r_5c, .int .i64 r_6, .int .i64 32768, .int .i64 0, .int .i64 0, .slice q_7 q_7n q_7c, .int .i64 0] T_burinref4_Decoder fun r_9 h_10 =>
C F_burinref4_Decoder_byte #[.pointer (some ⟨r_9, 0, none⟩), .int .i64 0] h_10 (fun v_11 h_12 =>
∃ (r_13 : Int), v_11 = .int .i64 r_13 ∧ (
bindI (shlI .i64 r_13 (16 : Int)) fun z_14 =>
stV h_12 ((⟨r_9, 0, none⟩ : Addr).add 5) (.int .i64 z_14) fun h_15 =>
C F_burinref4_Decoder_in #[.pointer (some ⟨r_9, 0, none⟩)] h_15 (fun v_16 h_17 =>
ldI h_17 ((⟨r_9, 0, none⟩ : Addr).add 5) .i64 fun x_18 =>
bindI (shlI .i64 x_18 (7 : Int)) fun z_19 =>
bindI (bitI .and .i64 z_19 (4294967295 : Int)) fun z_20 =>
stV h_17 ((⟨r_9, 0, none⟩ : Addr).add 5) (.int .i64 z_20) fun h_21 =>
ldI h_21 ((⟨r_9, 0, none⟩ : Addr).add 6) .i64 fun x_22 =>
bindI (IntKind.i64.wrap (x_22 - (7 : Int))) fun z_23 =>
stV h_21 ((⟨r_9, 0, none⟩ : Addr).add 6) (.int .i64 z_23) fun h_24 =>
K (.pointer (some ⟨r_9, 0, none⟩)) h_24) (Kp))) (Kp))) (Kp)

/- burin/burinref4.begun -/
set_option maxRecDepth 100000 in
def burinref4_begun (C : CallP) (contexts : Int) (h : Heap) (K : Value → Heap → Prop) (Kp : List PanicEntry → Heap → Prop) : Prop :=
newC h [.slice none 0 0, .slice none 0 0, .slice none 0 0, .int .i64 0] T_burinref4_side fun r_1 h_2 =>
(
C F_burinref4_table #[] h_2 (fun v_3 h_4 =>
∃ (r_5 : Option Addr) (r_5n : Nat) (r_5c : Nat), v_3 = .slice r_5 r_5n r_5c ∧ (
hext h_2 h_4 ∧ (
(
needs (0 ≤ contexts ∧ contexts ≤ contexts ∧ contexts ≤ 9223372036854775807 ∧ ((8 : Nat) : Int) * contexts ≤ 281474976710656) <|
newC h_4 (repZ [.int .i64 0] contexts.toNat) T_int fun r_6 h_7 =>
needs (0 ≤ contexts ∧ contexts ≤ contexts ∧ contexts ≤ 9223372036854775807 ∧ ((8 : Nat) : Int) * contexts ≤ 281474976710656) <|
newC h_7 (repZ [.int .i64 0] contexts.toNat) T_int fun r_8 h_9 =>
stV h_9 ((⟨r_1, 0, none⟩ : Addr).add 0) (.slice r_5 r_5n r_5c) fun h_10 =>
stV h_10 ((⟨r_1, 0, none⟩ : Addr).add 1) (.slice (some ⟨r_6, 0, none⟩) contexts.toNat contexts.toNat) fun h_11 =>
stV h_11 ((⟨r_1, 0, none⟩ : Addr).add 2) (.slice (some ⟨r_8, 0, none⟩) contexts.toNat contexts.toNat) fun h_12 =>
stV h_12 ((⟨r_1, 0, none⟩ : Addr).add 3) (.int .i64 0) fun h_13 =>
ldS h_13 ((⟨r_1, 0, none⟩ : Addr).add 0) fun r_14 r_14n r_14c =>
ldS h_13 ((⟨r_1, 0, none⟩ : Addr).add 1) fun r_15 r_15n r_15c =>
ldS h_13 ((⟨r_1, 0, none⟩ : Addr).add 2) fun r_16 r_16n r_16c =>
ldI h_13 ((⟨r_1, 0, none⟩ : Addr).add 3) .i64 fun r_17 =>
K (.agg #[.slice r_14 r_14n r_14c, .slice r_15 r_15n r_15c, .slice r_16 r_16n r_16c, .int .i64 r_17]) h_13) ∧ (
needs (0 ≤ contexts ∧ contexts ≤ contexts ∧ contexts ≤ 9223372036854775807 ∧ ((8 : Nat) : Int) * contexts ≤ 281474976710656) <|
newC h_4 (repZ [.int .i64 0] contexts.toNat) T_int fun r_18 h_19 =>
needs (0 ≤ contexts ∧ contexts ≤ contexts ∧ contexts ≤ 9223372036854775807 ∧ ((8 : Nat) : Int) * contexts ≤ 281474976710656) <|
newC h_19 (repZ [.int .i64 0] contexts.toNat) T_int fun r_20 h_21 =>
stV h_21 ((⟨r_1, 0, none⟩ : Addr).add 0) (.slice r_5 r_5n r_5c) fun h_22 =>
stV h_22 ((⟨r_1, 0, none⟩ : Addr).add 1) (.slice (some ⟨r_20, 0, none⟩) contexts.toNat contexts.toNat) fun h_23 =>
stV h_23 ((⟨r_1, 0, none⟩ : Addr).add 2) (.slice (some ⟨r_18, 0, none⟩) contexts.toNat contexts.toNat) fun h_24 =>
stV h_24 ((⟨r_1, 0, none⟩ : Addr).add 3) (.int .i64 0) fun h_25 =>
ldS h_25 ((⟨r_1, 0, none⟩ : Addr).add 0) fun r_26 r_26n r_26c =>
ldS h_25 ((⟨r_1, 0, none⟩ : Addr).add 1) fun r_27 r_27n r_27c =>
ldS h_25 ((⟨r_1, 0, none⟩ : Addr).add 2) fun r_28 r_28n r_28c =>
ldI h_25 ((⟨r_1, 0, none⟩ : Addr).add 3) .i64 fun r_29 =>
K (.agg #[.slice r_26 r_26n r_26c, .slice r_27 r_27n r_27c, .slice r_28 r_28n r_28c, .int .i64 r_29]) h_25)))) (Kp)) ∧ (
(
needs (0 ≤ contexts ∧ contexts ≤ contexts ∧ contexts ≤ 9223372036854775807 ∧ ((8 : Nat) : Int) * contexts ≤ 281474976710656) <|
newC h_2 (repZ [.int .i64 0] contexts.toNat) T_int fun r_30 h_31 =>
(
C F_burinref4_table #[] h_31 (fun v_32 h_33 =>
∃ (r_34 : Option Addr) (r_34n : Nat) (r_34c : Nat), v_32 = .slice r_34 r_34n r_34c ∧ (
hext h_31 h_33 ∧ (
needs (0 ≤ contexts ∧ contexts ≤ contexts ∧ contexts ≤ 9223372036854775807 ∧ ((8 : Nat) : Int) * contexts ≤ 281474976710656) <|
newC h_33 (repZ [.int .i64 0] contexts.toNat) T_int fun r_35 h_36 =>
stV h_36 ((⟨r_1, 0, none⟩ : Addr).add 0) (.slice r_34 r_34n r_34c) fun h_37 =>
stV h_37 ((⟨r_1, 0, none⟩ : Addr).add 1) (.slice (some ⟨r_30, 0, none⟩) contexts.toNat contexts.toNat) fun h_38 =>
stV h_38 ((⟨r_1, 0, none⟩ : Addr).add 2) (.slice (some ⟨r_35, 0, none⟩) contexts.toNat contexts.toNat) fun h_39 =>
stV h_39 ((⟨r_1, 0, none⟩ : Addr).add 3) (.int .i64 0) fun h_40 =>
ldS h_40 ((⟨r_1, 0, none⟩ : Addr).add 0) fun r_41 r_41n r_41c =>
ldS h_40 ((⟨r_1, 0, none⟩ : Addr).add 1) fun r_42 r_42n r_42c =>
ldS h_40 ((⟨r_1, 0, none⟩ : Addr).add 2) fun r_43 r_43n r_43c =>
ldI h_40 ((⟨r_1, 0, none⟩ : Addr).add 3) .i64 fun r_44 =>
K (.agg #[.slice r_41 r_41n r_41c, .slice r_42 r_42n r_42c, .slice r_43 r_43n r_43c, .int .i64 r_44]) h_40))) (Kp)) ∧ (
needs (0 ≤ contexts ∧ contexts ≤ contexts ∧ contexts ≤ 9223372036854775807 ∧ ((8 : Nat) : Int) * contexts ≤ 281474976710656) <|
newC h_31 (repZ [.int .i64 0] contexts.toNat) T_int fun r_45 h_46 =>
C F_burinref4_table #[] h_46 (fun v_47 h_48 =>
∃ (r_49 : Option Addr) (r_49n : Nat) (r_49c : Nat), v_47 = .slice r_49 r_49n r_49c ∧ (
hext h_46 h_48 ∧ (
stV h_48 ((⟨r_1, 0, none⟩ : Addr).add 0) (.slice r_49 r_49n r_49c) fun h_50 =>
stV h_50 ((⟨r_1, 0, none⟩ : Addr).add 1) (.slice (some ⟨r_30, 0, none⟩) contexts.toNat contexts.toNat) fun h_51 =>
stV h_51 ((⟨r_1, 0, none⟩ : Addr).add 2) (.slice (some ⟨r_45, 0, none⟩) contexts.toNat contexts.toNat) fun h_52 =>
stV h_52 ((⟨r_1, 0, none⟩ : Addr).add 3) (.int .i64 0) fun h_53 =>
ldS h_53 ((⟨r_1, 0, none⟩ : Addr).add 0) fun r_54 r_54n r_54c =>
ldS h_53 ((⟨r_1, 0, none⟩ : Addr).add 1) fun r_55 r_55n r_55c =>
ldS h_53 ((⟨r_1, 0, none⟩ : Addr).add 2) fun r_56 r_56n r_56c =>
ldI h_53 ((⟨r_1, 0, none⟩ : Addr).add 3) .i64 fun r_57 =>
K (.agg #[.slice r_54 r_54n r_54c, .slice r_55 r_55n r_55c, .slice r_56 r_56n r_56c, .int .i64 r_57]) h_53))) (Kp))) ∧ (
needs (0 ≤ contexts ∧ contexts ≤ contexts ∧ contexts ≤ 9223372036854775807 ∧ ((8 : Nat) : Int) * contexts ≤ 281474976710656) <|
newC h_2 (repZ [.int .i64 0] contexts.toNat) T_int fun r_58 h_59 =>
(
C F_burinref4_table #[] h_59 (fun v_60 h_61 =>
∃ (r_62 : Option Addr) (r_62n : Nat) (r_62c : Nat), v_60 = .slice r_62 r_62n r_62c ∧ (
hext h_59 h_61 ∧ (
needs (0 ≤ contexts ∧ contexts ≤ contexts ∧ contexts ≤ 9223372036854775807 ∧ ((8 : Nat) : Int) * contexts ≤ 281474976710656) <|
newC h_61 (repZ [.int .i64 0] contexts.toNat) T_int fun r_63 h_64 =>
stV h_64 ((⟨r_1, 0, none⟩ : Addr).add 0) (.slice r_62 r_62n r_62c) fun h_65 =>
stV h_65 ((⟨r_1, 0, none⟩ : Addr).add 1) (.slice (some ⟨r_63, 0, none⟩) contexts.toNat contexts.toNat) fun h_66 =>
stV h_66 ((⟨r_1, 0, none⟩ : Addr).add 2) (.slice (some ⟨r_58, 0, none⟩) contexts.toNat contexts.toNat) fun h_67 =>
stV h_67 ((⟨r_1, 0, none⟩ : Addr).add 3) (.int .i64 0) fun h_68 =>
ldS h_68 ((⟨r_1, 0, none⟩ : Addr).add 0) fun r_69 r_69n r_69c =>
ldS h_68 ((⟨r_1, 0, none⟩ : Addr).add 1) fun r_70 r_70n r_70c =>
ldS h_68 ((⟨r_1, 0, none⟩ : Addr).add 2) fun r_71 r_71n r_71c =>
ldI h_68 ((⟨r_1, 0, none⟩ : Addr).add 3) .i64 fun r_72 =>
K (.agg #[.slice r_69 r_69n r_69c, .slice r_70 r_70n r_70c, .slice r_71 r_71n r_71c, .int .i64 r_72]) h_68))) (Kp)) ∧ (
needs (0 ≤ contexts ∧ contexts ≤ contexts ∧ contexts ≤ 9223372036854775807 ∧ ((8 : Nat) : Int) * contexts ≤ 281474976710656) <|
newC h_59 (repZ [.int .i64 0] contexts.toNat) T_int fun r_73 h_74 =>
C F_burinref4_table #[] h_74 (fun v_75 h_76 =>
∃ (r_77 : Option Addr) (r_77n : Nat) (r_77c : Nat), v_75 = .slice r_77 r_77n r_77c ∧ (
hext h_74 h_76 ∧ (
stV h_76 ((⟨r_1, 0, none⟩ : Addr).add 0) (.slice r_77 r_77n r_77c) fun h_78 =>
stV h_78 ((⟨r_1, 0, none⟩ : Addr).add 1) (.slice (some ⟨r_73, 0, none⟩) contexts.toNat contexts.toNat) fun h_79 =>
stV h_79 ((⟨r_1, 0, none⟩ : Addr).add 2) (.slice (some ⟨r_58, 0, none⟩) contexts.toNat contexts.toNat) fun h_80 =>
stV h_80 ((⟨r_1, 0, none⟩ : Addr).add 3) (.int .i64 0) fun h_81 =>
ldS h_81 ((⟨r_1, 0, none⟩ : Addr).add 0) fun r_82 r_82n r_82c =>
ldS h_81 ((⟨r_1, 0, none⟩ : Addr).add 1) fun r_83 r_83n r_83c =>
ldS h_81 ((⟨r_1, 0, none⟩ : Addr).add 2) fun r_84 r_84n r_84c =>
ldI h_81 ((⟨r_1, 0, none⟩ : Addr).add 3) .i64 fun r_85 =>
K (.agg #[.slice r_82 r_82n r_82c, .slice r_83 r_83n r_83c, .slice r_84 r_84n r_84c, .int .i64 r_85]) h_81))) (Kp))))

/- (*burin/burinref4.Coder).Put -/
set_option maxRecDepth 100000 in
def burinref4_Coder_Put (C : CallP) (a0 : Option Addr) (a1 : Int) (a2 : Int) (h : Heap) (K : Value → Heap → Prop) (Kp : List PanicEntry → Heap → Prop) : Prop :=
ptr a0 fun a_1 =>
ldB h (a_1.add 8) fun x_2 =>
bcase x_2 (
K (.int .i64 43) h) <|
∃ K_3 : List Value → Heap → Prop, (
bcase (a2 != (0 : Int)) (
bcase (a2 != (1 : Int)) (
K (.int .i64 42) h) <|
K_3 [] h) <|
K_3 [] h) ∧ ∀ (h_4 : Heap) (u_5 : Nat → Value) , K_3 [] h_4 → (
ptr a0 fun a_6 =>
ldI h_4 ((a_6.add 0).add 3) .i64 fun x_7 =>
bcase (x_7 == (16777216 : Int)) (
K (.int .i64 41) h_4) <|
ptr a0 fun a_8 =>
ldI h_4 ((a_8.add 0).add 3) .i64 fun x_9 =>
bindI (IntKind.i64.wrap (x_9 + (1 : Int))) fun z_10 =>
ptr a0 fun a_11 =>
stV h_4 ((a_11.add 0).add 3) (.int .i64 z_10) fun h_12 =>
ptr a0 fun a_13 =>
C F_burinref4_side_Index #[.pointer (some (a_13.add 0)), .int .i64 a1] h_12 (fun v_14 h_15 =>
∃ (r_16 : Int), v_14 = .int .i64 r_16 ∧ (
ptr a0 fun a_17 =>
ptr a0 fun a_18 =>
ldS h_15 ((a_17.add 0).add 0) fun x_19 x_19n x_19c =>
ldS h_15 ((a_18.add 0).add 1) fun x_20 x_20n x_20c =>
needs (0 ≤ r_16 ∧ r_16 < (x_20n : Int)) <|
ptr x_20 fun a_21 =>
ldI h_15 (a_21.add (r_16.toNat * 1)) .i64 fun x_22 =>
needs (0 ≤ x_22 ∧ x_22 < (x_19n : Int)) <|
ptr x_19 fun a_23 =>
ldI h_15 ((a_23.add (x_22.toNat * 4)).add 0) .i64 fun x_24 =>
ptr a0 fun a_25 =>
ldI h_15 (a_25.add 4) .i64 fun x_26 =>
bindI (IntKind.i64.wrap (x_26 - x_24)) fun z_27 =>
ptr a0 fun a_28 =>
stV h_15 (a_28.add 4) (.int .i64 z_27) fun h_29 =>
ptr a0 fun a_30 =>
ldS h_29 ((a_30.add 0).add 2) fun x_31 x_31n x_31c =>
needs (0 ≤ r_16 ∧ r_16 < (x_31n : Int)) <|
ptr x_31 fun a_32 =>
ldI h_29 (a_32.add (r_16.toNat * 1)) .i64 fun x_33 =>
bcase (a2 == x_33) (
ptr a0 fun a_34 =>
ldI h_29 (a_34.add 4) .i64 fun x_35 =>
bcase (decide (x_35 ≥ (32768 : Int))) (
ptr a0 fun a_36 =>
ldI h_29 (a_36.add 5) .i64 fun x_37 =>
bindI (IntKind.i64.wrap (x_37 + x_24)) fun z_38 =>
ptr a0 fun a_39 =>
stV h_29 (a_39.add 5) (.int .i64 z_38) fun h_40 =>
K (.int .i64 0) h_40) <|
ptr a0 fun a_41 =>
ldI h_29 (a_41.add 4) .i64 fun x_42 =>
bcase (decide (x_42 < x_24)) (
ptr a0 fun a_43 =>
stV h_29 (a_43.add 4) (.int .i64 x_24) fun h_44 =>
ptr a0 fun a_45 =>
C F_burinref4_side_likely #[.pointer (some (a_45.add 0)), .int .i64 r_16] h_44 (fun v_46 h_47 =>
C F_burinref4_Coder_renew #[.pointer a0] h_47 (fun v_48 h_49 =>
K (.int .i64 0) h_49) (Kp)) (Kp)) <|
ptr a0 fun a_50 =>
ldI h_29 (a_50.add 5) .i64 fun x_51 =>
bindI (IntKind.i64.wrap (x_51 + x_24)) fun z_52 =>
ptr a0 fun a_53 =>
stV h_29 (a_53.add 5) (.int .i64 z_52) fun h_54 =>
ptr a0 fun a_55 =>
C F_burinref4_side_likely #[.pointer (some (a_55.add 0)), .int .i64 r_16] h_54 (fun v_56 h_57 =>
C F_burinref4_Coder_renew #[.pointer a0] h_57 (fun v_58 h_59 =>
K (.int .i64 0) h_59) (Kp)) (Kp)) <|
ptr a0 fun a_60 =>
ldI h_29 (a_60.add 4) .i64 fun x_61 =>
bcase (decide (x_61 < x_24)) (
ptr a0 fun a_62 =>
ldI h_29 (a_62.add 5) .i64 fun x_63 =>
bindI (IntKind.i64.wrap (x_63 + x_24)) fun z_64 =>
ptr a0 fun a_65 =>
stV h_29 (a_65.add 5) (.int .i64 z_64) fun h_66 =>
ptr a0 fun a_67 =>
C F_burinref4_side_other #[.pointer (some (a_67.add 0)), .int .i64 r_16] h_66 (fun v_68 h_69 =>
C F_burinref4_Coder_renew #[.pointer a0] h_69 (fun v_70 h_71 =>
K (.int .i64 0) h_71) (Kp)) (Kp)) <|
ptr a0 fun a_72 =>
stV h_29 (a_72.add 4) (.int .i64 x_24) fun h_73 =>
ptr a0 fun a_74 =>
C F_burinref4_side_other #[.pointer (some (a_74.add 0)), .int .i64 r_16] h_73 (fun v_75 h_76 =>
C F_burinref4_Coder_renew #[.pointer a0] h_76 (fun v_77 h_78 =>
K (.int .i64 0) h_78) (Kp)) (Kp))) (Kp))

/- (*burin/burinref4.Coder).out -/
set_option maxRecDepth 100000 in
def burinref4_Coder_out (C : CallP) (a0 : Option Addr) (h : Heap) (K : Value → Heap → Prop) (Kp : List PanicEntry → Heap → Prop) : Prop :=
ptr a0 fun a_1 =>
ldS h (a_1.add 7) fun x_2 x_2n x_2c =>
bindI (IntKind.i64.wrap ((x_2n : Int) - (1 : Int))) fun z_3 =>
ptr a0 fun a_4 =>
ldS h (a_4.add 7) fun x_5 x_5n x_5c =>
needs (0 ≤ z_3 ∧ z_3 < (x_5n : Int)) <|
ptr x_5 fun a_6 =>
ldI h (a_6.add (z_3.toNat * 1)) .u8 fun x_7 =>
∃ K_8 : List Value → Heap → Prop, (
∃ K_11 : List Value → Heap → Prop, (
bcase (!(x_7 == (255 : Int))) (
ptr a0 fun a_14 =>
ldI h (a_14.add 5) .i64 fun x_15 =>
K_11 [.bool (decide (x_15 ≥ (134217728 : Int)))] h) <|
K_11 [.bool false] h) ∧ ∀ (h_12 : Heap) (u_13 : Nat → Value) (x_16 : Bool), K_11 [.bool x_16] h_12 → (
bcase x_16 (
ptr a0 fun a_17 =>
ldS h_12 (a_17.add 7) fun x_18 x_18n x_18c =>
needs (0 ≤ z_3 ∧ z_3 < (x_18n : Int)) <|
ptr x_18 fun a_19 =>
ldI h_12 (a_19.add (z_3.toNat * 1)) .u8 fun x_20 =>
bindI (IntKind.u8.wrap (x_20 + (1 : Int))) fun z_21 =>
needs (0 ≤ z_3 ∧ z_3 < (x_18n : Int)) <|
ptr x_18 fun a_22 =>
stV h_12 (a_22.add (z_3.toNat * 1)) (.int .u8 z_21) fun h_23 =>
ptr a0 fun a_24 =>
ldI h_23 (a_24.add 5) .i64 fun x_25 =>
bindI (bitI .and .i64 x_25 (134217727 : Int)) fun z_26 =>
ptr a0 fun a_27 =>
stV h_23 (a_27.add 5) (.int .i64 z_26) fun h_28 =>
ptr a0 fun a_29 =>
ldS h_28 (a_29.add 7) fun x_30 x_30n x_30c =>
needs (0 ≤ z_3 ∧ z_3 < (x_30n : Int)) <|
ptr x_30 fun a_31 =>
ldI h_28 (a_31.add (z_3.toNat * 1)) .u8 fun x_32 =>
K_8 [.bool (x_32 == (255 : Int))] h_28) <|
K_8 [.bool (x_7 == (255 : Int))] h_12)) ∧ ∀ (h_9 : Heap) (u_10 : Nat → Value) (x_33 : Bool), K_8 [.bool x_33] h_9 → (
bcase x_33 (
ptr a0 fun a_34 =>
ptr a0 fun a_35 =>
ldS h_9 (a_34.add 7) fun x_36 x_36n x_36c =>
ldI h_9 (a_35.add 5) .i64 fun x_37 =>
bindI (shrI .i64 x_37 (20 : Int)) fun z_38 =>
bindI (IntKind.u8.wrap z_38) fun z_39 =>
newC h_9 [.int .u8 z_39] T_uint8 fun r_40 h_41 =>
appC h_41 T_uint8 1 1 [.int .u8 0] x_36 (x_36n) (x_36c) (some ⟨r_40, 0, none⟩) (1) fun q_42 q_42n q_42c h_43 =>
ptr a0 fun a_44 =>
stV h_43 (a_44.add 7) (.slice q_42 q_42n q_42c) fun h_45 =>
ptr a0 fun a_46 =>
ldI h_45 (a_46.add 5) .i64 fun x_47 =>
bindI (bitI .and .i64 x_47 (1048575 : Int)) fun z_48 =>
ptr a0 fun a_49 =>
stV h_45 (a_49.add 5) (.int .i64 z_48) fun h_50 =>
ptr a0 fun a_51 =>
stV h_50 (a_51.add 6) (.int .i64 7) fun h_52 =>
K (.tuple #[]) h_52) <|
ptr a0 fun a_53 =>
ptr a0 fun a_54 =>
ldS h_9 (a_53.add 7) fun x_55 x_55n x_55c =>
ldI h_9 (a_54.add 5) .i64 fun x_56 =>
bindI (shrI .i64 x_56 (19 : Int)) fun z_57 =>
bindI (IntKind.u8.wrap z_57) fun z_58 =>
newC h_9 [.int .u8 z_58] T_uint8 fun r_59 h_60 =>
appC h_60 T_uint8 1 1 [.int .u8 0] x_55 (x_55n) (x_55c) (some ⟨r_59, 0, none⟩) (1) fun q_61 q_61n q_61c h_62 =>
ptr a0 fun a_63 =>
stV h_62 (a_63.add 7) (.slice q_61 q_61n q_61c) fun h_64 =>
ptr a0 fun a_65 =>
ldI h_64 (a_65.add 5) .i64 fun x_66 =>
bindI (bitI .and .i64 x_66 (524287 : Int)) fun z_67 =>
ptr a0 fun a_68 =>
stV h_64 (a_68.add 5) (.int .i64 z_67) fun h_69 =>
ptr a0 fun a_70 =>
stV h_69 (a_70.add 6) (.int .i64 8) fun h_71 =>
K (.tuple #[]) h_71)

/- (*burin/burinref4.Decoder).byte -/
set_option maxRecDepth 100000 in
def burinref4_Decoder_byte (C : CallP) (d : Option Addr) (atv : Int) (h : Heap) (K : Value → Heap → Prop) (Kp : List PanicEntry → Heap → Prop) : Prop :=
ptr d fun a_1 =>
ldS h (a_1.add 7) fun x_2 x_2n x_2c =>
bcase (decide (atv < (x_2n : Int))) (
ptr d fun a_3 =>
ldS h (a_3.add 7) fun x_4 x_4n x_4c =>
needs (0 ≤ atv ∧ atv < (x_4n : Int)) <|
ptr x_4 fun a_5 =>
ldI h (a_5.add (atv.toNat * 1)) .u8 fun x_6 =>
bindI (IntKind.i64.wrap x_6) fun z_7 =>
K (.int .i64 z_7) h) <|
K (.int .i64 255) h

/- (*burin/burinref4.Decoder).in -/
set_option maxRecDepth 100000 in
def burinref4_Decoder_in (C : CallP) (a0 : Option Addr) (h : Heap) (K : Value → Heap → Prop) (Kp : List PanicEntry → Heap → Prop) : Prop :=
ptr a0 fun a_1 =>
ldI h (a_1.add 8) .i64 fun x_2 =>
C F_burinref4_Decoder_byte #[.pointer a0, .int .i64 x_2] h (fun v_3 h_4 =>
∃ (r_5 : Int), v_3 = .int .i64 r_5 ∧ (
bcase (r_5 == (255 : Int)) (
ptr a0 fun a_6 =>
ldI h_4 (a_6.add 8) .i64 fun x_7 =>
bindI (IntKind.i64.wrap (x_7 + (1 : Int))) fun z_8 =>
C F_burinref4_Decoder_byte #[.pointer a0, .int .i64 z_8] h_4 (fun v_9 h_10 =>
∃ (r_11 : Int), v_9 = .int .i64 r_11 ∧ (
bcase (decide (r_11 > (143 : Int))) (
ptr a0 fun a_12 =>
ldI h_10 (a_12.add 5) .i64 fun x_13 =>
bindI (IntKind.i64.wrap (x_13 + (65280 : Int))) fun z_14 =>
ptr a0 fun a_15 =>
stV h_10 (a_15.add 5) (.int .i64 z_14) fun h_16 =>
ptr a0 fun a_17 =>
stV h_16 (a_17.add 6) (.int .i64 8) fun h_18 =>
ptr a0 fun a_19 =>
ldI h_18 (a_19.add 5) .i64 fun x_20 =>
bindI (bitI .and .i64 x_20 (4294967295 : Int)) fun z_21 =>
ptr a0 fun a_22 =>
stV h_18 (a_22.add 5) (.int .i64 z_21) fun h_23 =>
K (.tuple #[]) h_23) <|
ptr a0 fun a_24 =>
ldI h_10 (a_24.add 8) .i64 fun x_25 =>
bindI (IntKind.i64.wrap (x_25 + (1 : Int))) fun z_26 =>
ptr a0 fun a_27 =>
stV h_10 (a_27.add 8) (.int .i64 z_26) fun h_28 =>
ptr a0 fun a_29 =>
ldI h_28 (a_29.add 5) .i64 fun x_30 =>
bindI (shlI .i64 r_11 (9 : Int)) fun z_31 =>
bindI (IntKind.i64.wrap (x_30 + z_31)) fun z_32 =>
ptr a0 fun a_33 =>
stV h_28 (a_33.add 5) (.int .i64 z_32) fun h_34 =>
ptr a0 fun a_35 =>
stV h_34 (a_35.add 6) (.int .i64 7) fun h_36 =>
ptr a0 fun a_37 =>
ldI h_36 (a_37.add 5) .i64 fun x_38 =>
bindI (bitI .and .i64 x_38 (4294967295 : Int)) fun z_39 =>
ptr a0 fun a_40 =>
stV h_36 (a_40.add 5) (.int .i64 z_39) fun h_41 =>
K (.tuple #[]) h_41)) (Kp)) <|
ptr a0 fun a_42 =>
ldI h_4 (a_42.add 8) .i64 fun x_43 =>
bindI (IntKind.i64.wrap (x_43 + (1 : Int))) fun z_44 =>
ptr a0 fun a_45 =>
stV h_4 (a_45.add 8) (.int .i64 z_44) fun h_46 =>
ptr a0 fun a_47 =>
ptr a0 fun a_48 =>
ldI h_46 (a_47.add 5) .i64 fun x_49 =>
ldI h_46 (a_48.add 8) .i64 fun x_50 =>
C F_burinref4_Decoder_byte #[.pointer a0, .int .i64 x_50] h_46 (fun v_51 h_52 =>
∃ (r_53 : Int), v_51 = .int .i64 r_53 ∧ (
hext h_46 h_52 ∧ (
bindI (shlI .i64 r_53 (8 : Int)) fun z_54 =>
bindI (IntKind.i64.wrap (x_49 + z_54)) fun z_55 =>
ptr a0 fun a_56 =>
stV h_52 (a_56.add 5) (.int .i64 z_55) fun h_57 =>
ptr a0 fun a_58 =>
stV h_57 (a_58.add 6) (.int .i64 8) fun h_59 =>
ptr a0 fun a_60 =>
ldI h_59 (a_60.add 5) .i64 fun x_61 =>
bindI (bitI .and .i64 x_61 (4294967295 : Int)) fun z_62 =>
ptr a0 fun a_63 =>
stV h_59 (a_63.add 5) (.int .i64 z_62) fun h_64 =>
K (.tuple #[]) h_64))) (Kp))) (Kp)

/- burin/burinref4.table -/
set_option maxRecDepth 100000 in
def burinref4_table (C : CallP)  (h : Heap) (K : Value → Heap → Prop) (Kp : List PanicEntry → Heap → Prop) : Prop :=
∃ J_1 : Nat → List Value → Heap → Prop, (∃ n_3, J_1 n_3 [.slice none 0 0, .int .i64 0] h) ∧ ∀ (n_3 : Nat) (h_4 : Heap) (u_5 : Nat → Value) (t_6 : Option Addr) (t_6n : Nat) (t_6c : Nat) (i_7 : Int), J_1 n_3 [.slice t_6 t_6n t_6c, .int .i64 i_7] h_4 → (
bcase (decide (i_7 < (47 : Int))) (
C F_burinref4_row #[.int .i64 i_7] h_4 (fun v_8 h_9 =>
∃ (r_10 : Int) (r_11 : Int) (r_12 : Int) (r_13 : Bool), v_8 = .agg #[.int .i64 r_10, .int .i64 r_11, .int .i64 r_12, .bool r_13] ∧ (
newC h_9 [.int .i64 r_10, .int .i64 r_11, .int .i64 r_12, .bool r_13] T_burinref4_Row fun r_14 h_15 =>
appC h_15 T_burinref4_Row 4 32 [.int .i64 0, .int .i64 0, .int .i64 0, .bool false] t_6 (t_6n) (t_6c) (some ⟨r_14, 0, none⟩) (1) fun q_16 q_16n q_16c h_17 =>
bindI (IntKind.i64.wrap (i_7 + (1 : Int))) fun z_18 =>
∃ m_2, m_2 < n_3 ∧ J_1 m_2 [.slice q_16 q_16n q_16c, .int .i64 z_18] h_17)) (Kp)) <|
K (.slice t_6 t_6n t_6c) h_4)

/- (*burin/burinref4.side).Index -/
set_option maxRecDepth 100000 in
def burinref4_side_Index (C : CallP) (s : Option Addr) (context : Int) (h : Heap) (K : Value → Heap → Prop) (Kp : List PanicEntry → Heap → Prop) : Prop :=
ptr s fun a_1 =>
ldS h (a_1.add 1) fun x_2 x_2n x_2c =>
needs (IntKind.i64 = IntKind.i64 ∧ (x_2n : Int) ≠ 0) <|
bindI (context.tmod (x_2n : Int)) fun z_3 =>
bcase (decide (z_3 < (0 : Int))) (
ptr s fun a_4 =>
ldS h (a_4.add 1) fun x_5 x_5n x_5c =>
bindI (IntKind.i64.wrap (z_3 + (x_5n : Int))) fun z_6 =>
K (.int .i64 z_6) h) <|
K (.int .i64 z_3) h

/- (*burin/burinref4.side).likely -/
set_option maxRecDepth 100000 in
def burinref4_side_likely (C : CallP) (s : Option Addr) (k : Int) (h : Heap) (K : Value → Heap → Prop) (Kp : List PanicEntry → Heap → Prop) : Prop :=
ptr s fun a_1 =>
ptr s fun a_2 =>
ptr s fun a_3 =>
ldS h (a_1.add 1) fun x_4 x_4n x_4c =>
ldS h (a_2.add 0) fun x_5 x_5n x_5c =>
ldS h (a_3.add 1) fun x_6 x_6n x_6c =>
needs (0 ≤ k ∧ k < (x_6n : Int)) <|
ptr x_6 fun a_7 =>
ldI h (a_7.add (k.toNat * 1)) .i64 fun x_8 =>
needs (0 ≤ x_8 ∧ x_8 < (x_5n : Int)) <|
ptr x_5 fun a_9 =>
ldI h ((a_9.add (x_8.toNat * 4)).add 1) .i64 fun x_10 =>
needs (0 ≤ k ∧ k < (x_4n : Int)) <|
ptr x_4 fun a_11 =>
stV h (a_11.add (k.toNat * 1)) (.int .i64 x_10) fun h_12 =>
K (.tuple #[]) h_12

/- (*burin/burinref4.side).other -/
set_option maxRecDepth 100000 in
def burinref4_side_other (C : CallP) (s : Option Addr) (k : Int) (h : Heap) (K : Value → Heap → Prop) (Kp : List PanicEntry → Heap → Prop) : Prop :=
ptr s fun a_1 =>
ptr s fun a_2 =>
ldS h (a_1.add 0) fun x_3 x_3n x_3c =>
ldS h (a_2.add 1) fun x_4 x_4n x_4c =>
needs (0 ≤ k ∧ k < (x_4n : Int)) <|
ptr x_4 fun a_5 =>
ldI h (a_5.add (k.toNat * 1)) .i64 fun x_6 =>
needs (0 ≤ x_6 ∧ x_6 < (x_3n : Int)) <|
ptr x_3 fun a_7 =>
ldI h ((a_7.add (x_6.toNat * 4)).add 0) .i64 fun x_8 =>
ldI h ((a_7.add (x_6.toNat * 4)).add 1) .i64 fun x_9 =>
ldI h ((a_7.add (x_6.toNat * 4)).add 2) .i64 fun x_10 =>
ldB h ((a_7.add (x_6.toNat * 4)).add 3) fun x_11 =>
newC h [.int .i64 0, .int .i64 0, .int .i64 0, .bool false] T_burinref4_Row fun r_12 h_13 =>
stV h_13 ((⟨r_12, 0, none⟩ : Addr).add 0) (.int .i64 x_8) fun h_14 =>
stV h_14 ((⟨r_12, 0, none⟩ : Addr).add 1) (.int .i64 x_9) fun h_15 =>
stV h_15 ((⟨r_12, 0, none⟩ : Addr).add 2) (.int .i64 x_10) fun h_16 =>
stV h_16 ((⟨r_12, 0, none⟩ : Addr).add 3) (.bool x_11) fun h_17 =>
ldB h_17 ((⟨r_12, 0, none⟩ : Addr).add 3) fun x_18 =>
bcase x_18 (
ptr s fun a_19 =>
ptr s fun a_20 =>
ldS h_17 (a_19.add 2) fun x_21 x_21n x_21c =>
ldS h_17 (a_20.add 2) fun x_22 x_22n x_22c =>
needs (0 ≤ k ∧ k < (x_22n : Int)) <|
ptr x_22 fun a_23 =>
ldI h_17 (a_23.add (k.toNat * 1)) .i64 fun x_24 =>
bindI (IntKind.i64.wrap ((1 : Int) - x_24)) fun z_25 =>
needs (0 ≤ k ∧ k < (x_21n : Int)) <|
ptr x_21 fun a_26 =>
stV h_17 (a_26.add (k.toNat * 1)) (.int .i64 z_25) fun h_27 =>
ptr s fun a_28 =>
ldS h_27 (a_28.add 1) fun x_29 x_29n x_29c =>
ldI h_27 ((⟨r_12, 0, none⟩ : Addr).add 2) .i64 fun x_30 =>
needs (0 ≤ k ∧ k < (x_29n : Int)) <|
ptr x_29 fun a_31 =>
stV h_27 (a_31.add (k.toNat * 1)) (.int .i64 x_30) fun h_32 =>
K (.tuple #[]) h_32) <|
ptr s fun a_33 =>
ldS h_17 (a_33.add 1) fun x_34 x_34n x_34c =>
ldI h_17 ((⟨r_12, 0, none⟩ : Addr).add 2) .i64 fun x_35 =>
needs (0 ≤ k ∧ k < (x_34n : Int)) <|
ptr x_34 fun a_36 =>
stV h_17 (a_36.add (k.toNat * 1)) (.int .i64 x_35) fun h_37 =>
K (.tuple #[]) h_37

/- (*burin/burinref4.Coder).renew -/
set_option maxRecDepth 100000 in
def burinref4_Coder_renew (C : CallP) (c : Option Addr) (h : Heap) (K : Value → Heap → Prop) (Kp : List PanicEntry → Heap → Prop) : Prop :=
∃ J_1 : Nat → List Value → Heap → Prop, (∃ n_3, J_1 n_3 [.bool true] h) ∧ ∀ (n_3 : Nat) (h_4 : Heap) (u_5 : Nat → Value) (first_6 : Bool), J_1 n_3 [.bool first_6] h_4 → (
∃ K_7 : List Value → Heap → Prop, (
bcase first_6 (
K_7 [] h_4) <|
ptr c fun a_10 =>
ldI h_4 (a_10.add 4) .i64 fun x_11 =>
bcase (decide (x_11 < (32768 : Int))) (
K_7 [] h_4) <|
K (.tuple #[]) h_4) ∧ ∀ (h_8 : Heap) (u_9 : Nat → Value) , K_7 [] h_8 → (
ptr c fun a_12 =>
ldI h_8 (a_12.add 4) .i64 fun x_13 =>
bindI (IntKind.i64.wrap ((2 : Int) * x_13)) fun z_14 =>
ptr c fun a_15 =>
stV h_8 (a_15.add 4) (.int .i64 z_14) fun h_16 =>
ptr c fun a_17 =>
ldI h_16 (a_17.add 5) .i64 fun x_18 =>
bindI (IntKind.i64.wrap ((2 : Int) * x_18)) fun z_19 =>
bindI (bitI .and .i64 z_19 (4294967295 : Int)) fun z_20 =>
ptr c fun a_21 =>
stV h_16 (a_21.add 5) (.int .i64 z_20) fun h_22 =>
ptr c fun a_23 =>
ldI h_22 (a_23.add 6) .i64 fun x_24 =>
bindI (IntKind.i64.wrap (x_24 - (1 : Int))) fun z_25 =>
ptr c fun a_26 =>
stV h_22 (a_26.add 6) (.int .i64 z_25) fun h_27 =>
ptr c fun a_28 =>
ldI h_27 (a_28.add 6) .i64 fun x_29 =>
bcase (x_29 == (0 : Int)) (
C F_burinref4_Coder_out #[.pointer c] h_27 (fun v_30 h_31 =>
∃ m_2, m_2 < n_3 ∧ J_1 m_2 [.bool false] h_31) (Kp)) <|
∃ m_2, m_2 < n_3 ∧ J_1 m_2 [.bool false] h_27))

/- (*burin/burinref4.Decoder).Get -/
set_option maxRecDepth 100000 in
def burinref4_Decoder_Get (C : CallP) (a0 : Option Addr) (a1 : Int) (h : Heap) (K : Value → Heap → Prop) (Kp : List PanicEntry → Heap → Prop) : Prop :=
ptr a0 fun a_1 =>
ldI h ((a_1.add 0).add 3) .i64 fun x_2 =>
bcase (x_2 == (16777216 : Int)) (
K (.tuple #[.int .i64 0, .int .i64 41]) h) <|
ptr a0 fun a_3 =>
ldI h ((a_3.add 0).add 3) .i64 fun x_4 =>
bindI (IntKind.i64.wrap (x_4 + (1 : Int))) fun z_5 =>
ptr a0 fun a_6 =>
stV h ((a_6.add 0).add 3) (.int .i64 z_5) fun h_7 =>
ptr a0 fun a_8 =>
C F_burinref4_side_Index #[.pointer (some (a_8.add 0)), .int .i64 a1] h_7 (fun v_9 h_10 =>
∃ (r_11 : Int), v_9 = .int .i64 r_11 ∧ (
ptr a0 fun a_12 =>
ptr a0 fun a_13 =>
ldS h_10 ((a_12.add 0).add 0) fun x_14 x_14n x_14c =>
ldS h_10 ((a_13.add 0).add 1) fun x_15 x_15n x_15c =>
needs (0 ≤ r_11 ∧ r_11 < (x_15n : Int)) <|
ptr x_15 fun a_16 =>
ldI h_10 (a_16.add (r_11.toNat * 1)) .i64 fun x_17 =>
needs (0 ≤ x_17 ∧ x_17 < (x_14n : Int)) <|
ptr x_14 fun a_18 =>
ldI h_10 ((a_18.add (x_17.toNat * 4)).add 0) .i64 fun x_19 =>
ptr a0 fun a_20 =>
ldS h_10 ((a_20.add 0).add 2) fun x_21 x_21n x_21c =>
needs (0 ≤ r_11 ∧ r_11 < (x_21n : Int)) <|
ptr x_21 fun a_22 =>
ldI h_10 (a_22.add (r_11.toNat * 1)) .i64 fun x_23 =>
ptr a0 fun a_24 =>
ldI h_10 (a_24.add 4) .i64 fun x_25 =>
bindI (IntKind.i64.wrap (x_25 - x_19)) fun z_26 =>
ptr a0 fun a_27 =>
stV h_10 (a_27.add 4) (.int .i64 z_26) fun h_28 =>
ptr a0 fun a_29 =>
ldI h_28 (a_29.add 5) .i64 fun x_30 =>
bindI (shrI .i64 x_30 (16 : Int)) fun z_31 =>
bcase (decide (z_31 < x_19)) (
∃ K_32 : List Value → Heap → Prop, (
ptr a0 fun a_35 =>
ldI h_28 (a_35.add 4) .i64 fun x_36 =>
bcase (decide (x_36 < x_19)) (
ptr a0 fun a_37 =>
C F_burinref4_side_likely #[.pointer (some (a_37.add 0)), .int .i64 r_11] h_28 (fun v_38 h_39 =>
K_32 [.int .i64 x_23] h_39) (Kp)) <|
bindI (IntKind.i64.wrap ((1 : Int) - x_23)) fun z_40 =>
ptr a0 fun a_41 =>
C F_burinref4_side_other #[.pointer (some (a_41.add 0)), .int .i64 r_11] h_28 (fun v_42 h_43 =>
K_32 [.int .i64 z_40] h_43) (Kp)) ∧ ∀ (h_33 : Heap) (u_34 : Nat → Value) (x_44 : Int), K_32 [.int .i64 x_44] h_33 → (
ptr a0 fun a_45 =>
stV h_33 (a_45.add 4) (.int .i64 x_19) fun h_46 =>
C F_burinref4_Decoder_renew #[.pointer a0] h_46 (fun v_47 h_48 =>
K (.tuple #[.int .i64 x_44, .int .i64 0]) h_48) (Kp))) <|
ptr a0 fun a_49 =>
ldI h_28 (a_49.add 5) .i64 fun x_50 =>
bindI (shlI .i64 x_19 (16 : Int)) fun z_51 =>
bindI (IntKind.i64.wrap (x_50 - z_51)) fun z_52 =>
ptr a0 fun a_53 =>
stV h_28 (a_53.add 5) (.int .i64 z_52) fun h_54 =>
ptr a0 fun a_55 =>
ldI h_54 (a_55.add 4) .i64 fun x_56 =>
bcase (decide (x_56 ≥ (32768 : Int))) (
K (.tuple #[.int .i64 x_23, .int .i64 0]) h_54) <|
ptr a0 fun a_57 =>
ldI h_54 (a_57.add 4) .i64 fun x_58 =>
bcase (decide (x_58 < x_19)) (
bindI (IntKind.i64.wrap ((1 : Int) - x_23)) fun z_59 =>
ptr a0 fun a_60 =>
C F_burinref4_side_other #[.pointer (some (a_60.add 0)), .int .i64 r_11] h_54 (fun v_61 h_62 =>
C F_burinref4_Decoder_renew #[.pointer a0] h_62 (fun v_63 h_64 =>
K (.tuple #[.int .i64 z_59, .int .i64 0]) h_64) (Kp)) (Kp)) <|
ptr a0 fun a_65 =>
C F_burinref4_side_likely #[.pointer (some (a_65.add 0)), .int .i64 r_11] h_54 (fun v_66 h_67 =>
C F_burinref4_Decoder_renew #[.pointer a0] h_67 (fun v_68 h_69 =>
K (.tuple #[.int .i64 x_23, .int .i64 0]) h_69) (Kp)) (Kp))) (Kp)

/- burin/burinref4.row -/
set_option maxRecDepth 100000 in
def burinref4_row (C : CallP) (n : Int) (h : Heap) (K : Value → Heap → Prop) (Kp : List PanicEntry → Heap → Prop) : Prop :=
newC h [.int .i64 0, .int .i64 0, .int .i64 0, .bool false] T_burinref4_Row fun r_1 h_2 =>
newC h_2 [.int .i64 22017, .int .i64 13313, .int .i64 6145, .int .i64 2753, .int .i64 1313, .int .i64 545, .int .i64 22017, .int .i64 21505, .int .i64 18433, .int .i64 14337, .int .i64 12289, .int .i64 9217, .int .i64 7169, .int .i64 5633, .int .i64 22017, .int .i64 21505, .int .i64 20737, .int .i64 18433, .int .i64 14337, .int .i64 13313, .int .i64 12289, .int .i64 10241, .int .i64 9217, .int .i64 8705, .int .i64 7169, .int .i64 6145, .int .i64 5633, .int .i64 5121, .int .i64 4609, .int .i64 4353, .int .i64 2753, .int .i64 2497, .int .i64 2209, .int .i64 1313, .int .i64 1089, .int .i64 673, .int .i64 545, .int .i64 321, .int .i64 273, .int .i64 133, .int .i64 73, .int .i64 37, .int .i64 21, .int .i64 9, .int .i64 5, .int .i64 1, .int .i64 22017] T_int fun r_3 h_4 =>
newC h_4 [.int .i64 1, .int .i64 2, .int .i64 3, .int .i64 4, .int .i64 5, .int .i64 38, .int .i64 7, .int .i64 8, .int .i64 9, .int .i64 10, .int .i64 11, .int .i64 12, .int .i64 13, .int .i64 29, .int .i64 15, .int .i64 16, .int .i64 17, .int .i64 18, .int .i64 19, .int .i64 20, .int .i64 21, .int .i64 22, .int .i64 23, .int .i64 24, .int .i64 25, .int .i64 26, .int .i64 27, .int .i64 28, .int .i64 29, .int .i64 30, .int .i64 31, .int .i64 32, .int .i64 33, .int .i64 34, .int .i64 35, .int .i64 36, .int .i64 37, .int .i64 38, .int .i64 39, .int .i64 40, .int .i64 41, .int .i64 42, .int .i64 43, .int .i64 44, .int .i64 45, .int .i64 45, .int .i64 46] T_int fun r_5 h_6 =>
newC h_6 [.int .i64 1, .int .i64 6, .int .i64 9, .int .i64 12, .int .i64 29, .int .i64 33, .int .i64 6, .int .i64 14, .int .i64 14, .int .i64 14, .int .i64 17, .int .i64 18, .int .i64 20, .int .i64 21, .int .i64 14, .int .i64 14, .int .i64 15, .int .i64 16, .int .i64 17, .int .i64 18, .int .i64 19, .int .i64 19, .int .i64 20, .int .i64 21, .int .i64 22, .int .i64 23, .int .i64 24, .int .i64 25, .int .i64 26, .int .i64 27, .int .i64 28, .int .i64 29, .int .i64 30, .int .i64 31, .int .i64 32, .int .i64 33, .int .i64 34, .int .i64 35, .int .i64 36, .int .i64 37, .int .i64 38, .int .i64 39, .int .i64 40, .int .i64 41, .int .i64 42, .int .i64 43, .int .i64 46] T_int fun r_7 h_8 =>
needs (0 ≤ n ∧ n < ((47 : Nat) : Int)) <|
needs (0 ≤ n ∧ n < ((47 : Nat) : Int)) <|
needs (0 ≤ n ∧ n < ((47 : Nat) : Int)) <|
bcase (n == (0 : Int)) (
ldI h_8 ((⟨r_3, 0, none⟩ : Addr).add (n.toNat * 1)) .i64 fun x_9 =>
ldI h_8 ((⟨r_5, 0, none⟩ : Addr).add (n.toNat * 1)) .i64 fun x_10 =>
ldI h_8 ((⟨r_7, 0, none⟩ : Addr).add (n.toNat * 1)) .i64 fun x_11 =>
stV h_8 ((⟨r_1, 0, none⟩ : Addr).add 0) (.int .i64 x_9) fun h_12 =>
stV h_12 ((⟨r_1, 0, none⟩ : Addr).add 1) (.int .i64 x_10) fun h_13 =>
stV h_13 ((⟨r_1, 0, none⟩ : Addr).add 2) (.int .i64 x_11) fun h_14 =>
stV h_14 ((⟨r_1, 0, none⟩ : Addr).add 3) (.bool true) fun h_15 =>
ldI h_15 ((⟨r_1, 0, none⟩ : Addr).add 0) .i64 fun r_16 =>
ldI h_15 ((⟨r_1, 0, none⟩ : Addr).add 1) .i64 fun r_17 =>
ldI h_15 ((⟨r_1, 0, none⟩ : Addr).add 2) .i64 fun r_18 =>
ldB h_15 ((⟨r_1, 0, none⟩ : Addr).add 3) fun r_19 =>
K (.agg #[.int .i64 r_16, .int .i64 r_17, .int .i64 r_18, .bool r_19]) h_15) <|
bcase (n == (6 : Int)) (
ldI h_8 ((⟨r_3, 0, none⟩ : Addr).add (n.toNat * 1)) .i64 fun x_20 =>
ldI h_8 ((⟨r_5, 0, none⟩ : Addr).add (n.toNat * 1)) .i64 fun x_21 =>
ldI h_8 ((⟨r_7, 0, none⟩ : Addr).add (n.toNat * 1)) .i64 fun x_22 =>
stV h_8 ((⟨r_1, 0, none⟩ : Addr).add 0) (.int .i64 x_20) fun h_23 =>
stV h_23 ((⟨r_1, 0, none⟩ : Addr).add 1) (.int .i64 x_21) fun h_24 =>
stV h_24 ((⟨r_1, 0, none⟩ : Addr).add 2) (.int .i64 x_22) fun h_25 =>
stV h_25 ((⟨r_1, 0, none⟩ : Addr).add 3) (.bool true) fun h_26 =>
ldI h_26 ((⟨r_1, 0, none⟩ : Addr).add 0) .i64 fun r_27 =>
ldI h_26 ((⟨r_1, 0, none⟩ : Addr).add 1) .i64 fun r_28 =>
ldI h_26 ((⟨r_1, 0, none⟩ : Addr).add 2) .i64 fun r_29 =>
ldB h_26 ((⟨r_1, 0, none⟩ : Addr).add 3) fun r_30 =>
K (.agg #[.int .i64 r_27, .int .i64 r_28, .int .i64 r_29, .bool r_30]) h_26) <|
ldI h_8 ((⟨r_3, 0, none⟩ : Addr).add (n.toNat * 1)) .i64 fun x_31 =>
ldI h_8 ((⟨r_5, 0, none⟩ : Addr).add (n.toNat * 1)) .i64 fun x_32 =>
ldI h_8 ((⟨r_7, 0, none⟩ : Addr).add (n.toNat * 1)) .i64 fun x_33 =>
stV h_8 ((⟨r_1, 0, none⟩ : Addr).add 0) (.int .i64 x_31) fun h_34 =>
stV h_34 ((⟨r_1, 0, none⟩ : Addr).add 1) (.int .i64 x_32) fun h_35 =>
stV h_35 ((⟨r_1, 0, none⟩ : Addr).add 2) (.int .i64 x_33) fun h_36 =>
stV h_36 ((⟨r_1, 0, none⟩ : Addr).add 3) (.bool (n == (14 : Int))) fun h_37 =>
ldI h_37 ((⟨r_1, 0, none⟩ : Addr).add 0) .i64 fun r_38 =>
ldI h_37 ((⟨r_1, 0, none⟩ : Addr).add 1) .i64 fun r_39 =>
ldI h_37 ((⟨r_1, 0, none⟩ : Addr).add 2) .i64 fun r_40 =>
ldB h_37 ((⟨r_1, 0, none⟩ : Addr).add 3) fun r_41 =>
K (.agg #[.int .i64 r_38, .int .i64 r_39, .int .i64 r_40, .bool r_41]) h_37

/- (*burin/burinref4.Decoder).renew -/
set_option maxRecDepth 100000 in
def burinref4_Decoder_renew (C : CallP) (d : Option Addr) (h : Heap) (K : Value → Heap → Prop) (Kp : List PanicEntry → Heap → Prop) : Prop :=
∃ J_1 : Nat → List Value → Heap → Prop, (∃ n_3, J_1 n_3 [.bool true] h) ∧ ∀ (n_3 : Nat) (h_4 : Heap) (u_5 : Nat → Value) (first_6 : Bool), J_1 n_3 [.bool first_6] h_4 → (
∃ K_7 : List Value → Heap → Prop, (
bcase first_6 (
K_7 [] h_4) <|
ptr d fun a_10 =>
ldI h_4 (a_10.add 4) .i64 fun x_11 =>
bcase (decide (x_11 < (32768 : Int))) (
K_7 [] h_4) <|
K (.tuple #[]) h_4) ∧ ∀ (h_8 : Heap) (u_9 : Nat → Value) , K_7 [] h_8 → (
∃ K_12 : List Value → Heap → Prop, (
ptr d fun a_15 =>
ldI h_8 (a_15.add 6) .i64 fun x_16 =>
bcase (x_16 == (0 : Int)) (
C F_burinref4_Decoder_in #[.pointer d] h_8 (fun v_17 h_18 =>
K_12 [] h_18) (Kp)) <|
K_12 [] h_8) ∧ ∀ (h_13 : Heap) (u_14 : Nat → Value) , K_12 [] h_13 → (
ptr d fun a_19 =>
ldI h_13 (a_19.add 4) .i64 fun x_20 =>
bindI (IntKind.i64.wrap ((2 : Int) * x_20)) fun z_21 =>
ptr d fun a_22 =>
stV h_13 (a_22.add 4) (.int .i64 z_21) fun h_23 =>
ptr d fun a_24 =>
ldI h_23 (a_24.add 5) .i64 fun x_25 =>
bindI (IntKind.i64.wrap ((2 : Int) * x_25)) fun z_26 =>
bindI (bitI .and .i64 z_26 (4294967295 : Int)) fun z_27 =>
ptr d fun a_28 =>
stV h_23 (a_28.add 5) (.int .i64 z_27) fun h_29 =>
ptr d fun a_30 =>
ldI h_29 (a_30.add 6) .i64 fun x_31 =>
bindI (IntKind.i64.wrap (x_31 - (1 : Int))) fun z_32 =>
ptr d fun a_33 =>
stV h_29 (a_33.add 6) (.int .i64 z_32) fun h_34 =>
∃ m_2, m_2 < n_3 ∧ J_1 m_2 [.bool false] h_34)))

end Go.Den.Yteakipgcanafoaa

/- Written by gen.py: each condition of the functions of burinref4 is the one of its body; so it is enough for its call. -/
set_option linter.unusedVariables false
set_option linter.unusedSimpArgs false
namespace Go.Den.Yteakipgcanafoaa
open Go Go.Den

noncomputable def hints_burinref4_New : Hints := Hints.mk (fun i => none)
  (fun i => none)
  (fun i => none) []
set_option maxRecDepth 100000 in
theorem eq_burinref4_New (C : CallP) (contexts : Int) (h : Heap) (K : Value → Heap → Prop) (Kp : List PanicEntry → Heap → Prop) :
    fnD Go.Proofs.Try.prog C hints_burinref4_New Go.Proofs.Try.f27 [.int .i64 contexts] h K Kp = burinref4_New C contexts h K Kp := by kernel_rfl

theorem call_burinref4_New {contexts : Int} {h : Heap} {K : Value → Heap → Prop} {Kp : List PanicEntry → Heap → Prop} (H : burinref4_New (CallsHP Go.Proofs.Try.prog) contexts h K Kp) : CallsHP Go.Proofs.Try.prog F_burinref4_New #[.int .i64 contexts] h K Kp :=
  callsHP_of hints_burinref4_New (by kernel_rfl) Go.Proofs.Try.func27 (by kernel_rfl) (by rw [eq_burinref4_New]; exact H)

noncomputable def hints_burinref4_Coder_Flush : Hints := Hints.mk (fun i => bif Nat.beq i 4 then some ([], .take 0 <| .take 1 <| .take 2 <| .take 4 <| .take 5 <| .take 6 <| .take 3 <| .take 7 <| .take 8 <| .take 9 <| .done) else (bif Nat.beq i 8 then some ([14], .take 0 <| .take 1 <| .take 2 <| .take 3 <| .take 5 <| .take 6 <| .take 7 <| .take 4 <| .take 8 <| .take 9 <| .take 10 <| .take 11 <| .take 12 <| .take 13 <| .bar 14 [] <| .done) else (bif Nat.beq i 10 then some ([14], .take 0 <| .take 1 <| .take 2 <| .take 3 <| .take 5 <| .take 6 <| .take 7 <| .take 4 <| .take 8 <| .take 9 <| .take 10 <| .take 11 <| .take 12 <| .take 13 <| .bar 14 [] <| .done) else (none))))
  (fun i => none)
  (fun i => bif Nat.beq i 8 then some ([], 35182224605184) else (bif Nat.beq i 15 then some ([(5, .int .i64)], 9898684611004583682494169120) else (none))) []
set_option maxRecDepth 100000 in
theorem eq_burinref4_Coder_Flush (C : CallP) (a0 : Option Addr) (h : Heap) (K : Value → Heap → Prop) (Kp : List PanicEntry → Heap → Prop) :
    fnD Go.Proofs.Try.prog C hints_burinref4_Coder_Flush Go.Proofs.Try.f36 [.pointer a0] h K Kp = burinref4_Coder_Flush C a0 h K Kp := by kernel_rfl

theorem call_burinref4_Coder_Flush {a0 : Option Addr} {h : Heap} {K : Value → Heap → Prop} {Kp : List PanicEntry → Heap → Prop} (H : burinref4_Coder_Flush (CallsHP Go.Proofs.Try.prog) a0 h K Kp) : CallsHP Go.Proofs.Try.prog F_burinref4_Coder_Flush #[.pointer a0] h K Kp :=
  callsHP_of hints_burinref4_Coder_Flush (by kernel_rfl) Go.Proofs.Try.func36 (by kernel_rfl) (by rw [eq_burinref4_Coder_Flush]; exact H)

noncomputable def hints_burinref4_side_States : Hints := Hints.mk (fun i => bif Nat.beq i 5 then some ([18, 19], .take 0 <| .take 1 <| .take 2 <| .take 3 <| .take 5 <| .take 9 <| .take 10 <| .take 11 <| .take 13 <| .take 4 <| .take 6 <| .take 7 <| .take 8 <| .take 12 <| .take 14 <| .take 15 <| .take 16 <| .take 17 <| .bar 18 [19] <| .bar 19 [] <| .take 20 <| .done) else (none))
  (fun i => bif Nat.beq i 3 then some ([(3, .slc), (4, .int .i64)], 17179869176) else (none))
  (fun i => none) []
set_option maxRecDepth 100000 in
theorem eq_burinref4_side_States (C : CallP) (s : Option Addr) (h : Heap) (K : Value → Heap → Prop) (Kp : List PanicEntry → Heap → Prop) :
    fnD Go.Proofs.Try.prog C hints_burinref4_side_States Go.Proofs.Try.f38 [.pointer s] h K Kp = burinref4_side_States C s h K Kp := by kernel_rfl

theorem call_burinref4_side_States {s : Option Addr} {h : Heap} {K : Value → Heap → Prop} {Kp : List PanicEntry → Heap → Prop} (H : burinref4_side_States (CallsHP Go.Proofs.Try.prog) s h K Kp) : CallsHP Go.Proofs.Try.prog F_burinref4_side_States #[.pointer s] h K Kp :=
  callsHP_of hints_burinref4_side_States (by kernel_rfl) Go.Proofs.Try.func38 (by kernel_rfl) (by rw [eq_burinref4_side_States]; exact H)

noncomputable def hints_burinref4_NewDecoder : Hints := Hints.mk (fun i => none)
  (fun i => none)
  (fun i => none) []
set_option maxRecDepth 100000 in
theorem eq_burinref4_NewDecoder (C : CallP) (b : Option Addr) (bn : Nat) (bc : Nat) (contexts : Int) (h : Heap) (K : Value → Heap → Prop) (Kp : List PanicEntry → Heap → Prop) :
    fnD Go.Proofs.Try.prog C hints_burinref4_NewDecoder Go.Proofs.Try.f63 [.slice b bn bc, .int .i64 contexts] h K Kp = burinref4_NewDecoder C b bn bc contexts h K Kp := by kernel_rfl

theorem call_burinref4_NewDecoder {b : Option Addr} {bn : Nat} {bc : Nat} {contexts : Int} {h : Heap} {K : Value → Heap → Prop} {Kp : List PanicEntry → Heap → Prop} (H : burinref4_NewDecoder (CallsHP Go.Proofs.Try.prog) b bn bc contexts h K Kp) : CallsHP Go.Proofs.Try.prog F_burinref4_NewDecoder #[.slice b bn bc, .int .i64 contexts] h K Kp :=
  callsHP_of hints_burinref4_NewDecoder (by kernel_rfl) Go.Proofs.Try.func63 (by kernel_rfl) (by rw [eq_burinref4_NewDecoder]; exact H)

noncomputable def hints_burinref4_begun : Hints := Hints.mk (fun i => bif Nat.beq i 1 then some ([6], .take 1 <| .take 3 <| .alt 0 (.alt 2 (.go 4 <| .take 5 <| .bar 6 [] <| .done) <| .go 4 <| .go 2 <| .take 5 <| .bar 6 [] <| .done) <| .alt 2 (.alt 0 (.go 4 <| .take 5 <| .bar 6 [] <| .done) <| .go 4 <| .go 0 <| .take 5 <| .bar 6 [] <| .done) <| .go 4 <| .alt 0 (.go 2 <| .take 5 <| .bar 6 [] <| .done) <| .go 2 <| .go 0 <| .take 5 <| .bar 6 [] <| .done) else (none))
  (fun i => none)
  (fun i => none) []
set_option maxRecDepth 100000 in
theorem eq_burinref4_begun (C : CallP) (contexts : Int) (h : Heap) (K : Value → Heap → Prop) (Kp : List PanicEntry → Heap → Prop) :
    fnD Go.Proofs.Try.prog C hints_burinref4_begun Go.Proofs.Try.f66 [.int .i64 contexts] h K Kp = burinref4_begun C contexts h K Kp := by kernel_rfl

theorem call_burinref4_begun {contexts : Int} {h : Heap} {K : Value → Heap → Prop} {Kp : List PanicEntry → Heap → Prop} (H : burinref4_begun (CallsHP Go.Proofs.Try.prog) contexts h K Kp) : CallsHP Go.Proofs.Try.prog F_burinref4_begun #[.int .i64 contexts] h K Kp :=
  callsHP_of hints_burinref4_begun (by kernel_rfl) Go.Proofs.Try.func66 (by kernel_rfl) (by rw [eq_burinref4_begun]; exact H)

noncomputable def hints_burinref4_Coder_Put : Hints := Hints.mk (fun i => bif Nat.beq i 9 then some ([], .take 0 <| .take 1 <| .take 2 <| .take 3 <| .take 5 <| .take 6 <| .take 7 <| .take 8 <| .take 10 <| .take 4 <| .take 9 <| .take 11 <| .take 12 <| .take 13 <| .take 14 <| .take 15 <| .take 16 <| .done) else (none))
  (fun i => none)
  (fun i => bif Nat.beq i 5 then some ([], 516160) else (none)) []
set_option maxRecDepth 100000 in
theorem eq_burinref4_Coder_Put (C : CallP) (a0 : Option Addr) (a1 : Int) (a2 : Int) (h : Heap) (K : Value → Heap → Prop) (Kp : List PanicEntry → Heap → Prop) :
    fnD Go.Proofs.Try.prog C hints_burinref4_Coder_Put Go.Proofs.Try.f70 [.pointer a0, .int .i64 a1, .int .i64 a2] h K Kp = burinref4_Coder_Put C a0 a1 a2 h K Kp := by kernel_rfl

theorem call_burinref4_Coder_Put {a0 : Option Addr} {a1 : Int} {a2 : Int} {h : Heap} {K : Value → Heap → Prop} {Kp : List PanicEntry → Heap → Prop} (H : burinref4_Coder_Put (CallsHP Go.Proofs.Try.prog) a0 a1 a2 h K Kp) : CallsHP Go.Proofs.Try.prog F_burinref4_Coder_Put #[.pointer a0, .int .i64 a1, .int .i64 a2] h K Kp :=
  callsHP_of hints_burinref4_Coder_Put (by kernel_rfl) Go.Proofs.Try.func70 (by kernel_rfl) (by rw [eq_burinref4_Coder_Put]; exact H)

noncomputable def hints_burinref4_Coder_out : Hints := Hints.mk (fun i => bif Nat.beq i 7 then some ([12, 15], .take 0 <| .take 1 <| .take 2 <| .take 3 <| .take 5 <| .take 6 <| .take 7 <| .take 4 <| .take 8 <| .take 9 <| .take 10 <| .go 11 <| .bar 12 [15] <| .take 13 <| .take 14 <| .bar 15 [] <| .done) else (bif Nat.beq i 10 then some ([12, 15], .take 0 <| .take 1 <| .take 2 <| .take 3 <| .take 5 <| .take 6 <| .take 7 <| .take 4 <| .take 8 <| .take 9 <| .take 10 <| .go 11 <| .bar 12 [15] <| .take 13 <| .take 14 <| .bar 15 [] <| .done) else (none)))
  (fun i => none)
  (fun i => bif Nat.beq i 3 then some ([(26, .bool)], 133955584) else (bif Nat.beq i 6 then some ([(3, .bool)], 4503599627108360) else (none))) []
set_option maxRecDepth 100000 in
theorem eq_burinref4_Coder_out (C : CallP) (a0 : Option Addr) (h : Heap) (K : Value → Heap → Prop) (Kp : List PanicEntry → Heap → Prop) :
    fnD Go.Proofs.Try.prog C hints_burinref4_Coder_out Go.Proofs.Try.f77 [.pointer a0] h K Kp = burinref4_Coder_out C a0 h K Kp := by kernel_rfl

theorem call_burinref4_Coder_out {a0 : Option Addr} {h : Heap} {K : Value → Heap → Prop} {Kp : List PanicEntry → Heap → Prop} (H : burinref4_Coder_out (CallsHP Go.Proofs.Try.prog) a0 h K Kp) : CallsHP Go.Proofs.Try.prog F_burinref4_Coder_out #[.pointer a0] h K Kp :=
  callsHP_of hints_burinref4_Coder_out (by kernel_rfl) Go.Proofs.Try.func77 (by kernel_rfl) (by rw [eq_burinref4_Coder_out]; exact H)

noncomputable def hints_burinref4_Decoder_byte : Hints := Hints.mk (fun i => none)
  (fun i => none)
  (fun i => none) []
set_option maxRecDepth 100000 in
theorem eq_burinref4_Decoder_byte (C : CallP) (d : Option Addr) (atv : Int) (h : Heap) (K : Value → Heap → Prop) (Kp : List PanicEntry → Heap → Prop) :
    fnD Go.Proofs.Try.prog C hints_burinref4_Decoder_byte Go.Proofs.Try.f101 [.pointer d, .int .i64 atv] h K Kp = burinref4_Decoder_byte C d atv h K Kp := by kernel_rfl

theorem call_burinref4_Decoder_byte {d : Option Addr} {atv : Int} {h : Heap} {K : Value → Heap → Prop} {Kp : List PanicEntry → Heap → Prop} (H : burinref4_Decoder_byte (CallsHP Go.Proofs.Try.prog) d atv h K Kp) : CallsHP Go.Proofs.Try.prog F_burinref4_Decoder_byte #[.pointer d, .int .i64 atv] h K Kp :=
  callsHP_of hints_burinref4_Decoder_byte (by kernel_rfl) Go.Proofs.Try.func101 (by kernel_rfl) (by rw [eq_burinref4_Decoder_byte]; exact H)

noncomputable def hints_burinref4_Decoder_in : Hints := Hints.mk (fun i => bif Nat.beq i 9 then some ([15], .take 0 <| .take 1 <| .take 2 <| .take 3 <| .take 5 <| .take 6 <| .take 7 <| .take 8 <| .take 4 <| .take 9 <| .go 10 <| .take 11 <| .take 12 <| .take 13 <| .take 14 <| .bar 15 [] <| .done) else (none))
  (fun i => none)
  (fun i => none) []
set_option maxRecDepth 100000 in
theorem eq_burinref4_Decoder_in (C : CallP) (a0 : Option Addr) (h : Heap) (K : Value → Heap → Prop) (Kp : List PanicEntry → Heap → Prop) :
    fnD Go.Proofs.Try.prog C hints_burinref4_Decoder_in Go.Proofs.Try.f102 [.pointer a0] h K Kp = burinref4_Decoder_in C a0 h K Kp := by kernel_rfl

theorem call_burinref4_Decoder_in {a0 : Option Addr} {h : Heap} {K : Value → Heap → Prop} {Kp : List PanicEntry → Heap → Prop} (H : burinref4_Decoder_in (CallsHP Go.Proofs.Try.prog) a0 h K Kp) : CallsHP Go.Proofs.Try.prog F_burinref4_Decoder_in #[.pointer a0] h K Kp :=
  callsHP_of hints_burinref4_Decoder_in (by kernel_rfl) Go.Proofs.Try.func102 (by kernel_rfl) (by rw [eq_burinref4_Decoder_in]; exact H)

noncomputable def hints_burinref4_table : Hints := Hints.mk (fun i => none)
  (fun i => bif Nat.beq i 3 then some ([(1, .slc), (2, .int .i64)], 4094) else (none))
  (fun i => none) []
set_option maxRecDepth 100000 in
theorem eq_burinref4_table (C : CallP)  (h : Heap) (K : Value → Heap → Prop) (Kp : List PanicEntry → Heap → Prop) :
    fnD Go.Proofs.Try.prog C hints_burinref4_table Go.Proofs.Try.f105 [] h K Kp = burinref4_table C  h K Kp := by kernel_rfl

theorem call_burinref4_table  {h : Heap} {K : Value → Heap → Prop} {Kp : List PanicEntry → Heap → Prop} (H : burinref4_table (CallsHP Go.Proofs.Try.prog)  h K Kp) : CallsHP Go.Proofs.Try.prog F_burinref4_table #[] h K Kp :=
  callsHP_of hints_burinref4_table (by kernel_rfl) Go.Proofs.Try.func105 (by kernel_rfl) (by rw [eq_burinref4_table]; exact H)

noncomputable def hints_burinref4_side_Index : Hints := Hints.mk (fun i => none)
  (fun i => none)
  (fun i => none) []
set_option maxRecDepth 100000 in
theorem eq_burinref4_side_Index (C : CallP) (s : Option Addr) (context : Int) (h : Heap) (K : Value → Heap → Prop) (Kp : List PanicEntry → Heap → Prop) :
    fnD Go.Proofs.Try.prog C hints_burinref4_side_Index Go.Proofs.Try.f110 [.pointer s, .int .i64 context] h K Kp = burinref4_side_Index C s context h K Kp := by kernel_rfl

theorem call_burinref4_side_Index {s : Option Addr} {context : Int} {h : Heap} {K : Value → Heap → Prop} {Kp : List PanicEntry → Heap → Prop} (H : burinref4_side_Index (CallsHP Go.Proofs.Try.prog) s context h K Kp) : CallsHP Go.Proofs.Try.prog F_burinref4_side_Index #[.pointer s, .int .i64 context] h K Kp :=
  callsHP_of hints_burinref4_side_Index (by kernel_rfl) Go.Proofs.Try.func110 (by kernel_rfl) (by rw [eq_burinref4_side_Index]; exact H)

noncomputable def hints_burinref4_side_likely : Hints := Hints.mk (fun i => bif Nat.beq i 0 then some ([20], .take 0 <| .take 1 <| .take 2 <| .take 4 <| .take 5 <| .take 6 <| .take 7 <| .take 9 <| .take 10 <| .take 11 <| .take 13 <| .take 3 <| .take 8 <| .take 12 <| .take 14 <| .take 15 <| .take 16 <| .take 17 <| .take 18 <| .take 19 <| .bar 20 [] <| .done) else (none))
  (fun i => none)
  (fun i => none) []
set_option maxRecDepth 100000 in
theorem eq_burinref4_side_likely (C : CallP) (s : Option Addr) (k : Int) (h : Heap) (K : Value → Heap → Prop) (Kp : List PanicEntry → Heap → Prop) :
    fnD Go.Proofs.Try.prog C hints_burinref4_side_likely Go.Proofs.Try.f111 [.pointer s, .int .i64 k] h K Kp = burinref4_side_likely C s k h K Kp := by kernel_rfl

theorem call_burinref4_side_likely {s : Option Addr} {k : Int} {h : Heap} {K : Value → Heap → Prop} {Kp : List PanicEntry → Heap → Prop} (H : burinref4_side_likely (CallsHP Go.Proofs.Try.prog) s k h K Kp) : CallsHP Go.Proofs.Try.prog F_burinref4_side_likely #[.pointer s, .int .i64 k] h K Kp :=
  callsHP_of hints_burinref4_side_likely (by kernel_rfl) Go.Proofs.Try.func111 (by kernel_rfl) (by rw [eq_burinref4_side_likely]; exact H)

noncomputable def hints_burinref4_side_other : Hints := Hints.mk (fun i => bif Nat.beq i 0 then some ([14], .take 0 <| .take 1 <| .take 2 <| .take 4 <| .take 5 <| .take 6 <| .take 8 <| .take 3 <| .take 7 <| .take 9 <| .take 10 <| .take 11 <| .take 12 <| .go 13 <| .bar 14 [] <| .done) else (bif Nat.beq i 2 then some ([14], .take 0 <| .take 1 <| .take 2 <| .take 4 <| .take 5 <| .take 6 <| .take 7 <| .take 9 <| .take 3 <| .take 8 <| .take 10 <| .take 11 <| .take 12 <| .take 13 <| .bar 14 [] <| .done) else (bif Nat.beq i 3 then some ([8], .take 0 <| .take 1 <| .take 2 <| .take 4 <| .take 5 <| .take 3 <| .take 6 <| .take 7 <| .bar 8 [] <| .done) else (none))))
  (fun i => none)
  (fun i => none) []
set_option maxRecDepth 100000 in
theorem eq_burinref4_side_other (C : CallP) (s : Option Addr) (k : Int) (h : Heap) (K : Value → Heap → Prop) (Kp : List PanicEntry → Heap → Prop) :
    fnD Go.Proofs.Try.prog C hints_burinref4_side_other Go.Proofs.Try.f112 [.pointer s, .int .i64 k] h K Kp = burinref4_side_other C s k h K Kp := by kernel_rfl

theorem call_burinref4_side_other {s : Option Addr} {k : Int} {h : Heap} {K : Value → Heap → Prop} {Kp : List PanicEntry → Heap → Prop} (H : burinref4_side_other (CallsHP Go.Proofs.Try.prog) s k h K Kp) : CallsHP Go.Proofs.Try.prog F_burinref4_side_other #[.pointer s, .int .i64 k] h K Kp :=
  callsHP_of hints_burinref4_side_other (by kernel_rfl) Go.Proofs.Try.func112 (by kernel_rfl) (by rw [eq_burinref4_side_other]; exact H)

noncomputable def hints_burinref4_Coder_renew : Hints := Hints.mk (fun i => none)
  (fun i => bif Nat.beq i 1 then some ([(2, .bool)], 4398046511100) else (none))
  (fun i => bif Nat.beq i 3 then some ([], 2040) else (none)) []
set_option maxRecDepth 100000 in
theorem eq_burinref4_Coder_renew (C : CallP) (c : Option Addr) (h : Heap) (K : Value → Heap → Prop) (Kp : List PanicEntry → Heap → Prop) :
    fnD Go.Proofs.Try.prog C hints_burinref4_Coder_renew Go.Proofs.Try.f113 [.pointer c] h K Kp = burinref4_Coder_renew C c h K Kp := by kernel_rfl

theorem call_burinref4_Coder_renew {c : Option Addr} {h : Heap} {K : Value → Heap → Prop} {Kp : List PanicEntry → Heap → Prop} (H : burinref4_Coder_renew (CallsHP Go.Proofs.Try.prog) c h K Kp) : CallsHP Go.Proofs.Try.prog F_burinref4_Coder_renew #[.pointer c] h K Kp :=
  callsHP_of hints_burinref4_Coder_renew (by kernel_rfl) Go.Proofs.Try.func113 (by kernel_rfl) (by rw [eq_burinref4_Coder_renew]; exact H)

noncomputable def hints_burinref4_Decoder_Get : Hints := Hints.mk (fun i => bif Nat.beq i 5 then some ([], .take 0 <| .take 1 <| .take 2 <| .take 3 <| .take 5 <| .take 6 <| .take 7 <| .take 8 <| .take 10 <| .take 4 <| .take 9 <| .take 11 <| .take 12 <| .take 13 <| .take 14 <| .take 15 <| .take 16 <| .done) else (none))
  (fun i => none)
  (fun i => bif Nat.beq i 13 then some ([(8, .int .i64)], 154741914614862175656739072) else (none)) []
set_option maxRecDepth 100000 in
theorem eq_burinref4_Decoder_Get (C : CallP) (a0 : Option Addr) (a1 : Int) (h : Heap) (K : Value → Heap → Prop) (Kp : List PanicEntry → Heap → Prop) :
    fnD Go.Proofs.Try.prog C hints_burinref4_Decoder_Get Go.Proofs.Try.f118 [.pointer a0, .int .i64 a1] h K Kp = burinref4_Decoder_Get C a0 a1 h K Kp := by kernel_rfl

theorem call_burinref4_Decoder_Get {a0 : Option Addr} {a1 : Int} {h : Heap} {K : Value → Heap → Prop} {Kp : List PanicEntry → Heap → Prop} (H : burinref4_Decoder_Get (CallsHP Go.Proofs.Try.prog) a0 a1 h K Kp) : CallsHP Go.Proofs.Try.prog F_burinref4_Decoder_Get #[.pointer a0, .int .i64 a1] h K Kp :=
  callsHP_of hints_burinref4_Decoder_Get (by kernel_rfl) Go.Proofs.Try.func118 (by kernel_rfl) (by rw [eq_burinref4_Decoder_Get]; exact H)

noncomputable def hints_burinref4_row : Hints := Hints.mk (fun i => bif Nat.beq i 4 then some ([23], .take 0 <| .take 1 <| .take 2 <| .take 4 <| .take 5 <| .take 6 <| .take 8 <| .take 9 <| .take 10 <| .take 12 <| .take 13 <| .take 14 <| .take 15 <| .take 16 <| .take 17 <| .take 18 <| .take 19 <| .take 20 <| .take 21 <| .take 3 <| .take 7 <| .take 11 <| .take 22 <| .bar 23 [] <| .done) else (none))
  (fun i => none)
  (fun i => none) []
set_option maxRecDepth 100000 in
theorem eq_burinref4_row (C : CallP) (n : Int) (h : Heap) (K : Value → Heap → Prop) (Kp : List PanicEntry → Heap → Prop) :
    fnD Go.Proofs.Try.prog C hints_burinref4_row Go.Proofs.Try.f127 [.int .i64 n] h K Kp = burinref4_row C n h K Kp := by kernel_rfl

theorem call_burinref4_row {n : Int} {h : Heap} {K : Value → Heap → Prop} {Kp : List PanicEntry → Heap → Prop} (H : burinref4_row (CallsHP Go.Proofs.Try.prog) n h K Kp) : CallsHP Go.Proofs.Try.prog F_burinref4_row #[.int .i64 n] h K Kp :=
  callsHP_of hints_burinref4_row (by kernel_rfl) Go.Proofs.Try.func127 (by kernel_rfl) (by rw [eq_burinref4_row]; exact H)

noncomputable def hints_burinref4_Decoder_renew : Hints := Hints.mk (fun i => none)
  (fun i => bif Nat.beq i 1 then some ([(2, .bool)], 4398046511100) else (none))
  (fun i => bif Nat.beq i 3 then some ([], 2040) else (bif Nat.beq i 5 then some ([], 260096) else (none))) []
set_option maxRecDepth 100000 in
theorem eq_burinref4_Decoder_renew (C : CallP) (d : Option Addr) (h : Heap) (K : Value → Heap → Prop) (Kp : List PanicEntry → Heap → Prop) :
    fnD Go.Proofs.Try.prog C hints_burinref4_Decoder_renew Go.Proofs.Try.f128 [.pointer d] h K Kp = burinref4_Decoder_renew C d h K Kp := by kernel_rfl

theorem call_burinref4_Decoder_renew {d : Option Addr} {h : Heap} {K : Value → Heap → Prop} {Kp : List PanicEntry → Heap → Prop} (H : burinref4_Decoder_renew (CallsHP Go.Proofs.Try.prog) d h K Kp) : CallsHP Go.Proofs.Try.prog F_burinref4_Decoder_renew #[.pointer d] h K Kp :=
  callsHP_of hints_burinref4_Decoder_renew (by kernel_rfl) Go.Proofs.Try.func128 (by kernel_rfl) (by rw [eq_burinref4_Decoder_renew]; exact H)

end Go.Den.Yteakipgcanafoaa

/- ArR: the document's own coder (burinref4) in memory: its table, its side, what its functions do. The same plain coder as ArA's. -/
set_option linter.unusedVariables false
set_option linter.unusedSimpArgs false
namespace Go.Ar
open Go Go.Den Go.Den.Yteakipgcanafoaa

def i64s (l : List Nat) : List Value := l.map fun x : Nat => .int .i64 (x : Int)
theorem i64s_length (l : List Nat) : (i64s l).length = l.length := by simp [i64s]
theorem i64s_get {l : List Nat} {i x : Nat} (h : l[i]? = some x) : (i64s l)[i]? = some (.int .i64 (x : Int)) := by
  unfold i64s; rw [List.getElem?_map, h]; rfl
theorem i64s_set (l : List Nat) (i x : Nat) : i64s (l.set i x) = (i64s l).set i (.int .i64 (x : Int)) := by simp [i64s, List.map_set]
theorem tab_get {l : List Nat} (hl : l.length = 47) {k : Nat} (hk : k < 47) : (i64s l)[k]? = some (.int .i64 ((l.getD k 0 : Nat) : Int)) := by
  refine i64s_get ?_
  rw [List.getD_eq_getElem?_getD, List.getElem?_eq_getElem (by omega)]; rfl

def grow (k : Nat) : List Value := [.int .i64 (qOf k : Nat), .int .i64 (mOf k : Nat), .int .i64 (lOf k : Nat), .bool (cOf k == 1)]
def growsN : Nat → List Value
  | 0 => []
  | n + 1 => growsN n ++ grow n
theorem growsN_length : ∀ n, (growsN n).length = 4 * n
  | 0 => rfl
  | n + 1 => by rw [growsN, List.length_append, growsN_length n]; show 4 * n + 4 = _; omega
theorem growsN_get : ∀ {n r j : Nat} {v : Value}, r < n → (grow r)[j]? = some v → (growsN n)[r * 4 + j]? = some v
  | 0, r, j, v, h, _ => by omega
  | n + 1, r, j, v, h, hv => by
    rw [growsN]
    have hj : j < 4 := (List.getElem?_eq_some_iff.1 hv).1
    rcases Nat.lt_or_ge r n with h1 | h1
    · exact get_app (growsN_get h1 hv)
    · have : r = n := by omega
      subst this
      have := app_get (growsN_length r) (R := growsN r) j hv
      rw [Nat.mul_comm] at this
      exact this

theorem c_row {k : Nat} (hk : k < 47) : (cOf k == 1) = (k == 0 || k == 6 || k == 14) := forall_lt_47 (p := fun k => (cOf k == 1) = (k == 0 || k == 6 || k == 14)) (by decide) hk

set_option maxRecDepth 100000 in
theorem row_ok {h : Heap} {k : Nat} (hk : k < 47) {K : Value → Heap → Prop} {Kp : List PanicEntry → Heap → Prop} (hK : ∀ h', hext h h' → K (.agg #[.int .i64 (qOf k : Nat), .int .i64 (mOf k : Nat), .int .i64 (lOf k : Nat), .bool (cOf k == 1)]) h') :
    CP F_burinref4_row #[.int .i64 (k : Nat)] h K Kp := by
  refine call_burinref4_row ?_
  unfold burinref4_row
  have H := Hp.nil h []
  have hc := c_row hk
  have hq : ∀ X, X = i64s qTab → X[k]? = some (.int .i64 ((qOf k : Nat) : Int)) := fun X e => e ▸ tab_get (by decide) hk
  have hm : ∀ X, X = i64s mTab → X[k]? = some (.int .i64 ((mOf k : Nat) : Int)) := fun X e => e ▸ tab_get (by decide) hk
  have hl : ∀ X, X = i64s lTab → X[k]? = some (.int .i64 ((lOf k : Nat) : Int)) := fun X e => e ▸ tab_get (by decide) hk
  refine newC_hp H fun r h H => ?_
  refine newC_hp H fun a h H => ?_
  refine newC_hp H fun b h H => ?_
  refine newC_hp H fun c h H => ?_
  refine needs_of (by omega) ?_
  refine needs_of (by omega) ?_
  refine needs_of (by omega) ?_
  simp only [Int.toNat_natCast, Nat.mul_one]
  refine bcase_of (fun h1 => ?_) fun h1 => ?_
  · have h1 : k = 0 := by simp at h1; omega
    try simp only [ptr_some_eq, add_mk, Nat.zero_add, Nat.add_zero]
    refine ldI_of (H.cell 1 rfl (hq _ (by kernel_rfl))) ?_
    refine ldI_of (H.cell 2 rfl (hm _ (by kernel_rfl))) ?_
    refine ldI_of (H.cell 3 rfl (hl _ (by kernel_rfl))) ?_
    refine stV_hp H 0 rfl (by first | exact Nat.le_of_ble_eq_true rfl | simp) rfl fun h hsz H => ?_
    refine stV_hp H 0 rfl (by first | exact Nat.le_of_ble_eq_true rfl | simp) rfl fun h hsz H => ?_
    refine stV_hp H 0 rfl (by first | exact Nat.le_of_ble_eq_true rfl | simp) rfl fun h hsz H => ?_
    refine stV_hp H 0 rfl (by first | exact Nat.le_of_ble_eq_true rfl | simp) rfl fun h hsz H => ?_
    refine ldI_of (H.cell 0 rfl rfl) ?_
    refine ldI_of (H.cell 0 rfl rfl) ?_
    refine ldI_of (H.cell 0 rfl rfl) ?_
    refine ldB_of (H.cell 0 rfl rfl) ?_
    have := hK _ H.hext
    have e : (cOf k == 1) = true := by rw [hc, h1]; rfl
    rw [e] at this
    exact this
  · have h1 : k ≠ 0 := by simp at h1; omega
    refine bcase_of (fun h2 => ?_) fun h2 => ?_
    · have h2 : k = 6 := by simp at h2; omega
      try simp only [ptr_some_eq, add_mk, Nat.zero_add, Nat.add_zero]
      refine ldI_of (H.cell 1 rfl (hq _ (by kernel_rfl))) ?_
      refine ldI_of (H.cell 2 rfl (hm _ (by kernel_rfl))) ?_
      refine ldI_of (H.cell 3 rfl (hl _ (by kernel_rfl))) ?_
      refine stV_hp H 0 rfl (by first | exact Nat.le_of_ble_eq_true rfl | simp) rfl fun h hsz H => ?_
      refine stV_hp H 0 rfl (by first | exact Nat.le_of_ble_eq_true rfl | simp) rfl fun h hsz H => ?_
      refine stV_hp H 0 rfl (by first | exact Nat.le_of_ble_eq_true rfl | simp) rfl fun h hsz H => ?_
      refine stV_hp H 0 rfl (by first | exact Nat.le_of_ble_eq_true rfl | simp) rfl fun h hsz H => ?_
      refine ldI_of (H.cell 0 rfl rfl) ?_
      refine ldI_of (H.cell 0 rfl rfl) ?_
      refine ldI_of (H.cell 0 rfl rfl) ?_
      refine ldB_of (H.cell 0 rfl rfl) ?_
      have := hK _ H.hext
      have e : (cOf k == 1) = true := by rw [hc, h2]; rfl
      rw [e] at this
      exact this
    · have h2 : k ≠ 6 := by simp at h2; omega
      try simp only [ptr_some_eq, add_mk, Nat.zero_add, Nat.add_zero]
      refine ldI_of (H.cell 1 rfl (hq _ (by kernel_rfl))) ?_
      refine ldI_of (H.cell 2 rfl (hm _ (by kernel_rfl))) ?_
      refine ldI_of (H.cell 3 rfl (hl _ (by kernel_rfl))) ?_
      refine stV_hp H 0 rfl (by first | exact Nat.le_of_ble_eq_true rfl | simp) rfl fun h hsz H => ?_
      refine stV_hp H 0 rfl (by first | exact Nat.le_of_ble_eq_true rfl | simp) rfl fun h hsz H => ?_
      refine stV_hp H 0 rfl (by first | exact Nat.le_of_ble_eq_true rfl | simp) rfl fun h hsz H => ?_
      refine stV_hp H 0 rfl (by first | exact Nat.le_of_ble_eq_true rfl | simp) rfl fun h hsz H => ?_
      refine ldI_of (H.cell 0 rfl rfl) ?_
      refine ldI_of (H.cell 0 rfl rfl) ?_
      refine ldI_of (H.cell 0 rfl rfl) ?_
      refine ldB_of (H.cell 0 rfl rfl) ?_
      have := hK _ H.hext
      have e : (((k : Nat) : Int) == 14) = (cOf k == 1) := by
        rw [hc]
        by_cases h3 : k = 14
        · subst h3; rfl
        · have e1 : (((k : Nat) : Int) == 14) = false := by simp; omega
          have e2 : (k == 0 || k == 6 || k == 14) = false := by simp [h1, h2, h3]
          rw [e1, e2]
      rw [e]
      exact this

/-! ### the table -/
theorem table_ok {h : Heap} {K : Value → Heap → Prop} {Kp : List PanicEntry → Heap → Prop} (hK : ∀ g rest c h', Hp h [] h' [⟨g, true, T_burinref4_Row, growsN 47 ++ rest⟩] → K (.slice (at0 g) 47 c) h') :
    CP F_burinref4_table #[] h K Kp := by
  refine call_burinref4_table ?_
  unfold burinref4_table
  refine ⟨fun n vs h' => ∃ i : Nat, i + n = 47 ∧ ((i = 0 ∧ vs = [.slice none 0 0, .int .i64 0] ∧ h' = h) ∨ ∃ g rest c, 1 ≤ i ∧ vs = [.slice (at0 g) i c, .int .i64 (i : Int)] ∧ (growsN i ++ rest).length = c * 4 ∧ Hp h [] h' [⟨g, true, T_burinref4_Row, growsN i ++ rest⟩]),
    ⟨47, 0, rfl, .inl ⟨rfl, rfl, rfl⟩⟩, ?_⟩
  rintro n h' u t tn tc x ⟨i, hin, ⟨rfl, hx, rfl⟩ | ⟨g, rest, c, hi1, hx, hlen, H⟩⟩
  · injection hx with hx1 hx
    injection hx1 with e1 e2 e3
    injection hx with hx
    injection hx with _ hx
    subst e1 e2 e3 hx
    refine bcase_true (by rfl) ?_
    refine row_ok (k := 0) (by decide) fun h2 e => ?_
    refine ⟨_, _, _, _, rfl, ?_⟩
    have H := (Hp.nil h' []).ext e
    refine newC_hp H fun r h H => ?_
    refine appC_newZ (sz := 4) (by_ := 32) (m := 1) (z := [.int .i64 0, .int .i64 0, .int .i64 0, .bool false]) H rfl (rdO_hp (o := 0) (n := 1 * 4) H 0 rfl (Nat.le_refl _)) rfl (Nat.le_refl _) (by decide) fun g rest c h3 hl hc e3 H => ?_
    refine bindI_of (((1 : Nat) : Int)) (by decide) ?_
    exact ⟨n - 1, by omega, 1, by omega, .inr ⟨g, rest, c, Nat.le_refl _, rfl, hl, H.pick [1] (by decide) rfl⟩⟩
  · injection hx with hx1 hx
    injection hx1 with e1 e2 e3
    injection hx with hx
    injection hx with _ hx
    subst e1 e2 e3 hx
    refine bcase_of (fun h1 => ?_) fun h1 => ?_
    · have h1 : tn < 47 := by simp at h1; omega
      refine row_ok h1 fun h2 e => ?_
      refine ⟨_, _, _, _, rfl, ?_⟩
      have H := H.ext e
      refine newC_hp H fun r h H => ?_
      refine appC_ownZ (sz := 4) (by_ := 32) (m := 1) (z := [.int .i64 0, .int .i64 0, .int .i64 0, .bool false]) H 0 rfl rfl (by rw [growsN_length]; omega) hlen (rdO_hp (o := 0) (n := 1 * 4) H 1 rfl (Nat.le_refl _)) rfl ?_ (by omega) fun g' rest' c' h3 hl hc H => ?_
      · intro v hv
        have hv : v ∈ grow tn := hv
        simp only [grow, List.mem_cons, List.not_mem_nil, or_false] at hv
        rcases hv with rfl | rfl | rfl | rfl <;> rfl
      · refine bindI_of (((tn + 1 : Nat) : Int)) (by exact i64_at _ _ (by omega) (by omega) (by omega)) ?_
        exact ⟨n - 1, by omega, tn + 1, by omega, .inr ⟨g', rest', c', by omega, rfl, hl, H.take 1⟩⟩
    · have h1 : tn = 47 := by simp at h1; omega
      subst h1
      exact hK g rest _ _ H

end Go.Ar

/- ArS: the document's own coder in memory: begun, Index, likely, other, New, out, renew, Put. -/
set_option linter.unusedVariables false
set_option linter.unusedSimpArgs false
namespace Go.Ar
open Go Go.Den Go.Den.Yteakipgcanafoaa

theorem i64s_cells (l : List Nat) : ∀ v ∈ i64s l, v.oneCell' = true := fun v hv => by
  obtain ⟨x, _, rfl⟩ := List.mem_map.1 hv; rfl
theorem i64s_zero (n : Nat) : repZ [.int .i64 0] n = i64s (List.replicate n 0) := by rw [repZ_one]; simp [i64s]
theorem set_same {α : Type} {l : List α} {k : Nat} {v : α} (h : l[k]? = some v) : l.set k v = l := by
  apply List.ext_getElem?
  intro j
  by_cases hj : k = j
  · subst hj
    rw [List.getElem?_set_self (List.getElem?_eq_some_iff.1 h).1, h]
  · rw [List.getElem?_set_ne hj]

set_option maxRecDepth 100000 in
theorem begun_ok {h : Heap} {n : Nat} (hn : n ≤ 131072) {K : Value → Heap → Prop} {Kp : List PanicEntry → Heap → Prop}
    (hK : ∀ g grest gc sq bq (sp : Ent) h', sp.w = true → Hp h [] h' [⟨g, true, T_burinref4_Row, growsN 47 ++ grest⟩, ⟨sq, true, T_int, i64s (List.replicate n 0)⟩, ⟨bq, true, T_int, i64s (List.replicate n 0)⟩, sp] →
      K (.agg #[.slice (at0 g) 47 gc, .slice (at0 sq) n n, .slice (at0 bq) n n, .int .i64 0]) h') :
    CP F_burinref4_begun #[.int .i64 (n : Nat)] h K Kp := by
  refine call_burinref4_begun ?_
  unfold burinref4_begun
  have H := Hp.nil h []
  refine newC_hp H fun r1 h H => ?_
  simp only [Int.toNat_natCast, i64s_zero]
  refine ⟨table_ok fun g grest gc h' H' => ⟨_, _, _, rfl, H'.hext, ?_⟩, ?_⟩
  · replace H := H.join H' rfl
    refine ⟨?_, ?_⟩
    · refine needs_of (by omega) ?_
      refine newC_hp H fun sq h H => ?_
      refine needs_of (by omega) ?_
      refine newC_hp H fun bq h H => ?_
      try simp only [ptr_some_eq, add_mk, Nat.zero_add, Nat.add_zero]
      refine stV_hp H 0 rfl (by first | exact Nat.le_of_ble_eq_true rfl | simp) rfl fun h hsz H => ?_
      refine stV_hp H 0 rfl (by first | exact Nat.le_of_ble_eq_true rfl | simp) rfl fun h hsz H => ?_
      refine stV_hp H 0 rfl (by first | exact Nat.le_of_ble_eq_true rfl | simp) rfl fun h hsz H => ?_
      refine stV_hp H 0 rfl (by first | exact Nat.le_of_ble_eq_true rfl | simp) rfl fun h hsz H => ?_
      refine ldS_of (H.cell 0 rfl rfl) ?_
      refine ldS_of (H.cell 0 rfl rfl) ?_
      refine ldS_of (H.cell 0 rfl rfl) ?_
      refine ldI_of (H.cell 0 rfl rfl) ?_
      exact hK g grest gc sq bq _ _ rfl (H.pick [1, 2, 3, 0] (by decide) rfl)
    · refine needs_of (by omega) ?_
      refine newC_hp H fun bq h H => ?_
      refine needs_of (by omega) ?_
      refine newC_hp H fun sq h H => ?_
      try simp only [ptr_some_eq, add_mk, Nat.zero_add, Nat.add_zero]
      refine stV_hp H 0 rfl (by first | exact Nat.le_of_ble_eq_true rfl | simp) rfl fun h hsz H => ?_
      refine stV_hp H 0 rfl (by first | exact Nat.le_of_ble_eq_true rfl | simp) rfl fun h hsz H => ?_
      refine stV_hp H 0 rfl (by first | exact Nat.le_of_ble_eq_true rfl | simp) rfl fun h hsz H => ?_
      refine stV_hp H 0 rfl (by first | exact Nat.le_of_ble_eq_true rfl | simp) rfl fun h hsz H => ?_
      refine ldS_of (H.cell 0 rfl rfl) ?_
      refine ldS_of (H.cell 0 rfl rfl) ?_
      refine ldS_of (H.cell 0 rfl rfl) ?_
      refine ldI_of (H.cell 0 rfl rfl) ?_
      exact hK g grest gc sq bq _ _ rfl (H.pick [1, 3, 2, 0] (by decide) rfl)
  · refine ⟨?_, ?_⟩
    · refine needs_of (by omega) ?_
      refine newC_hp H fun sq h H => ?_
      refine ⟨table_ok fun g grest gc h' H' => ⟨_, _, _, rfl, H'.hext, ?_⟩, ?_⟩
      · replace H := H.join H' rfl
        refine needs_of (by omega) ?_
        refine newC_hp H fun bq h H => ?_
        try simp only [ptr_some_eq, add_mk, Nat.zero_add, Nat.add_zero]
        refine stV_hp H 0 rfl (by first | exact Nat.le_of_ble_eq_true rfl | simp) rfl fun h hsz H => ?_
        refine stV_hp H 0 rfl (by first | exact Nat.le_of_ble_eq_true rfl | simp) rfl fun h hsz H => ?_
        refine stV_hp H 0 rfl (by first | exact Nat.le_of_ble_eq_true rfl | simp) rfl fun h hsz H => ?_
        refine stV_hp H 0 rfl (by first | exact Nat.le_of_ble_eq_true rfl | simp) rfl fun h hsz H => ?_
        refine ldS_of (H.cell 0 rfl rfl) ?_
        refine ldS_of (H.cell 0 rfl rfl) ?_
        refine ldS_of (H.cell 0 rfl rfl) ?_
        refine ldI_of (H.cell 0 rfl rfl) ?_
        exact hK g grest gc sq bq _ _ rfl (H.pick [2, 1, 3, 0] (by decide) rfl)
      · refine needs_of (by omega) ?_
        refine newC_hp H fun bq h H => ?_
        refine table_ok fun g grest gc h' H' => ⟨_, _, _, rfl, H'.hext, ?_⟩
        replace H := H.join H' rfl
        try simp only [ptr_some_eq, add_mk, Nat.zero_add, Nat.add_zero]
        refine stV_hp H 0 rfl (by first | exact Nat.le_of_ble_eq_true rfl | simp) rfl fun h hsz H => ?_
        refine stV_hp H 0 rfl (by first | exact Nat.le_of_ble_eq_true rfl | simp) rfl fun h hsz H => ?_
        refine stV_hp H 0 rfl (by first | exact Nat.le_of_ble_eq_true rfl | simp) rfl fun h hsz H => ?_
        refine stV_hp H 0 rfl (by first | exact Nat.le_of_ble_eq_true rfl | simp) rfl fun h hsz H => ?_
        refine ldS_of (H.cell 0 rfl rfl) ?_
        refine ldS_of (H.cell 0 rfl rfl) ?_
        refine ldS_of (H.cell 0 rfl rfl) ?_
        refine ldI_of (H.cell 0 rfl rfl) ?_
        exact hK g grest gc sq bq _ _ rfl (H.pick [3, 1, 2, 0] (by decide) rfl)
    · refine needs_of (by omega) ?_
      refine newC_hp H fun bq h H => ?_
      refine ⟨table_ok fun g grest gc h' H' => ⟨_, _, _, rfl, H'.hext, ?_⟩, ?_⟩
      · replace H := H.join H' rfl
        refine needs_of (by omega) ?_
        refine newC_hp H fun sq h H => ?_
        try simp only [ptr_some_eq, add_mk, Nat.zero_add, Nat.add_zero]
        refine stV_hp H 0 rfl (by first | exact Nat.le_of_ble_eq_true rfl | simp) rfl fun h hsz H => ?_
        refine stV_hp H 0 rfl (by first | exact Nat.le_of_ble_eq_true rfl | simp) rfl fun h hsz H => ?_
        refine stV_hp H 0 rfl (by first | exact Nat.le_of_ble_eq_true rfl | simp) rfl fun h hsz H => ?_
        refine stV_hp H 0 rfl (by first | exact Nat.le_of_ble_eq_true rfl | simp) rfl fun h hsz H => ?_
        refine ldS_of (H.cell 0 rfl rfl) ?_
        refine ldS_of (H.cell 0 rfl rfl) ?_
        refine ldS_of (H.cell 0 rfl rfl) ?_
        refine ldI_of (H.cell 0 rfl rfl) ?_
        exact hK g grest gc sq bq _ _ rfl (H.pick [2, 3, 1, 0] (by decide) rfl)
      · refine needs_of (by omega) ?_
        refine newC_hp H fun sq h H => ?_
        refine table_ok fun g grest gc h' H' => ⟨_, _, _, rfl, H'.hext, ?_⟩
        replace H := H.join H' rfl
        try simp only [ptr_some_eq, add_mk, Nat.zero_add, Nat.add_zero]
        refine stV_hp H 0 rfl (by first | exact Nat.le_of_ble_eq_true rfl | simp) rfl fun h hsz H => ?_
        refine stV_hp H 0 rfl (by first | exact Nat.le_of_ble_eq_true rfl | simp) rfl fun h hsz H => ?_
        refine stV_hp H 0 rfl (by first | exact Nat.le_of_ble_eq_true rfl | simp) rfl fun h hsz H => ?_
        refine stV_hp H 0 rfl (by first | exact Nat.le_of_ble_eq_true rfl | simp) rfl fun h hsz H => ?_
        refine ldS_of (H.cell 0 rfl rfl) ?_
        refine ldS_of (H.cell 0 rfl rfl) ?_
        refine ldS_of (H.cell 0 rfl rfl) ?_
        refine ldI_of (H.cell 0 rfl rfl) ?_
        exact hK g grest gc sq bq _ _ rfl (H.pick [3, 2, 1, 0] (by decide) rfl)

/-! ### the side: where a coder's or a decoder's row begins -/
def sideV (g gc sq bq m : Nat) (n : Nat) : List Value := [.slice (at0 g) 47 gc, .slice (at0 sq) m m, .slice (at0 bq) m m, .int .i64 (n : Nat)]
def half (st : List Nat) : List Nat := st.map (· / 2)
def low (st : List Nat) : List Nat := st.map (· % 2)
theorem half_get {st : List Nat} {k x : Nat} (h : st[k]? = some x) : (half st)[k]? = some (x / 2) := by unfold half; rw [List.getElem?_map, h]; rfl
theorem low_get {st : List Nat} {k x : Nat} (h : st[k]? = some x) : (low st)[k]? = some (x % 2) := by unfold low; rw [List.getElem?_map, h]; rfl
theorem half_set (st : List Nat) (k v : Nat) : half (st.set k v) = (half st).set k (v / 2) := List.map_set
theorem low_set (st : List Nat) (k v : Nat) : low (st.set k v) = (low st).set k (v % 2) := List.map_set

theorem index_ok {h : Heap} {p g gc sq bq m n : Nat} {F : List Nat} {h0 : Heap} {L : List Ent} (H : Hp h0 F h L) (kp : Nat) {w : Bool} {t : TypeId} {T : List Value} (hp : L[kp]? = some ⟨p, w, t, sideV g gc sq bq m n ++ T⟩) (hm : 1 ≤ m) (hm2 : m ≤ 131072)
    {ctx : Int} {K : Value → Heap → Prop} {Kp : List PanicEntry → Heap → Prop} (hk : K (.int .i64 (idx ctx m : Nat)) h) : CP F_burinref4_side_Index #[.pointer (at0 p), .int .i64 ctx] h K Kp := by
  refine call_burinref4_side_Index ?_
  unfold burinref4_side_Index
  have habs := tmod_abs ctx hm
  have e2 := Int.tmod_eq_emod (a := ctx) (b := (m : Int))
  have h1 := Int.emod_nonneg ctx (b := (m : Int)) (by omega)
  have hlt := Int.emod_lt_of_pos ctx (b := (m : Int)) (by omega)
  have e1 : ((idx ctx m : Nat) : Int) = ctx % m := by unfold idx; omega
  try simp only [ptr_some_eq, add_mk, Nat.zero_add, Nat.add_zero]
  refine ldS_of (H.cell kp hp rfl) ?_
  refine needs_of (by exact ⟨trivial, by omega⟩) ?_
  refine bindI_gen fun z ez => ?_
  subst ez
  refine bcase_of (fun h2 => ?_) fun h2 => ?_
  · have h2 : ctx.tmod m < 0 := of_decide_eq_true h2
    refine ldS_of (H.cell kp hp rfl) ?_
    refine bindI_of ((idx ctx m : Nat)) (by exact i64_at _ _ (by split at e2 <;> omega) (by omega) (by omega)) ?_
    exact hk
  · have h2 : ¬ ctx.tmod m < 0 := of_decide_eq_false h2
    have e3 : ctx.tmod m = ((idx ctx m : Nat) : Int) := by split at e2 <;> omega
    rw [e3]
    exact hk

theorem g_get {k j : Nat} {v : Value} {rest : List Value} (hk : k < 47) (h : (grow k)[j]? = some v) : (growsN 47 ++ rest)[k * 4 + j]? = some v := get_app (growsN_get hk h)

theorem slikely_ok {h : Heap} {p g gc sq bq n k x : Nat} {st : List Nat} {grest : List Value} {F : List Nat} {h0 : Heap} {L : List Ent} (H : Hp h0 F h L) (kp kg ks : Nat) {w wg : Bool} {t : TypeId} {T : List Value} (hp : L[kp]? = some ⟨p, w, t, sideV g gc sq bq st.length n ++ T⟩)
    (hg : L[kg]? = some ⟨g, wg, T_burinref4_Row, growsN 47 ++ grest⟩) (hs : L[ks]? = some ⟨sq, true, T_int, i64s (half st)⟩) (hx : st[k]? = some x) (hx94 : x < 94)
    {K : Value → Heap → Prop} {Kp : List PanicEntry → Heap → Prop} (hk : ∀ h', Hp h0 F h' (L.set ks ⟨sq, true, T_int, i64s (half (st.set k (upM x)))⟩) → K (.tuple #[]) h') :
    CP F_burinref4_side_likely #[.pointer (at0 p), .int .i64 (k : Nat)] h K Kp := by
  refine call_burinref4_side_likely ?_
  unfold burinref4_side_likely
  have hkl : k < st.length := (List.getElem?_eq_some_iff.1 hx).1
  have hr : x / 2 < 47 := by omega
  try simp only [ptr_some_eq, add_mk, Nat.zero_add, Nat.add_zero]
  refine ldS_of (H.cell kp hp rfl) (ldS_of (H.cell kp hp rfl) (ldS_of (H.cell kp hp rfl) ?_))
  refine needs_of (by omega) ?_
  try simp only [ptr_some_eq, add_mk, Nat.zero_add, Int.toNat_natCast, Nat.mul_one]
  refine ldI_of (H.cell ks hs (i64s_get (half_get hx))) ?_
  refine needs_of (by omega) ?_
  try simp only [ptr_some_eq, add_mk, Nat.zero_add, Int.toNat_natCast, Nat.mul_one]
  refine ldI_of (H.cell kg hg (g_get hr (j := 1) rfl)) ?_
  refine needs_of (by omega) ?_
  try simp only [ptr_some_eq, add_mk, Nat.zero_add]
  refine stV_hp H ks hs (by rw [i64s_length]; simpa [half] using hkl) rfl fun h' hsz H => hk _ ?_
  rw [half_set, i64s_set]
  have e : upM x / 2 = mOf (x / 2) := by unfold upM; omega
  rw [e]
  exact H

end Go.Ar

/- ArT: the document's own coder in memory: other, New, out, renew, Put, States. -/
set_option linter.unusedVariables false
set_option linter.unusedSimpArgs false
namespace Go.Ar
open Go Go.Den Go.Den.Yteakipgcanafoaa

def sideL (p : Nat) (t : TypeId) (T : List Value) (g gc sq bq n : Nat) (st : List Nat) (grest : List Value) (e5 : Ent) : List Ent :=
  [⟨p, true, t, sideV g gc sq bq st.length n ++ T⟩, ⟨g, true, T_burinref4_Row, growsN 47 ++ grest⟩, ⟨sq, true, T_int, i64s (half st)⟩, ⟨bq, true, T_int, i64s (low st)⟩, e5]

theorem slk_ok {h : Heap} {p g gc sq bq n k x : Nat} {st : List Nat} {grest : List Value} {F : List Nat} {h0 : Heap} {t : TypeId} {T : List Value} {e5 : Ent} (H : Hp h0 F h (sideL p t T g gc sq bq n st grest e5)) (hx : st[k]? = some x) (hx94 : x < 94)
    {K : Value → Heap → Prop} {Kp : List PanicEntry → Heap → Prop} (hk : ∀ h', Hp h0 F h' (sideL p t T g gc sq bq n (st.set k (upM x)) grest e5) → K (.tuple #[]) h') :
    CP F_burinref4_side_likely #[.pointer (at0 p), .int .i64 (k : Nat)] h K Kp :=
  slikely_ok H 0 1 2 rfl rfl rfl hx hx94 fun h' H' => hk _ (H'.as (by
    have e : low (st.set k (upM x)) = low st := by
      rw [low_set]
      have e2 : upM x % 2 = x % 2 := by unfold upM; omega
      rw [e2]
      exact set_same (low_get hx)
    simp [sideL, e]))

set_option maxRecDepth 100000 in
theorem sother_ok {h : Heap} {p g gc sq bq n k x : Nat} {st : List Nat} {grest : List Value} {F : List Nat} {h0 : Heap} {t : TypeId} {T : List Value} {e5 : Ent} (H : Hp h0 F h (sideL p t T g gc sq bq n st grest e5)) (hx : st[k]? = some x) (hx94 : x < 94)
    {K : Value → Heap → Prop} {Kp : List PanicEntry → Heap → Prop} (hk : ∀ h', Hp h0 F h' (sideL p t T g gc sq bq n (st.set k (upL x)) grest e5) → K (.tuple #[]) h') :
    CP F_burinref4_side_other #[.pointer (at0 p), .int .i64 (k : Nat)] h K Kp := by
  refine call_burinref4_side_other ?_
  unfold burinref4_side_other
  have hkl : k < st.length := (List.getElem?_eq_some_iff.1 hx).1
  have hr : x / 2 < 47 := by omega
  have hc1 := cOf_le hr
  have eh : half (st.set k (upL x)) = (half st).set k (lOf (x / 2)) := by
    rw [half_set]; congr 1; unfold upL; omega
  have el : low (st.set k (upL x)) = (low st).set k ((x % 2 + cOf (x / 2)) % 2) := by
    rw [low_set]; congr 1; unfold upL; omega
  try simp only [ptr_some_eq, add_mk, Nat.zero_add, Nat.add_zero]
  refine ldS_of (H.cell 0 rfl rfl) ?_
  refine ldS_of (H.cell 0 rfl rfl) ?_
  refine needs_of (by omega) ?_
  try simp only [ptr_some_eq, add_mk, Nat.zero_add, Int.toNat_natCast, Nat.mul_one]
  refine ldI_of (H.cell 2 rfl (i64s_get (half_get hx))) ?_
  refine needs_of (by omega) ?_
  try simp only [ptr_some_eq, add_mk, Nat.zero_add, Int.toNat_natCast, Nat.mul_one]
  refine ldI_of (H.cell 1 rfl (g_get hr (j := 0) rfl)) ?_
  refine ldI_of (H.cell 1 rfl (g_get hr (j := 1) rfl)) ?_
  refine ldI_of (H.cell 1 rfl (g_get hr (j := 2) rfl)) ?_
  refine ldB_of (H.cell 1 rfl (g_get hr (j := 3) rfl)) ?_
  refine newC_hp H fun w h H => ?_
  try simp only [ptr_some_eq, add_mk, Nat.zero_add, Nat.add_zero]
  refine stV_hp H 5 rfl (by first | exact Nat.le_of_ble_eq_true rfl | simp) rfl fun h hsz H => ?_
  refine stV_hp H 5 rfl (by first | exact Nat.le_of_ble_eq_true rfl | simp) rfl fun h hsz H => ?_
  refine stV_hp H 5 rfl (by first | exact Nat.le_of_ble_eq_true rfl | simp) rfl fun h hsz H => ?_
  refine stV_hp H 5 rfl (by first | exact Nat.le_of_ble_eq_true rfl | simp) rfl fun h hsz H => ?_
  refine ldB_of (H.cell 5 rfl rfl) ?_
  refine bcase_of (fun h1 => ?_) fun h1 => ?_
  · have h1 : cOf (x / 2) = 1 := by simpa using h1
    refine ldS_of (H.cell 0 rfl rfl) ?_
    refine ldS_of (H.cell 0 rfl rfl) ?_
    refine needs_of (by omega) ?_
    try simp only [ptr_some_eq, add_mk, Nat.zero_add, Int.toNat_natCast, Nat.mul_one]
    refine ldI_of (H.cell 3 rfl (i64s_get (low_get hx))) ?_
    refine bindI_of (((1 - x % 2 : Nat) : Int)) (by exact i64_at _ _ (by omega) (by omega) (by omega)) ?_
    refine needs_of (by omega) ?_
    try simp only [ptr_some_eq, add_mk, Nat.zero_add, Int.toNat_natCast, Nat.mul_one]
    refine stV_hp H 3 rfl (by rw [i64s_length]; simpa [low] using hkl) rfl fun h hsz H => ?_
    refine ldS_of (H.cell 0 rfl rfl) ?_
    refine ldI_of (H.cell 5 rfl rfl) ?_
    refine needs_of (by omega) ?_
    try simp only [ptr_some_eq, add_mk, Nat.zero_add, Int.toNat_natCast, Nat.mul_one]
    refine stV_hp H 2 rfl (by rw [i64s_length]; simpa [half] using hkl) rfl fun h hsz H => ?_
    refine hk _ ((H.take 5).as ?_)
    have e3 : (x % 2 + cOf (x / 2)) % 2 = 1 - x % 2 := by rw [h1]; omega
    rw [e3] at el
    simp [sideL, eh, el, i64s_set]
  · have h1 : cOf (x / 2) = 0 := by
      have : cOf (x / 2) ≠ 1 := by simpa using h1
      omega
    refine ldS_of (H.cell 0 rfl rfl) ?_
    refine ldI_of (H.cell 5 rfl rfl) ?_
    refine needs_of (by omega) ?_
    try simp only [ptr_some_eq, add_mk, Nat.zero_add, Int.toNat_natCast, Nat.mul_one]
    refine stV_hp H 2 rfl (by rw [i64s_length]; simpa [half] using hkl) rfl fun h hsz H => ?_
    refine hk _ ((H.take 5).as ?_)
    have e3 : (x % 2 + cOf (x / 2)) % 2 = x % 2 := by rw [h1]; omega
    rw [e3] at el
    have el2 : low (st.set k (upL x)) = low st := el.trans (set_same (low_get hx))
    simp [sideL, eh, el2, i64s_set]

/-! ### the coder -/
def rrest (s : Cod) (r : Nat) (rest : List Value) : List Value :=
  [.int .i64 (s.a : Nat), .int .i64 (s.c : Nat), .int .i64 (s.t : Nat), .slice (at0 r) (s.bs.length + 1) (s.bs.length + 1 + rest.length), .bool s.done]
structure RP where
  p : Nat
  g : Nat
  gc : Nat
  sq : Nat
  bq : Nat
  grest : List Value
def refL (A : RP) (r : Nat) (s : Cod) (rest : List Value) : List Ent :=
  sideL A.p T_burinref4_Coder (rrest s r rest) A.g A.gc A.sq A.bq s.n s.st A.grest ⟨r, true, T_uint8, u8s (s.bs ++ [s.l]) ++ rest⟩

theorem rnew_ok {h : Heap} {n : Nat} (hn : n ≤ 131072) {K : Value → Heap → Prop} {Kp : List PanicEntry → Heap → Prop} (hk : ∀ A r h', Hp h [] h' (refL A r (newC n) []) → K (.pointer (at0 A.p)) h') : CP F_burinref4_New #[.int .i64 (n : Nat)] h K Kp := by
  refine call_burinref4_New ?_
  unfold burinref4_New
  refine begun_ok hn fun g grest gc sq bq sp h' hsp H => ?_
  refine ⟨_, _, _, _, _, _, _, _, _, _, rfl, ?_⟩
  refine newC_hp H fun r h H => ?_
  refine newC_hp H fun p h H => ?_
  refine hk ⟨p, g, gc, sq, bq, grest⟩ r _ ?_
  exact H.pick [5, 0, 1, 2, 4] (by decide) (by simp [refL, sideL, sideV, rrest, newC, half, low, u8s])

set_option maxRecDepth 100000 in
theorem rout_ok {h : Heap} {A : RP} {r : Nat} {s : Cod} {rest : List Value} {F : List Nat} {h0 : Heap} (H : Hp h0 F h (refL A r s rest)) (hl : s.l < 256) (hc : s.c < 4294967296) (hb : s.bs.length < 1000000000)
    {K : Value → Heap → Prop} {Kp : List PanicEntry → Heap → Prop} (hk : ∀ r' rest' h', Hp h0 F h' (refL A r' (outM s) rest') → K (.tuple #[]) h') :
    CP F_burinref4_Coder_out #[.pointer (at0 A.p)] h K Kp := by
  refine call_burinref4_Coder_out ?_
  unfold burinref4_Coder_out
  try simp only [ptr_some_eq, add_mk, Nat.zero_add, Nat.add_zero]
  refine ldS_of (H.cell 0 rfl rfl) ?_
  refine bindI_of (((s.bs.length : Nat) : Int)) (by exact i64_at _ _ (by omega) (by omega) (by omega)) ?_
  refine ldS_of (H.cell 0 rfl rfl) ?_
  refine needs_of (by constructor <;> omega) ?_
  try simp only [ptr_some_eq, add_mk, Nat.zero_add, Nat.add_zero]
  simp only [Int.toNat_natCast, Nat.mul_one]
  refine ldI_of (H.cell 4 rfl (last_get _ _ _)) ?_
  refine ⟨fun vs h' => vs = [.bool ((if s.l ≠ 255 ∧ 134217728 ≤ s.c then s.l + 1 else s.l) == 255)] ∧ Hp h0 F h' (refL A r (if s.l ≠ 255 ∧ 134217728 ≤ s.c then { s with l := s.l + 1, c := s.c % 134217728 } else s) rest), ?_, ?_⟩
  · refine ⟨fun vs h' => vs = [.bool (decide (s.l ≠ 255 ∧ 134217728 ≤ s.c))] ∧ h' = h, ?_, ?_⟩
    · refine bcase_of (fun h1 => ?_) fun h1 => ?_
      · refine ldI_of (H.cell 0 rfl rfl) ?_
        refine ⟨?_, rfl⟩
        have h1 : s.l ≠ 255 := by simp at h1; omega
        congr 2
        simp [h1]
        omega
      · refine ⟨?_, rfl⟩
        have h1 : s.l = 255 := by simp at h1; omega
        simp [h1]
    · rintro h' u x ⟨hx, rfl⟩
      injection hx with hx
      injection hx with hx
      subst hx
      refine bcase_of (fun h1 => ?_) fun h1 => ?_
      · have h1 : s.l ≠ 255 ∧ 134217728 ≤ s.c := of_decide_eq_true h1
        refine ldS_of (H.cell 0 rfl rfl) ?_
        refine needs_of (by constructor <;> omega) ?_
        try simp only [ptr_some_eq, add_mk, Nat.zero_add, Int.toNat_natCast, Nat.mul_one]
        refine ldI_of (H.cell 4 rfl (last_get _ _ _)) ?_
        refine bindI_of (((s.l + 1 : Nat) : Int)) (by rw [← u8_in (s.l + 1) (by omega)]; rfl) ?_
        refine needs_of (by constructor <;> omega) ?_
        try simp only [ptr_some_eq, add_mk, Nat.zero_add, Int.toNat_natCast, Nat.mul_one]
        refine stV_hp H 4 rfl (by simp [u8s_length]; omega) rfl fun h hsz H => ?_
        rw [last_set] at H
        refine ldI_of (H.cell 0 rfl rfl) ?_
        refine bindI_of (((s.c % 134217728 : Nat) : Int)) (by exact (and63 _ 134217727 (by omega) (by omega)).trans (by congr 1; exact Nat.and_two_pow_sub_one_eq_mod s.c 27)) ?_
        refine stV_hp H 0 rfl (by first | exact Nat.le_of_ble_eq_true rfl | simp) rfl fun h hsz H => ?_
        refine ldS_of (H.cell 0 rfl rfl) ?_
        refine needs_of (by constructor <;> omega) ?_
        try simp only [ptr_some_eq, add_mk, Nat.zero_add, Int.toNat_natCast, Nat.mul_one]
        refine ldI_of (H.cell 4 rfl (last_get _ _ _)) ?_
        rw [if_pos h1, if_pos h1]
        refine ⟨?_, H⟩
        congr 2
        rw [Bool.eq_iff_iff]
        simp
        omega
      · have h1 : ¬ (s.l ≠ 255 ∧ 134217728 ≤ s.c) := of_decide_eq_false h1
        rw [if_neg h1, if_neg h1]
        refine ⟨?_, H⟩
        congr 2
        rw [Bool.eq_iff_iff]
        simp
        omega
  · rintro h' u y ⟨hy, H'⟩
    injection hy with hy
    injection hy with hy
    have e : outM s = outTail (if s.l ≠ 255 ∧ 134217728 ≤ s.c then { s with l := s.l + 1, c := s.c % 134217728 } else s) (if s.l ≠ 255 ∧ 134217728 ≤ s.c then { s with l := s.l + 1, c := s.c % 134217728 } else s).l (if s.l ≠ 255 ∧ 134217728 ≤ s.c then { s with l := s.l + 1, c := s.c % 134217728 } else s).c := by
      unfold outM; split <;> rfl
    have hs' : (if s.l ≠ 255 ∧ 134217728 ≤ s.c then { s with l := s.l + 1, c := s.c % 134217728 } else s).l < 256 ∧ (if s.l ≠ 255 ∧ 134217728 ≤ s.c then { s with l := s.l + 1, c := s.c % 134217728 } else s).c < 4294967296 ∧ (if s.l ≠ 255 ∧ 134217728 ≤ s.c then { s with l := s.l + 1, c := s.c % 134217728 } else s).bs = s.bs ∧
        (if s.l ≠ 255 ∧ 134217728 ≤ s.c then { s with l := s.l + 1, c := s.c % 134217728 } else s).l = (if s.l ≠ 255 ∧ 134217728 ≤ s.c then s.l + 1 else s.l) := by
      split
      · exact ⟨by show s.l + 1 < 256; omega, by show s.c % 134217728 < _; omega, rfl, rfl⟩
      · exact ⟨hl, hc, rfl, rfl⟩
    generalize (if s.l ≠ 255 ∧ 134217728 ≤ s.c then { s with l := s.l + 1, c := s.c % 134217728 } else s) = s' at e hs' H'
    clear H
    obtain ⟨hl', hc', hb', hll⟩ := hs'
    rw [← hll] at hy
    subst hy
    rw [e] at hk
    rw [← hb'] at hb
    have H := H'
    clear H'
    refine bcase_of (fun h1 => ?_) fun h1 => ?_
    · have h1 : s'.l = 255 := by simpa using h1
      refine ldS_of (H.cell 0 rfl rfl) ?_
      refine ldI_of (H.cell 0 rfl rfl) ?_
      refine bindI_of (((s'.c / 1048576 : Nat) : Int)) (by exact shr_of (i := 20) (by decide)) ?_
      refine bindI_of (((s'.c / 1048576 % 256 : Nat) : Int)) (by rw [IntKind.wrap_u8]; omega) ?_
      refine newC_hp H fun b h H => ?_
      refine appC_own H 4 rfl (xs := u8s (s'.bs ++ [s'.l])) (by rw [u8s_length]; simp) (by rw [List.length_append, u8s_length]; simp) (rdO_hp (o := 0) (n := 1 * 1) H 5 rfl (Nat.le_refl _)) rfl (fun v hv => by rw [List.mem_singleton.1 hv]; rfl) (by omega) fun r' rest' h H => ?_
      refine stV_hp H 0 rfl (by first | exact Nat.le_of_ble_eq_true rfl | simp) rfl fun h hsz H => ?_
      refine ldI_of (H.cell 0 rfl rfl) ?_
      refine bindI_of (((s'.c % 1048576 : Nat) : Int)) (by exact (and63 _ 1048575 (by omega) (by omega)).trans (by congr 1; exact Nat.and_two_pow_sub_one_eq_mod s'.c 20)) ?_
      refine stV_hp H 0 rfl (by first | exact Nat.le_of_ble_eq_true rfl | simp) rfl fun h hsz H => ?_
      refine stV_hp H 0 rfl (by first | exact Nat.le_of_ble_eq_true rfl | simp) rfl fun h hsz H => ?_
      refine hk r' rest' _ ((H.take 5).as ?_)
      unfold outTail
      rw [if_pos h1]
      simp [refL, sideL, sideV, rrest, u8s]
      omega
    · have h1 : s'.l ≠ 255 := by simpa using h1
      refine ldS_of (H.cell 0 rfl rfl) ?_
      refine ldI_of (H.cell 0 rfl rfl) ?_
      refine bindI_of (((s'.c / 524288 : Nat) : Int)) (by exact shr_of (i := 19) (by decide)) ?_
      refine bindI_of (((s'.c / 524288 % 256 : Nat) : Int)) (by rw [IntKind.wrap_u8]; omega) ?_
      refine newC_hp H fun b h H => ?_
      refine appC_own H 4 rfl (xs := u8s (s'.bs ++ [s'.l])) (by rw [u8s_length]; simp) (by rw [List.length_append, u8s_length]; simp) (rdO_hp (o := 0) (n := 1 * 1) H 5 rfl (Nat.le_refl _)) rfl (fun v hv => by rw [List.mem_singleton.1 hv]; rfl) (by omega) fun r' rest' h H => ?_
      refine stV_hp H 0 rfl (by first | exact Nat.le_of_ble_eq_true rfl | simp) rfl fun h hsz H => ?_
      refine ldI_of (H.cell 0 rfl rfl) ?_
      refine bindI_of (((s'.c % 524288 : Nat) : Int)) (by exact (and63 _ 524287 (by omega) (by omega)).trans (by congr 1; exact Nat.and_two_pow_sub_one_eq_mod s'.c 19)) ?_
      refine stV_hp H 0 rfl (by first | exact Nat.le_of_ble_eq_true rfl | simp) rfl fun h hsz H => ?_
      refine stV_hp H 0 rfl (by first | exact Nat.le_of_ble_eq_true rfl | simp) rfl fun h hsz H => ?_
      refine hk r' rest' _ ((H.take 5).as ?_)
      unfold outTail
      rw [if_neg h1]
      simp [refL, sideL, sideV, rrest, u8s]
      omega

end Go.Ar

/- ArU: the document's own coder in memory: renew, Put, Flush, States. -/
set_option linter.unusedVariables false
set_option linter.unusedSimpArgs false
namespace Go.Ar
open Go Go.Den Go.Den.Yteakipgcanafoaa

theorem mask32 {x : Nat} (hx : x < 4294967296) : bitI .and .i64 (x : Int) 4294967295 = ((x : Nat) : Int) :=
  (and63 x 4294967295 (by omega) (by omega)).trans (by congr 1; exact (Nat.and_two_pow_sub_one_eq_mod x 32).trans (Nat.mod_eq_of_lt hx))

set_option maxRecDepth 100000 in
theorem rrenew_ok {h : Heap} {A : RP} {r : Nat} {s : Cod} {rest : List Value} {F : List Nat} {h0 : Heap} (H : Hp h0 F h (refL A r s rest)) (hs : Mid s) (ha : 1 ≤ s.a) (ha' : s.a < 0x8000) (hb : s.bs.length < 999999983)
    {K : Value → Heap → Prop} {Kp : List PanicEntry → Heap → Prop} (hk : ∀ r' rest' h', Hp h0 F h' (refL A r' (renewM 17 s) rest') → K (.tuple #[]) h') :
    CP F_burinref4_Coder_renew #[.pointer (at0 A.p)] h K Kp := by
  generalize hR : renewM 17 s = R at hk
  refine call_burinref4_Coder_renew ?_
  unfold burinref4_Coder_renew
  refine ⟨fun n vs h' => ∃ (first : Bool) (s' : Cod) (r' : Nat) (rest' : List Value), vs = [.bool first] ∧ Hp h0 F h' (refL A r' s' rest') ∧ Mid s' ∧ s'.bs.length + n < 1000000000 ∧
      ((first = false ∧ 0x8000 ≤ s'.a ∧ s' = R) ∨ (s'.a < 0x8000 ∧ 0x8000 ≤ s'.a * 2 ^ n ∧ renewM n s' = R)),
    ⟨17, true, s, r, rest, rfl, H, hs, by omega, .inr ⟨ha', by have : (2 : Nat) ^ 17 = 131072 := rfl; omega, hR⟩⟩, ?_⟩
  clear H
  rintro n h u x ⟨first, s', r', rest', hx, H, hm, hbn, hc⟩
  injection hx with hx
  injection hx with hx
  subst hx
  refine ⟨fun vs h' => h' = h ∧ s'.a < 0x8000 ∧ 0x8000 ≤ s'.a * 2 ^ n ∧ renewM n s' = R, ?_, ?_⟩
  · refine bcase_of (fun h1 => ?_) fun h1 => ?_
    · rcases hc with ⟨h2, _⟩ | h2
      · rw [h1] at h2; cases h2
      · exact ⟨rfl, h2⟩
    · have hcell0 := H.cell 0 rfl (i := 4) (v := .int .i64 (s'.a : Nat)) rfl
      rcases hc with ⟨_, h2, h5⟩ | h2
      · have h4 : ¬ ((s'.a : Nat) : Int) < 32768 := by
          have : (32768 : Int) ≤ ((s'.a : Nat) : Int) := by exact_mod_cast h2
          exact Int.not_lt.2 this
        refine ldI_of (x := ((s'.a : Nat) : Int)) hcell0 ?_
        simp only [decide_eq_false h4]
        exact hk r' rest' _ (h5 ▸ H)
      · have h4 : ((s'.a : Nat) : Int) < 32768 := by exact_mod_cast h2.1
        refine ldI_of (x := ((s'.a : Nat) : Int)) hcell0 ?_
        simp only [decide_eq_true h4]
        exact ⟨by first | rfl | trivial, h2⟩
  · rintro h2 u ⟨rfl, hlt, hge, he⟩
    obtain ⟨n, rfl⟩ : ∃ m, n = m + 1 := by
      cases n with
      | zero => simp at hge; omega
      | succ m => exact ⟨m, rfl⟩
    have ht1 := hm.t1
    have ht2 := hm.t12
    have hca := hm.ca
    have hcp := pow_le ht1
    obtain ⟨g1, g2, g3, g4, g5, g6⟩ := shiftM_mid hm hlt
    have hnext : 0x8000 ≤ (shiftM s').a * 2 ^ n := by
      rw [g2]
      rw [Nat.pow_succ] at hge
      have : s'.a * (2 ^ n * 2) = 2 * s'.a * 2 ^ n := by rw [Nat.mul_comm (2 ^ n) 2, ← Nat.mul_assoc, Nat.mul_comm s'.a 2]
      omega
    rw [renewM_succ] at he
    have fin : ∀ (r2 : Nat) (rest2 : List Value) (h : Heap), Hp h0 F h (refL A r2 (shiftM s') rest2) → ∃ m, m < n + 1 ∧ ∃ (first : Bool) (s' : Cod) (r' : Nat) (rest' : List Value), [Value.bool false] = [.bool first] ∧ Hp h0 F h (refL A r' s' rest') ∧ Mid s' ∧ s'.bs.length + m < 1000000000 ∧
      ((first = false ∧ 0x8000 ≤ s'.a ∧ s' = R) ∨ (s'.a < 0x8000 ∧ 0x8000 ≤ s'.a * 2 ^ m ∧ renewM m s' = R)) := fun r2 rest2 h H => by
      refine ⟨n, Nat.lt_succ_self n, false, shiftM s', r2, rest2, rfl, H, g1, by omega, ?_⟩
      by_cases h3 : 0x8000 ≤ (shiftM s').a
      · rw [if_pos h3] at he; exact .inl ⟨rfl, h3, he⟩
      · rw [if_neg h3] at he; exact .inr ⟨by omega, hnext, he⟩
    try simp only [ptr_some_eq, add_mk, Nat.zero_add, Nat.add_zero]
    refine ldI_of (H.cell 0 rfl rfl) ?_
    refine bindI_of (((2 * s'.a : Nat) : Int)) (by exact i64_at _ _ (by omega) (by omega) (by omega)) ?_
    refine stV_hp H 0 rfl (by first | exact Nat.le_of_ble_eq_true rfl | simp) rfl fun h hsz H => ?_
    refine ldI_of (H.cell 0 rfl rfl) ?_
    refine bindI_of (((2 * s'.c : Nat) : Int)) (by exact i64_at _ _ (by omega) (by omega) (by omega)) ?_
    refine bindI_of _ (mask32 (by omega)) ?_
    refine stV_hp H 0 rfl (by first | exact Nat.le_of_ble_eq_true rfl | simp) rfl fun h hsz H => ?_
    refine ldI_of (H.cell 0 rfl rfl) ?_
    refine bindI_of (((s'.t - 1 : Nat) : Int)) (by exact i64_at _ _ (by omega) (by omega) (by omega)) ?_
    refine stV_hp H 0 rfl (by first | exact Nat.le_of_ble_eq_true rfl | simp) rfl fun h hsz H => ?_
    refine ldI_of (H.cell 0 rfl rfl) ?_
    have H2 : Hp h0 F h (refL A r' { s' with a := 2 * s'.a, c := 2 * s'.c, t := s'.t - 1 } rest') := H
    refine bcase_of (fun h1 => ?_) fun h1 => ?_
    · have h1 : s'.t - 1 = 0 := by simp at h1; omega
      rw [shiftM_eq, if_pos h1] at fin
      refine rout_ok H2 hm.l (by show 2 * s'.c < _; omega) (by show s'.bs.length < _; omega) fun r2 rest2 h2 H => ?_
      exact fin r2 rest2 _ H
    · have h1 : ¬ s'.t - 1 = 0 := by simp at h1; omega
      rw [shiftM_eq, if_neg h1] at fin
      exact fin r' rest' _ H2

set_option maxRecDepth 100000 in
theorem rput_ok {h : Heap} {A : RP} {r : Nat} {s : Cod} {rest : List Value} {F : List Nat} {h0 : Heap} (H : Hp h0 F h (refL A r s rest)) (hs : Wf s) (hd : s.done = false) (hn : s.n < 16777216) (hl : 1 ≤ s.st.length) (hl2 : s.st.length ≤ 131072)
    {ctx : Int} {bit : Nat} (hbit : bit ≤ 1) {K : Value → Heap → Prop} {Kp : List PanicEntry → Heap → Prop} (hk : ∀ r' rest' h', Hp h0 F h' (refL A r' (putM s (idx ctx s.st.length) bit) rest') → K (.int .i64 0) h') :
    CP F_burinref4_Coder_Put #[.pointer (at0 A.p), .int .i64 ctx, .int .i64 (bit : Nat)] h K Kp := by
  refine call_burinref4_Coder_Put ?_
  unfold burinref4_Coder_Put
  try simp only [ptr_some_eq, add_mk, Nat.zero_add, Nat.add_zero]
  refine ldB_of (H.cell 0 rfl (i := 8) (congrArg (fun b => some (Value.bool b)) hd)) ?_
  refine bcase_false (by rfl) ?_
  refine ⟨fun vs h' => h' = h, ?_, ?_⟩
  · refine bcase_of (fun h1 => ?_) fun h1 => rfl
    refine bcase_of (fun h2 => ?_) fun h2 => rfl
    simp at h1 h2; omega
  · rintro h' u rfl
    refine ldI_of (H.cell 0 rfl rfl) ?_
    refine bcase_false (by simp; omega) ?_
    refine ldI_of (H.cell 0 rfl rfl) ?_
    refine bindI_of (((s.n + 1 : Nat) : Int)) (by exact i64_at _ _ (by omega) (by omega) (by omega)) ?_
    refine stV_hp H 0 rfl (by first | exact Nat.le_of_ble_eq_true rfl | simp) rfl fun h hsz H => ?_
    have H2 : Hp h0 F h (refL A r { s with n := s.n + 1 } rest) := H
    refine index_ok (m := s.st.length) (n := s.n + 1) H2 0 rfl hl hl2 ?_
    refine ⟨_, rfl, ?_⟩
    have hil := idx_lt ctx hl
    obtain ⟨x, hx⟩ : ∃ x, s.st[idx ctx s.st.length]? = some x := ⟨_, List.getElem?_eq_getElem hil⟩
    have hx94 : x < 94 := hs.st x (List.mem_of_getElem? hx)
    rw [putM_at s _ bit x hx] at hk
    have hM := set_lt hs.st (k := idx ctx s.st.length) (upM_lt hx94)
    have hL := set_lt hs.st (k := idx ctx s.st.length) (upL_lt hx94)
    generalize idx ctx s.st.length = k at hk hM hL hx hil ⊢
    have hr : x / 2 < 47 := by omega
    have hq1 := qOf_pos hr
    have hq2 := qOf_le hr
    have hlo := hs.lo
    have hhi := hs.hi
    have hca := hs.ca
    have hcp := pow_le hs.t1
    have hlen := hs.len
    have H := H2
    clear H2
    refine ldS_of (H.cell 0 rfl rfl) ?_
    refine ldS_of (H.cell 0 rfl rfl) ?_
    refine needs_of (by first | omega | (refine ⟨by omega, ?_⟩; show ((k : Nat) : Int) < ((s.st.length : Nat) : Int); omega)) ?_
    try simp only [ptr_some_eq, add_mk, Nat.zero_add, Int.toNat_natCast, Nat.mul_one]
    refine ldI_of (H.cell 2 rfl (i64s_get (half_get hx))) ?_
    refine needs_of (by first | omega | (refine ⟨by omega, ?_⟩; show ((k : Nat) : Int) < ((s.st.length : Nat) : Int); omega)) ?_
    try simp only [ptr_some_eq, add_mk, Nat.zero_add, Int.toNat_natCast, Nat.mul_one]
    refine ldI_of (H.cell 1 rfl (g_get hr (j := 0) rfl)) ?_
    refine ldI_of (H.cell 0 rfl rfl) ?_
    refine bindI_of (((s.a - qOf (x / 2) : Nat) : Int)) (by exact i64_at _ _ (by show (s.a : Int) - ((qOf (x / 2) : Nat) : Int) = _; omega) (by omega) (by omega)) ?_
    refine stV_hp H 0 rfl (by first | exact Nat.le_of_ble_eq_true rfl | simp) rfl fun h hsz H => ?_
    refine ldS_of (H.cell 0 rfl rfl) ?_
    refine needs_of (by first | omega | (refine ⟨by omega, ?_⟩; show ((k : Nat) : Int) < ((s.st.length : Nat) : Int); omega)) ?_
    try simp only [ptr_some_eq, add_mk, Nat.zero_add, Int.toNat_natCast, Nat.mul_one]
    refine ldI_of (H.cell 3 rfl (i64s_get (low_get hx))) ?_
    have H2 : Hp h0 F h (refL A r { s with n := s.n + 1, a := s.a - qOf (x / 2) } rest) := H
    have H := H2
    clear H2
    refine bcase_of (fun h1 => ?_) fun h1 => ?_
    · have h1 : bit = x % 2 := by simp at h1; omega
      rw [if_pos h1] at hk
      refine ldI_of (H.cell 0 rfl rfl) ?_
      refine bcase_of (fun h2 => ?_) fun h2 => ?_
      · have h2 : 0x8000 ≤ s.a - qOf (x / 2) := by simp at h2; omega
        rw [if_pos h2] at hk
        refine ldI_of (H.cell 0 rfl rfl) ?_
        refine bindI_of (((s.c + qOf (x / 2) : Nat) : Int)) (by exact i64_at _ _ (by show (s.c : Int) + ((qOf (x / 2) : Nat) : Int) = _; omega) (by omega) (by omega)) ?_
        refine stV_hp H 0 rfl (by first | exact Nat.le_of_ble_eq_true rfl | simp) rfl fun h hsz H => ?_
        exact hk r rest _ H
      · have h2 : ¬ 0x8000 ≤ s.a - qOf (x / 2) := by simp at h2; omega
        rw [if_neg h2] at hk
        refine ldI_of (H.cell 0 rfl rfl) ?_
        refine bcase_of (fun h3 => ?_) fun h3 => ?_
        · have h3 : s.a - qOf (x / 2) < qOf (x / 2) := by simp at h3; omega
          rw [if_pos h3] at hk
          refine stV_hp H 0 rfl (by first | exact Nat.le_of_ble_eq_true rfl | simp) rfl fun h hsz H => ?_
          have H2 : Hp h0 F h (refL A r { s with n := s.n + 1, a := qOf (x / 2) } rest) := H
          refine slk_ok H2 hx hx94 fun h H => ?_
          exact rrenew_ok (r := r) (rest := rest) (s := { s with a := qOf (x / 2), n := s.n + 1, st := s.st.set k (upM x) }) (H.as (by simp [refL, sideL, sideV, rrest])) ⟨hs.t1, hs.t12, by show s.c + qOf _ < 2 ^ (28 - s.t); omega, hs.l, hs.bs, hM⟩ hq1 (by show qOf _ < _; omega) (by show s.bs.length < _; omega) hk
        · have h3 : ¬ s.a - qOf (x / 2) < qOf (x / 2) := by simp at h3; omega
          rw [if_neg h3] at hk
          refine ldI_of (H.cell 0 rfl rfl) ?_
          refine bindI_of (((s.c + qOf (x / 2) : Nat) : Int)) (by exact i64_at _ _ (by show (s.c : Int) + ((qOf (x / 2) : Nat) : Int) = _; omega) (by omega) (by omega)) ?_
          refine stV_hp H 0 rfl (by first | exact Nat.le_of_ble_eq_true rfl | simp) rfl fun h hsz H => ?_
          have H2 : Hp h0 F h (refL A r { s with n := s.n + 1, a := s.a - qOf (x / 2), c := s.c + qOf (x / 2) } rest) := H
          refine slk_ok H2 hx hx94 fun h H => ?_
          exact rrenew_ok (r := r) (rest := rest) (s := { s with a := s.a - qOf (x / 2), c := s.c + qOf (x / 2), n := s.n + 1, st := s.st.set k (upM x) }) (H.as (by simp [refL, sideL, sideV, rrest])) ⟨hs.t1, hs.t12, by show s.c + qOf _ + (s.a - qOf _) < 2 ^ (28 - s.t); omega, hs.l, hs.bs, hM⟩ (by show 1 ≤ s.a - qOf _; omega) (by show s.a - qOf _ < _; omega) (by show s.bs.length < _; omega) hk
    · have h1 : ¬ bit = x % 2 := by simp at h1; omega
      rw [if_neg h1] at hk
      refine ldI_of (H.cell 0 rfl rfl) ?_
      refine bcase_of (fun h3 => ?_) fun h3 => ?_
      · have h3 : s.a - qOf (x / 2) < qOf (x / 2) := by simp at h3; omega
        rw [if_pos h3] at hk
        refine ldI_of (H.cell 0 rfl rfl) ?_
        refine bindI_of (((s.c + qOf (x / 2) : Nat) : Int)) (by exact i64_at _ _ (by show (s.c : Int) + ((qOf (x / 2) : Nat) : Int) = _; omega) (by omega) (by omega)) ?_
        refine stV_hp H 0 rfl (by first | exact Nat.le_of_ble_eq_true rfl | simp) rfl fun h hsz H => ?_
        have H2 : Hp h0 F h (refL A r { s with n := s.n + 1, a := s.a - qOf (x / 2), c := s.c + qOf (x / 2) } rest) := H
        refine sother_ok H2 hx hx94 fun h H => ?_
        exact rrenew_ok (r := r) (rest := rest) (s := { s with a := s.a - qOf (x / 2), c := s.c + qOf (x / 2), n := s.n + 1, st := s.st.set k (upL x) }) (H.as (by simp [refL, sideL, sideV, rrest])) ⟨hs.t1, hs.t12, by show s.c + qOf _ + (s.a - qOf _) < 2 ^ (28 - s.t); omega, hs.l, hs.bs, hL⟩ (by show 1 ≤ s.a - qOf _; omega) (by show s.a - qOf _ < _; omega) (by show s.bs.length < _; omega) hk
      · have h3 : ¬ s.a - qOf (x / 2) < qOf (x / 2) := by simp at h3; omega
        rw [if_neg h3] at hk
        refine stV_hp H 0 rfl (by first | exact Nat.le_of_ble_eq_true rfl | simp) rfl fun h hsz H => ?_
        have H2 : Hp h0 F h (refL A r { s with n := s.n + 1, a := qOf (x / 2) } rest) := H
        refine sother_ok H2 hx hx94 fun h H => ?_
        exact rrenew_ok (r := r) (rest := rest) (s := { s with a := qOf (x / 2), n := s.n + 1, st := s.st.set k (upL x) }) (H.as (by simp [refL, sideL, sideV, rrest])) ⟨hs.t1, hs.t12, by show s.c + qOf _ < 2 ^ (28 - s.t); omega, hs.l, hs.bs, hL⟩ hq1 (by show qOf _ < _; omega) (by show s.bs.length < _; omega) hk

end Go.Ar

/- ArV: the document's own coder in memory: States, Flush. -/
set_option linter.unusedVariables false
set_option linter.unusedSimpArgs false
namespace Go.Ar
open Go Go.Den Go.Den.Yteakipgcanafoaa

set_option maxRecDepth 100000 in
theorem rstates_ok {h : Heap} {p g gc sq bq n : Nat} {st : List Nat} {grest : List Value} {F : List Nat} {h0 : Heap} {t : TypeId} {T : List Value} {e5 : Ent} (H : Hp h0 F h (sideL p t T g gc sq bq n st grest e5)) (hst : ∀ x ∈ st, x < 94) (hl : 1 ≤ st.length) (hl2 : st.length ≤ 131072)
    {K : Value → Heap → Prop} {Kp : List PanicEntry → Heap → Prop} (hk : ∀ o orest h', Hp h0 F h' (sideL p t T g gc sq bq n st grest e5 ++ [⟨o, true, T_uint8, u8s st ++ orest⟩]) → K (.slice (at0 o) st.length (st.length + orest.length)) h') :
    CP F_burinref4_side_States #[.pointer (at0 p)] h K Kp := by
  refine call_burinref4_side_States ?_
  unfold burinref4_side_States
  refine ⟨fun m vs h' => ∃ i : Nat, i + m = st.length ∧ ((i = 0 ∧ vs = [.slice none 0 0, .int .i64 0] ∧ h' = h) ∨ ∃ o orest, 1 ≤ i ∧ vs = [.slice (at0 o) i (i + orest.length), .int .i64 (i : Int)] ∧ Hp h0 F h' (sideL p t T g gc sq bq n st grest e5 ++ [⟨o, true, T_uint8, u8s (st.take i) ++ orest⟩])),
    ⟨st.length, 0, by omega, .inl ⟨rfl, rfl, rfl⟩⟩, ?_⟩
  rintro m h' u b bn bc x ⟨i, hin, ⟨rfl, hx, rfl⟩ | ⟨o, orest, hi1, hx, H⟩⟩
  · injection hx with hx1 hx
    injection hx1 with e1 e2 e3
    injection hx with hx
    injection hx with _ hx
    subst e1 e2 e3 hx
    obtain ⟨y, hy⟩ : ∃ y, st[0]? = some y := ⟨_, List.getElem?_eq_getElem (by omega)⟩
    have hy94 := hst y (List.mem_of_getElem? hy)
    try simp only [ptr_some_eq, add_mk, Nat.zero_add, Nat.add_zero]
    refine ldS_of (H.cell 0 rfl rfl) ?_
    refine bcase_true (by exact decide_eq_true (by omega)) ?_
    refine ldS_of (H.cell 0 rfl rfl) ?_
    refine needs_of (by omega) ?_
    try simp only [ptr_some_eq, add_mk, Nat.zero_add]
    refine ldI_of (H.cell 2 rfl (i64s_get (half_get hy))) ?_
    refine bindI_of (((2 * (y / 2) : Nat) : Int)) (by exact i64_at _ _ (by omega) (by omega) (by omega)) ?_
    refine ldS_of (H.cell 0 rfl rfl) ?_
    refine needs_of (by omega) ?_
    try simp only [ptr_some_eq, add_mk, Nat.zero_add]
    refine ldI_of (H.cell 3 rfl (i64s_get (low_get hy))) ?_
    refine bindI_of (((y : Nat) : Int)) (by exact i64_at _ _ (by omega) (by omega) (by omega)) ?_
    refine bindI_of (((y : Nat) : Int)) (by exact u8_in y (by omega)) ?_
    refine newC_hp H fun w h H => ?_
    refine appC_new H (new := u8s [y]) (rdO_hp (o := 0) (n := 1 * 1) H 5 rfl (Nat.le_refl _)) rfl (Nat.le_refl _) (by decide) fun o orest h2 _ H => ?_
    refine bindI_of (((1 : Nat) : Int)) (by decide) ?_
    have ht : st.take 1 = [y] := by
      cases st with
      | nil => simp at hy
      | cons z zs => simp at hy; subst hy; rfl
    exact ⟨m - 1, by omega, 1, by omega, .inr ⟨o, orest, Nat.le_refl _, rfl, (H.pick [0, 1, 2, 3, 4, 6] (by decide) (by rw [ht]; rfl))⟩⟩
  · injection hx with hx1 hx
    injection hx1 with e1 e2 e3
    injection hx with hx
    injection hx with _ hx
    subst e1 e2 e3 hx
    try simp only [ptr_some_eq, add_mk, Nat.zero_add, Nat.add_zero]
    refine ldS_of (H.cell 0 rfl rfl) ?_
    rcases Nat.lt_or_ge bn st.length with h1 | h1
    · refine bcase_true (by exact decide_eq_true (by omega)) ?_
      obtain ⟨y, hy⟩ : ∃ y, st[bn]? = some y := ⟨_, List.getElem?_eq_getElem h1⟩
      have hy94 := hst y (List.mem_of_getElem? hy)
      refine ldS_of (H.cell 0 rfl rfl) ?_
      refine needs_of (by omega) ?_
      try simp only [ptr_some_eq, add_mk, Nat.zero_add, Int.toNat_natCast, Nat.mul_one]
      refine ldI_of (H.cell 2 rfl (i64s_get (half_get hy))) ?_
      refine bindI_of (((2 * (y / 2) : Nat) : Int)) (by exact i64_at _ _ (by omega) (by omega) (by omega)) ?_
      refine ldS_of (H.cell 0 rfl rfl) ?_
      refine needs_of (by omega) ?_
      try simp only [ptr_some_eq, add_mk, Nat.zero_add, Int.toNat_natCast, Nat.mul_one]
      refine ldI_of (H.cell 3 rfl (i64s_get (low_get hy))) ?_
      refine bindI_of (((y : Nat) : Int)) (by exact i64_at _ _ (by omega) (by omega) (by omega)) ?_
      refine bindI_of (((y : Nat) : Int)) (by exact u8_in y (by omega)) ?_
      refine newC_hp H fun w h H => ?_
      refine appC_own H 5 rfl (xs := u8s (st.take bn)) (new := u8s [y]) (by rw [u8s_length, List.length_take]; omega) (by rw [List.length_append, u8s_length, List.length_take]; omega) (rdO_hp (o := 0) (n := 1 * 1) H 6 rfl (Nat.le_refl _)) rfl (u8s_cells _) (by omega) fun o' orest' h2 H => ?_
      refine bindI_of (((bn + 1 : Nat) : Int)) (by exact i64_at _ _ (by omega) (by omega) (by omega)) ?_
      have ht : st.take (bn + 1) = st.take bn ++ [y] := by
        rw [List.take_add_one, hy]; rfl
      refine ⟨m - 1, by omega, bn + 1, by omega, .inr ⟨o', orest', by omega, ?_, ?_⟩⟩
      · simp only [List.length_append, u8s_length, List.length_take, List.length_cons, List.length_nil]
        rw [Nat.min_eq_left (by omega)]
      · rw [ht, u8s_app]
        exact H.take 6
    · refine bcase_false (by exact decide_eq_false (by omega)) ?_
      have e : bn = st.length := by omega
      subst e
      rw [List.take_of_length_le (Nat.le_refl _)] at H
      exact hk o orest _ H

theorem or63 (a b : Nat) (ha : a < 9223372036854775808) (hb : b < 9223372036854775808) : bitI .or .i64 a b = ((a ||| b : Nat) : Int) := (bits_nat .i64 63 (by decide) wr63 a b ha hb).2

set_option maxRecDepth 100000 in
theorem rflush_ok {h : Heap} {A : RP} {r : Nat} {s : Cod} {rest : List Value} {F : List Nat} {h0 : Heap} (H : Hp h0 F h (refL A r s rest)) (hs : Wf s) (hd : s.done = false)
    {K : Value → Heap → Prop} {Kp : List PanicEntry → Heap → Prop} (hk : ∀ r' rest' o orest h', Hp h0 F h' (refL A r' (flushM s) rest' ++ [⟨o, true, T_uint8, u8s (bytesM (flushM s)) ++ orest⟩]) →
      K (.tuple #[.slice (at0 o) (bytesM (flushM s)).length ((bytesM (flushM s)).length + orest.length), .int .i64 0]) h') :
    CP F_burinref4_Coder_Flush #[.pointer (at0 A.p)] h K Kp := by
  refine call_burinref4_Coder_Flush ?_
  unfold burinref4_Coder_Flush
  have hca := hs.ca
  have hcp := pow_le hs.t1
  have hlen := hs.len
  have hn := hs.n
  have hcl : flushC s < 2 ^ (28 - s.t) + 65536 := by
    unfold flushC
    simp only []
    split <;> omega
  have hfl : Fl { s with c := flushC s, done := true } 0 := by
    refine ⟨?_, hs.t12, hs.l, by show s.bs.length ≤ _; omega⟩
    show flushC s * 2 ^ s.t < 4294967296
    have h2 : flushC s * 2 ^ s.t < (2 ^ (28 - s.t) + 65536) * 2 ^ s.t := Nat.mul_lt_mul_of_pos_right hcl (Nat.two_pow_pos _)
    have h1 : (2 : Nat) ^ s.t ≤ 2 ^ 12 := Nat.pow_le_pow_right (by omega) hs.t12
    have h3 : 2 ^ (28 - s.t) * 2 ^ s.t = 2 ^ 28 := by rw [← Nat.pow_add]; congr 1; have := hs.t12; omega
    rw [Nat.add_mul, h3] at h2
    omega
  try simp only [ptr_some_eq, add_mk, Nat.zero_add, Nat.add_zero]
  refine ldB_of (H.cell 0 rfl (i := 8) (congrArg (fun b => some (Value.bool b)) hd)) ?_
  refine bcase_false (by rfl) ?_
  refine stV_hp H 0 rfl (by first | exact Nat.le_of_ble_eq_true rfl | simp) rfl fun h hsz H => ?_
  refine ldI_of (H.cell 0 rfl rfl) ?_
  refine ldI_of (H.cell 0 rfl rfl) ?_
  refine bindI_of (((s.c + s.a : Nat) : Int)) (by exact i64_at _ _ (by omega) (by omega) (by omega)) ?_
  refine ldI_of (H.cell 0 rfl rfl) ?_
  refine bindI_of (((s.c / 65536 * 65536 + 65535 : Nat) : Int)) (by exact (or63 _ 65535 (by omega) (by omega)).trans (by rw [flushC_or])) ?_
  refine stV_hp H 0 rfl (by first | exact Nat.le_of_ble_eq_true rfl | simp) rfl fun h hsz H => ?_
  refine ⟨fun vs h' => Hp h0 F h' (refL A r { s with c := flushC s, done := true } rest), ?_, ?_⟩
  · refine ldI_of (H.cell 0 rfl rfl) ?_
    rcases Nat.lt_or_ge (s.c / 65536 * 65536 + 65535) (s.c + s.a) with h1 | h1
    · simp only [decide_eq_false (show ¬ (((s.c / 65536 * 65536 + 65535 : Nat) : Int) ≥ ((s.c + s.a : Nat) : Int)) by omega)]
      have e : flushC s = s.c / 65536 * 65536 + 65535 := by unfold flushC; simp only []; rw [if_neg (by omega)]
      rw [e]
      exact H
    · simp only [decide_eq_true (show (((s.c / 65536 * 65536 + 65535 : Nat) : Int) ≥ ((s.c + s.a : Nat) : Int)) by omega)]
      refine bcase_true rfl ?_
      refine ldI_of (H.cell 0 rfl rfl) ?_
      refine bindI_of (((s.c / 65536 * 65536 + 65535 - 0x8000 : Nat) : Int)) (by exact i64_at _ _ (by omega) (by omega) (by omega)) ?_
      refine stV_hp H 0 rfl (by first | exact Nat.le_of_ble_eq_true rfl | simp) rfl fun h hsz H => ?_
      have e : flushC s = s.c / 65536 * 65536 + 65535 - 0x8000 := by unfold flushC; simp only []; rw [if_pos h1]
      rw [e]
      exact H
  · clear H
    intro h u H
    generalize hS : ({ s with c := flushC s, done := true } : Cod) = S at H hfl
    have hfm : flushM s = flushS (flushS S) := by rw [← hS]; rfl
    rw [hfm] at hk
    have step : ∀ {E : Cod} {k : Nat}, Fl E k → bitI .and .i64 (((E.c * 2 ^ E.t : Nat) : Int)) 4294967295 = ((E.c * 2 ^ E.t : Nat) : Int) := fun hf => mask32 hf.c
    have hsh : ∀ {E : Cod} {k : Nat}, Fl E k → shlI .i64 (E.c : Int) (E.t : Int) = ((E.c * 2 ^ E.t : Nat) : Int) := fun {E k} hf => shl_of (by show E.t ≤ 64; have := hf.t; omega) (i64_in _ (by omega) (by have := hf.c; omega))
    obtain ⟨hf1, hb1⟩ := flushS_fl hfl
    obtain ⟨hf2, hb2⟩ := flushS_fl hf1
    have hn0 := hfl.n
    refine ldI_of (H.cell 0 rfl rfl) ?_
    refine ldI_of (H.cell 0 rfl rfl) ?_
    refine bindI_of (((S.t : Nat) : Int)) (by exact u64_in _ (by omega) (by have := hfl.t; omega)) ?_
    refine needs_of (by omega) ?_
    refine bindI_of _ (hsh hfl) ?_
    refine bindI_of _ (step hfl) ?_
    refine stV_hp H 0 rfl (by first | exact Nat.le_of_ble_eq_true rfl | simp) rfl fun h hsz H => ?_
    have H2 : Hp h0 F h (refL A r { S with c := S.c * 2 ^ S.t } rest) := H
    refine rout_ok H2 hfl.l hfl.c (by show S.bs.length < _; omega) fun r2 rest2 h H => ?_
    have H2 : Hp h0 F h (refL A r2 (flushS S) rest2) := H
    have H := H2
    clear H2
    try simp only [ptr_some_eq, add_mk, Nat.zero_add]
    generalize hE1 : flushS S = E1 at hf1 hf2 hb1 hb2 H hk
    refine ldI_of (H.cell 0 rfl rfl) ?_
    refine ldI_of (H.cell 0 rfl rfl) ?_
    refine bindI_of (((E1.t : Nat) : Int)) (by exact u64_in _ (by omega) (by have := hf1.t; omega)) ?_
    refine needs_of (by omega) ?_
    refine bindI_of _ (hsh hf1) ?_
    refine bindI_of _ (step hf1) ?_
    refine stV_hp H 0 rfl (by first | exact Nat.le_of_ble_eq_true rfl | simp) rfl fun h hsz H => ?_
    have H2 : Hp h0 F h (refL A r2 { E1 with c := E1.c * 2 ^ E1.t } rest2) := H
    refine rout_ok H2 hf1.l hf1.c (by show E1.bs.length < _; omega) fun r' rest' h H => ?_
    have H2 : Hp h0 F h (refL A r' (flushS E1) rest') := H
    have H := H2
    clear H2
    try simp only [ptr_some_eq, add_mk, Nat.zero_add]
    have hEl := hf2.l
    generalize hE : flushS E1 = E at hb2 H hk hEl
    have hb : bytesM E = if E.l = 255 then ((E.bs ++ [E.l]).drop 1).dropLast else (E.bs ++ [E.l]).drop 1 := rfl
    refine ldS_of (H.cell 0 rfl rfl) ?_
    refine ⟨fun vs h' => vs = [.int .i64 ((if E.l = 255 then E.bs.length else E.bs.length + 1 : Nat) : Int)] ∧ h' = h, ?_, ?_⟩
    · refine ldS_of (H.cell 0 rfl rfl) ?_
      refine bindI_of (((E.bs.length : Nat) : Int)) (by exact i64_at _ _ (by omega) (by omega) (by omega)) ?_
      refine needs_of (by constructor <;> omega) ?_
      try simp only [ptr_some_eq, add_mk, Nat.zero_add, Int.toNat_natCast, Nat.mul_one]
      refine ldI_of (H.cell 4 rfl (last_get _ _ _)) ?_
      refine bcase_of (fun h1 => ?_) fun h1 => ?_
      · have h1 : E.l = 255 := by simp at h1; omega
        refine bindI_of (((E.bs.length : Nat) : Int)) (by exact i64_at _ _ (by omega) (by omega) (by omega)) ?_
        exact ⟨by rw [if_pos h1], by first | rfl | trivial⟩
      · have h1 : E.l ≠ 255 := by simp at h1; omega
        exact ⟨by rw [if_neg h1], by first | rfl | trivial⟩
    · rintro h' u y ⟨hy, rfl⟩
      injection hy with hy
      injection hy with _ hy
      have hlm : ∃ m : Nat, y = ((m : Nat) : Int) ∧ 1 ≤ m ∧ m ≤ E.bs.length + 1 ∧ (bytesM E).length = m - 1 ∧ 1 ≤ m - 1 ∧ ((u8s (E.bs ++ [E.l]) ++ rest').drop 1).take ((m - 1) * 1) = u8s (bytesM E) := by
        by_cases h1 : E.l = 255
        · rw [if_pos h1] at hy hb
          refine ⟨E.bs.length, hy, by omega, by omega, by rw [hb]; simp, by omega, ?_⟩
          rw [hb, Nat.mul_one, List.drop_append_of_le_length (by rw [u8s_length]; simp), List.take_append_of_le_length (by rw [List.length_drop, u8s_length]; simp)]
          unfold u8s
          rw [← List.map_drop, ← List.map_take, List.dropLast_eq_take]
          congr 2
          simp
        · rw [if_neg h1] at hy hb
          refine ⟨E.bs.length + 1, hy, by omega, by omega, by rw [hb]; simp, by omega, ?_⟩
          rw [hb, Nat.mul_one, List.drop_append_of_le_length (by rw [u8s_length]; simp), List.take_append_of_le_length (by rw [List.length_drop, u8s_length]; simp)]
          unfold u8s
          rw [← List.map_drop, ← List.map_take, List.take_of_length_le (by simp)]
      obtain ⟨m, rfl, hm1, hm2, hbl, hm3, hlist⟩ := hlm
      refine ldS_of (H.cell 0 rfl rfl) ?_
      refine needs_of (by omega) ?_
      refine needs_of (by simp; omega) ?_
      have e1 : subA (some ⟨r', 0, none⟩) (E.bs.length + 1 + rest'.length) (1 : Int).toNat 1 = some ⟨r', 1, none⟩ := by
        unfold subA
        rw [if_neg (by simp; omega)]
        rfl
      rw [e1]
      have e2 : ((m : Nat) : Int).toNat - (1 : Int).toNat = m - 1 := by simp
      rw [e2]
      have hr := rdO_hp H 4 (o := 1) (n := (m - 1) * 1) rfl (by simp [u8s_length]; omega)
      rw [hlist] at hr
      refine appC_new H hr (by rw [u8s_length, hbl]) (by omega) (by omega) fun o orest h' _ H => ?_
      have := hk r' rest' o orest _ H
      rw [hbl] at this
      exact this

end Go.Ar

/- WhG: burinref5.Put; rows of numbers; both Encode. -/
set_option linter.unusedVariables false
set_option linter.unusedSimpArgs false
namespace Go.Bm
open Go Go.Den Go.Den.Yteakipgcanafoaa
open Go.Ar (Cod CodOk codL idx putM putM_ok newC newC_ok refL RP flushM bytesM u8s)

theorem runW_ok {m n0 : Nat} {base : Int} {s : Cod} (hc : CodOk m n0 s) : ∀ (l : List Nat) (v : Nat), v < 512 → (∀ b ∈ l, b ≤ 1) → n0 + l.length ≤ 16777216 → CodOk m (n0 + l.length) (runW m base l (v, s)).2 ∧ (runW m base l (v, s)).1 < 512 := by
  intro l
  induction l generalizing n0 s with
  | nil => intro v hv _ _; exact ⟨hc, hv⟩
  | cons b l ih =>
    intro v hv hb hn
    rw [List.length_cons] at hn ⊢
    have h1 := ih (putM_ok hc (idx (base + (v : Int)) m) b (by omega)) (nextW v b) (nextW_lt hv (hb b (by simp))) (fun x hx => hb x (List.mem_cons_of_mem _ hx)) (by omega)
    rw [show n0 + (l.length + 1) = n0 + 1 + l.length by omega]
    exact h1
set_option maxRecDepth 100000 in
set_option maxHeartbeats 4000000 in
theorem rput5_ok {h0 h : Heap} {FF : List Nat} {A : RP} {r m n0 : Nat} {s : Cod} {rest : List Value} (HC : Hp h0 FF h (refL A r s rest)) (hc : CodOk m n0 s) (hm1 : 1 ≤ m) (hm2 : m ≤ 131072) {base v : Int} {none : Bool} (hb : 0 ≤ base ∧ base ≤ 131072) (hright : rightW v none) (hN : n0 + 64 ≤ 16777216)
    {K : Value → Heap → Prop} {Kp : List PanicEntry → Heap → Prop} (hk : ∀ r' rest' h', Hp h0 FF h' (refL A r' (runW m base (bitsL (sgW v none) (mW v none)) (1, s)).2 rest') → K (.int .i64 0) h') :
    CP F_burinref5_Put #[.pointer (at0 A.p), .int .i64 base, .agg #[.int .i64 v, .bool none]] h K Kp := by
  refine call_burinref5_Put ?_
  unfold burinref5_Put
  have H := Hp.nil h []
  refine newC_hp H fun r3 h H => ?_
  refine ldI_of (hpA H 0 rfl rfl) (ldB_of (hpA H 0 rfl rfl) ?_)
  refine bitsR_ok hright fun q qrest h1 H' => ?_
  replace H := H.join H' rfl
  clear H'
  refine ⟨_, _, _, rfl, ?_⟩
  have hs1 := sgW_le v none
  obtain ⟨bits, hbits⟩ : ∃ bits, bits = bitsL (sgW v none) (mW v none) := ⟨_, rfl⟩
  have hbl := bitsL_le (m := mW v none) hs1
  have hbn := bitsL_len (sgW v none) (mW v none)
  rw [← hbits] at hbl hbn hk H ⊢
  have HJ := HC.join H rfl
  have HJ : Hp h0 FF h1 (refL A r s rest ++ [⟨r3, true, T_api_Whole, [.int .i64 v, .bool none]⟩, ⟨q, true, T_int, ints bits ++ qrest⟩]) := HJ
  refine ⟨fun n vs h' => ∃ (i r' : Nat) (rest' : List Value), i + n = bits.length ∧ vs = [.int .i64 ((runW m base (bits.take i) (1, s)).1 : Nat), .int .i64 (i : Nat)] ∧
    Hp h0 FF h' (refL A r' (runW m base (bits.take i) (1, s)).2 rest' ++ [⟨r3, true, T_api_Whole, [.int .i64 v, .bool none]⟩, ⟨q, true, T_int, ints bits ++ qrest⟩]), ⟨bits.length, 0, r, rest, by omega, rfl, HJ⟩, ?_⟩
  clear H HJ
  rintro n h u x y ⟨i, r', rest', hin, hxx, H⟩
  injection hxx with hx1 hxx
  injection hxx with hx2 hxx
  injection hx1 with _ hx1
  injection hx2 with _ hx2
  subst hx1 hx2
  have htl : (bits.take i).length ≤ i := by rw [List.length_take]; exact Nat.min_le_left _ _
  refine bcase_dec (fun h4 => ?_) fun h4 => ?_
  · have hi : i < bits.length := by omega
    obtain ⟨b, hbi⟩ : ∃ b, bits[i]? = some b := ⟨_, List.getElem?_eq_getElem hi⟩
    have hb1 : b ≤ 1 := hbl b (List.mem_of_getElem? hbi)
    have hlen : (bits.take i).length = i := by rw [List.length_take]; omega
    obtain ⟨hcod, hnode⟩ := runW_ok (base := base) hc (bits.take i) 1 (by omega) (fun x hx => hbl x (List.mem_of_mem_take hx)) (by omega)
    have hsn : runW m base (bits.take (i + 1)) (1, s) = stepW m base (runW m base (bits.take i) (1, s)) b := by
      have e : bits.take (i + 1) = bits.take i ++ [b] := by
        rw [List.take_succ_eq_append_getElem hi]
        rw [(List.getElem?_eq_some_iff.1 hbi).2]
      rw [e, runW_snoc]
    rw [hlen] at hcod
    generalize runW m base (bits.take i) (1, s) = st at hcod hnode hsn H ⊢
    obtain ⟨node, S1⟩ := st
    have hnode : node < 512 := hnode
    have hcod : CodOk m (n0 + i) S1 := hcod
    have hcell : (ints bits ++ qrest)[0 + i * 1]? = some (.int .i64 (b : Nat)) := by
      rw [Nat.zero_add, Nat.mul_one, List.getElem?_append_left (by rw [ints_len]; exact hi)]
      exact ints_get hbi
    refine bindI_of ((base + (node : Int))) (by exact i64_in _ (by omega) (by omega)) ?_
    refine needs_of (by omega) (ptr_of (a := ⟨q, 0, Option.none⟩) ?_)
    rw [Int.toNat_natCast]
    refine ldI_of (hpA H 6 rfl hcell) ?_
    refine Go.Ar.rput_ok (bit := b) (H.give [0, 1, 2, 3, 4] (by decide) rfl) hcod.wf hcod.done (by rw [hcod.n]; omega) (by rw [hcod.len]; exact hm1) (by rw [hcod.len]; exact hm2) hb1 fun r4 rest4 h5 H' => ?_
    replace H := H.put [0, 1, 2, 3, 4] (by decide) rfl rfl H' rfl rfl
    clear H'
    rw [hcod.len] at H
    refine ⟨_, rfl, ?_⟩
    refine bcase_false (by rfl) ?_
    refine needs_of (by omega) (ptr_of (a := ⟨q, 0, Option.none⟩) ?_)
    refine ldI_of (hpA H 6 rfl hcell) ?_
    refine rnext5_ok hnode hb1 ?_
    refine ⟨_, rfl, ?_⟩
    refine bindI_of (((i + 1 : Nat) : Int)) (by exact i64_at _ _ (by omega) (by omega) (by omega)) ?_
    exact ⟨n - 1, by omega, i + 1, r4, rest4, by omega, by rw [hsn]; rfl, by rw [hsn]; exact H⟩
  · have hi : bits.length ≤ i := by omega
    rw [List.take_of_length_le hi] at H
    exact hk r' rest' h (Hp.pre H)
end Go.Bm

/- RfC: the program's walk over the pixels of a bitmap, whatever decides. -/
set_option linter.unusedVariables false
set_option linter.unusedSimpArgs false
namespace Go.Bm
open Go Go.Den Go.Den.Yteakipgcanafoaa

def upd (G : Int → Int → Bool) (a b : Int) (bit : Bool) : Int → Int → Bool := fun x y => if x = a ∧ y = b then bit else G x y
section
variable {σ : Type}
/-- The walk: so many pixels, each told by its neighbours. -/
def runN (W : Nat) (R : Int → Int → Bool) (dx dy : Int) (step : σ → Nat → Bool → (Bool × σ) ⊕ (Int × σ)) : Nat → (Int → Int → Bool) × σ → ((Int → Int → Bool) × σ) ⊕ (Int × σ)
  | 0, g => .inl g
  | k + 1, g => match runN W R dx dy step k g with
    | .inr e => .inr e
    | .inl (G, s) => match step s (ctxN G R dx dy ((k % W : Nat) : Int) ((k / W : Nat) : Int)) (G ((k % W : Nat) : Int) ((k / W : Nat) : Int)) with
      | .inl (bit, s') => .inl (upd G ((k % W : Nat) : Int) ((k / W : Nat) : Int) bit, s')
      | .inr e => .inr e
theorem runN_err {W : Nat} {R : Int → Int → Bool} {dx dy : Int} {step : σ → Nat → Bool → (Bool × σ) ⊕ (Int × σ)} {g : (Int → Int → Bool) × σ} {e : Int × σ} {k : Nat} (h : runN W R dx dy step k g = .inr e) : ∀ m, k ≤ m → runN W R dx dy step m g = .inr e := by
  intro m hm
  induction m with
  | zero => rw [show k = 0 by omega] at h; exact h
  | succ m ih =>
    rcases Nat.lt_or_ge m k with h1 | h1
    · rw [show k = m + 1 by omega] at h; exact h
    · unfold runN; rw [ih h1]
theorem runN_next {W x y : Nat} {R : Int → Int → Bool} {dx dy : Int} {step : σ → Nat → Bool → (Bool × σ) ⊕ (Int × σ)} {g : (Int → Int → Bool) × σ} {G : Int → Int → Bool} {s : σ} (hx : x < W) (h : runN W R dx dy step (y * W + x) g = .inl (G, s)) :
    runN W R dx dy step (y * W + x + 1) g = match step s (ctxN G R dx dy (x : Int) (y : Int)) (G (x : Int) (y : Int)) with
      | .inl (bit, s') => .inl (upd G (x : Int) (y : Int) bit, s')
      | .inr e => .inr e := by
  have e1 : (y * W + x) % W = x := by rw [Nat.mul_comm, Nat.mul_add_mod, Nat.mod_eq_of_lt hx]
  have e2 : (y * W + x) / W = y := by rw [Nat.mul_comm, Nat.mul_add_div (by omega), Nat.div_eq_of_lt hx, Nat.add_zero]
  rw [runN, h]
  simp only [e1, e2]

theorem recD_iface {t : TypeId} {x : Value} {older : List PanicEntry} {KN : FrameMode → Prop} {KI : TypeId → Value → FrameMode → Prop} (h : KI t x (.panicking ({ v := .iface t x, recovered := true } :: older))) : recD (.panicking ({ v := .iface t x, recovered := false } :: older)) KN KI := h
end
end Go.Bm

/- RfD: refine.run, whatever decides. -/
set_option linter.unusedVariables false
set_option linter.unusedSimpArgs false
namespace Go.Bm
open Go Go.Den Go.Den.Yteakipgcanafoaa

def PadZ (W X : Nat) (ws : List Nat) : Prop := ∀ y, y < X → ∀ x, W ≤ x → x < 64 * wds W → pix ws (wds W) x y = false
theorem getP_set {W X a b : Nat} {bit : Bool} {ws R : List Nat} (ha : a < W) (hb : b < X) (h : ∀ y, y < X → ∀ x, x < 64 * wds W → pix R (wds W) x y = if y = b ∧ x = a then bit else pix ws (wds W) x y) : getP R W X = upd (getP ws W X) (a : Int) (b : Int) bit := by
  funext x y
  show (decide (0 ≤ x ∧ 0 ≤ y ∧ x < (W : Int) ∧ y < (X : Int)) && pix R (wds W) x.toNat y.toNat) = if x = (a : Int) ∧ y = (b : Int) then bit else (decide (0 ≤ x ∧ 0 ≤ y ∧ x < (W : Int) ∧ y < (X : Int)) && pix ws (wds W) x.toNat y.toNat)
  by_cases h1 : 0 ≤ x ∧ 0 ≤ y ∧ x < W ∧ y < X
  · rw [decide_eq_true h1, Bool.true_and, Bool.true_and, h _ (by omega) _ (by unfold wds; omega)]
    by_cases h2 : x = a ∧ y = b
    · rw [if_pos (by omega), if_pos h2]
    · rw [if_neg (by omega), if_neg h2]
  · rw [decide_eq_false h1, Bool.false_and, Bool.false_and, if_neg (by omega)]
theorem PadZ.set {W X a b : Nat} {bit : Bool} {ws R : List Nat} (hz : PadZ W X ws) (ha : a < W) (h : ∀ y, y < X → ∀ x, x < 64 * wds W → pix R (wds W) x y = if y = b ∧ x = a then bit else pix ws (wds W) x y) : PadZ W X R := fun y hy x h1 h2 => by
  rw [h y hy x h2, if_neg (by omega)]
  exact hz y hy x h1 h2

theorem rowsN_len (R : Int → Int → Bool) (dx dy x y : Int) : ∀ d, (rowsN R dx dy x y d).length = 3 * d
  | 0 => rfl
  | d + 1 => by rw [rowsN, List.length_append, rowsN_len R dx dy x y d]; rfl
theorem rows_lt (B R : Int → Int → Bool) (dx dy x y : Int) (d : Nat) (hd : d ≤ 3) : bitsN 0 (ownB B x y ++ rowsN R dx dy x y d) < 8192 := by
  have := bitsN_lt (ownB B x y ++ rowsN R dx dy x y d) 0 0 (by decide)
  rw [List.length_append, rowsN_len] at this
  exact Nat.lt_of_lt_of_le this (Nat.pow_le_pow_right (n := 2) (by decide) (show 0 + (4 + 3 * d) ≤ 13 by omega))
theorem rows_succ (B R : Int → Int → Bool) (dx dy x y : Int) (d : Nat) : bitsN 0 (ownB B x y ++ rowsN R dx dy x y (d + 1)) =
    bitsN 0 (ownB B x y ++ rowsN R dx dy x y d) * 8 + (R (x - 1 - dx) (y + ((d : Int) - 1) - dy)).toNat * 4 + (R (x - dx) (y + ((d : Int) - 1) - dy)).toNat * 2 + (R (x + 1 - dx) (y + ((d : Int) - 1) - dy)).toNat := by
  rw [rowsN, ← List.append_assoc, bitsN_app _ (rowB3 _ _ _ _)]
  simp only [rowB3, bitsN]
  omega

def runE (r9 r7 r5 r3 r1 p q p2 q2 W X N cc W2 X2 N2 cc2 : Nat) (dx dy : Int) (rest rest2 : List Value) (ws2 ws : List Nat) : List Ent :=
  [⟨r9, true, T_api_Errno, [.int .i64 0]⟩, ⟨r7, true, T_int, [.int .i64 dy]⟩, ⟨r5, true, T_int, [.int .i64 dx]⟩, ⟨r3, true, T_p_bitmap_Map, [.pointer (at0 p2)]⟩, ⟨r1, true, T_p_bitmap_Map, [.pointer (at0 p)]⟩,
    mapE p q W X N cc, ⟨q, true, T_uint64, u64s ws ++ rest⟩, mapE p2 q2 W2 X2 N2 cc2, ⟨q2, true, T_uint64, u64s ws2 ++ rest2⟩]

end Go.Bm

/- ArW: what the coders answer where they do not code: contexts out of range, a bit that is none, a coder that is done; Over. -/
set_option linter.unusedVariables false
set_option linter.unusedSimpArgs false
namespace Go.Ar
open Go Go.Den Go.Den.Yteakipgcanafoaa

set_option maxRecDepth 100000 in
theorem made_bad {h : Heap} {n : Int} (hn : n < 1 ∨ 131072 < n) {K : Value → Heap → Prop} {Kp : List PanicEntry → Heap → Prop}
    (hk : ∀ (cs : List Value) (h' : Heap), cs.length = 190 → (∀ v ∈ cs, v.oneCell' = true) → hext h h' → K (.tuple #[.agg cs.toArray, .bool false]) h') : CP F_arith_made #[.int .i64 n] h K Kp := by
  refine call_arith_made ?_
  unfold arith_made
  have H := Hp.nil h []
  refine newC_hp H fun r h H => ?_
  rcases Int.lt_or_le n 1 with h1 | h1
  · refine bcase_true (by exact decide_eq_true h1) ?_
    refine stVs_all H 0 rfl (by kernel_rfl) (List.all_eq_true.1 (by kernel_rfl)) fun h' hsz H' => ?_
    refine ldAll_hp H' 0 rfl (by kernel_rfl) ?_
    exact hk _ _ (by kernel_rfl) (List.all_eq_true.1 (by kernel_rfl)) H'.hext
  · have h2 : 131072 < n := by omega
    refine bcase_false (by exact decide_eq_false (by omega)) ?_
    refine bcase_true (by exact decide_eq_true h2) ?_
    refine stVs_all H 0 rfl (by kernel_rfl) (List.all_eq_true.1 (by kernel_rfl)) fun h' hsz H' => ?_
    refine ldAll_hp H' 0 rfl (by kernel_rfl) ?_
    exact hk _ _ (by kernel_rfl) (List.all_eq_true.1 (by kernel_rfl)) H'.hext

set_option maxRecDepth 100000 in
theorem new_bad {h : Heap} {n : Int} (hn : n < 1 ∨ 131072 < n) {K : Value → Heap → Prop} {Kp : List PanicEntry → Heap → Prop}
    (hk : ∀ h', hext h h' → K (.tuple #[.pointer none, .int .i64 40]) h') : CP F_arith_New #[.int .i64 n] h K Kp := by
  refine call_arith_New ?_
  unfold arith_New
  refine made_bad hn fun cs h2 hcs hone e => ?_
  refine ⟨cs, hcs, false, rfl, ?_⟩
  have H := (Hp.nil h []).ext e
  refine newC_hp H fun t h H => ?_
  refine needs_of hcs ?_
  refine stVs_all H 0 rfl (hcs.trans (by kernel_rfl)) hone fun h' hsz H => ?_
  refine bcase_true (by rfl) ?_
  exact hk _ H.hext

theorem put_bad {h : Heap} {p q r : Nat} {s : Cod} {rest : List Value} {F : List Nat} {h0 : Heap} (H : Hp h0 F h (codL p q r s rest)) (hd : s.done = false) {ctx b : Int} (hb0 : b ≠ 0) (hb1 : b ≠ 1)
    {K : Value → Heap → Prop} {Kp : List PanicEntry → Heap → Prop} (hk : K (.int .i64 42) h) : CP F_arith_Coder_Put #[.pointer (at0 p), .int .i64 ctx, .int .i64 b] h K Kp := by
  refine call_arith_Coder_Put ?_
  unfold arith_Coder_Put
  refine ⟨fun vs h' => False, ?_, fun h u hf => hf.elim⟩
  try simp only [ptr_some_eq, add_mk, Nat.zero_add, Nat.add_zero]
  refine ldB_of (H.cell 0 rfl (app_get hR 6 (congrArg (fun b => some (Value.bool b)) hd))) ?_
  refine bcase_false (by rfl) ?_
  refine bcase_true (by simpa using hb0) ?_
  refine bcase_true (by simpa using hb1) ?_
  exact hk
theorem put_done {h : Heap} {p q r : Nat} {s : Cod} {rest : List Value} {F : List Nat} {h0 : Heap} (H : Hp h0 F h (codL p q r s rest)) (hd : s.done = true) {ctx b : Int}
    {K : Value → Heap → Prop} {Kp : List PanicEntry → Heap → Prop} (hk : K (.int .i64 43) h) : CP F_arith_Coder_Put #[.pointer (at0 p), .int .i64 ctx, .int .i64 b] h K Kp := by
  refine call_arith_Coder_Put ?_
  unfold arith_Coder_Put
  refine ⟨fun vs h' => False, ?_, fun h u hf => hf.elim⟩
  try simp only [ptr_some_eq, add_mk, Nat.zero_add, Nat.add_zero]
  refine ldB_of (H.cell 0 rfl (app_get hR 6 (congrArg (fun b => some (Value.bool b)) hd))) ?_
  refine bcase_true (by rfl) ?_
  exact hk
theorem flush_done {h : Heap} {p q r : Nat} {s : Cod} {rest : List Value} {F : List Nat} {h0 : Heap} (H : Hp h0 F h (codL p q r s rest)) (hd : s.done = true)
    {K : Value → Heap → Prop} {Kp : List PanicEntry → Heap → Prop} (hk : K (.tuple #[.slice none 0 0, .int .i64 43]) h) : CP F_arith_Coder_Flush #[.pointer (at0 p)] h K Kp := by
  refine call_arith_Coder_Flush ?_
  unfold arith_Coder_Flush
  try simp only [ptr_some_eq, add_mk, Nat.zero_add, Nat.add_zero]
  refine ldB_of (H.cell 0 rfl (app_get hR 6 (congrArg (fun b => some (Value.bool b)) hd))) ?_
  refine bcase_true (by rfl) ?_
  exact hk
theorem rput_bad {h : Heap} {A : RP} {r : Nat} {s : Cod} {rest : List Value} {F : List Nat} {h0 : Heap} (H : Hp h0 F h (refL A r s rest)) (hd : s.done = false) {ctx b : Int} (hb0 : b ≠ 0) (hb1 : b ≠ 1)
    {K : Value → Heap → Prop} {Kp : List PanicEntry → Heap → Prop} (hk : K (.int .i64 42) h) : CP F_burinref4_Coder_Put #[.pointer (at0 A.p), .int .i64 ctx, .int .i64 b] h K Kp := by
  refine call_burinref4_Coder_Put ?_
  unfold burinref4_Coder_Put
  try simp only [ptr_some_eq, add_mk, Nat.zero_add, Nat.add_zero]
  refine ldB_of (H.cell 0 rfl (i := 8) (congrArg (fun b => some (Value.bool b)) hd)) ?_
  refine bcase_false (by rfl) ?_
  refine ⟨fun vs h' => False, ?_, fun h u hf => hf.elim⟩
  refine bcase_true (by simpa using hb0) ?_
  refine bcase_true (by simpa using hb1) ?_
  exact hk

end Go.Ar

/- ArX: what a call on rows of one's own leaves: the rows that came in, and another known row. -/
set_option linter.unusedVariables false
set_option linter.unusedSimpArgs false
namespace Go.Ar
open Go Go.Den Go.Den.Yteakipgcanafoaa

theorem keeps_of {h0 h h' : Heap} {L A B : List Ent} (H : Hp h0 [] h L) (ix : List Nat) (hA : ix.map (fun k => L[k]?) = A.map some) (hw : A.all Ent.w = true) (k : Nat) {en : Ent} (he : L[k]? = some en) (hk : k ∉ ix) (H' : Hp h (A.map Ent.b) h' B) :
    hkeep (fun b => b < h0.size ∨ b = en.b) h h' := by
  refine ⟨H'.fr.1, fun b hb hR => H'.fr.2 b hb fun hm => ?_⟩
  obtain ⟨e, heA, rfl⟩ := List.mem_map.1 hm
  obtain ⟨j, hj⟩ := List.getElem?_of_mem heA
  obtain ⟨i, hi1, hi2⟩ := ix_get hA hj
  rcases hR with h1 | h1
  · rcases H.wr i e hi2 (List.all_eq_true.1 hw e heA) with h2 | h2
    · simp at h2
    · omega
  · have := H.nd i e k en hi2 he h1
    subst this
    exact hk (List.mem_of_getElem? hi1)
theorem cell_lt {h : Heap} {a : Addr} {v : Value} (hc : hcell h a = some v) : a.block < h.size := by
  rcases Nat.lt_or_ge a.block h.size with h1 | h1
  · exact h1
  · simp [hcell, Array.getElem?_eq_none h1] at hc

end Go.Ar

/- ArY: the law ArithCodes, said of memory. -/
set_option linter.unusedVariables false
set_option linter.unusedSimpArgs false
namespace Go.Ar
open Go Go.Den Go.Den.Yteakipgcanafoaa

/-- One decision, whatever its bit: what both coders become. -/
def putB (s : Cod) (k : Nat) (b : Int) : Cod := if b = 0 then putM s k 0 else if b = 1 then putM s k 1 else s
def ansB (b : Int) : Int := if b = 0 then 0 else if b = 1 then 0 else 42
theorem putB_ok {m n : Nat} {s : Cod} (h : CodOk m n s) (k : Nat) (b : Int) (hn : n < 16777216) : ∃ n', n' ≤ n + 1 ∧ CodOk m n' (putB s k b) := by
  unfold putB
  split
  · exact ⟨n + 1, Nat.le_refl _, putM_ok h k 0 hn⟩
  · split
    · exact ⟨n + 1, Nat.le_refl _, putM_ok h k 1 hn⟩
    · exact ⟨n, Nat.le_succ n, h⟩
theorem putI_ok {h : Heap} {p q r : Nat} {s : Cod} {rest : List Value} {F : List Nat} {h0 : Heap} (H : Hp h0 F h (codL p q r s rest)) {m n : Nat} (hs : CodOk m n s) (hn : n < 16777216) (hm1 : 1 ≤ m) (hm2 : m ≤ 131072) {ctx b : Int}
    {K : Value → Heap → Prop} {Kp : List PanicEntry → Heap → Prop} (hk : ∀ r' rest' h', Hp h0 F h' (codL p q r' (putB s (idx ctx m) b) rest') → K (.int .i64 (ansB b)) h') :
    CP F_arith_Coder_Put #[.pointer (at0 p), .int .i64 ctx, .int .i64 b] h K Kp := by
  unfold putB ansB at hk
  by_cases h0' : b = 0
  · subst h0'
    exact put_ok (bit := 0) H hs.wf hs.done (by rw [hs.n]; exact hn) (by rw [hs.len]; exact hm1) (by rw [hs.len]; exact hm2) (by decide) fun r' rest' h' H' => hk r' rest' h' (by rw [hs.len] at H'; exact H')
  · by_cases h1 : b = 1
    · subst h1
      exact put_ok (bit := 1) H hs.wf hs.done (by rw [hs.n]; exact hn) (by rw [hs.len]; exact hm1) (by rw [hs.len]; exact hm2) (by decide) fun r' rest' h' H' => hk r' rest' h' (by rw [hs.len] at H'; exact H')
    · rw [if_neg h0', if_neg h1, if_neg h0', if_neg h1] at hk
      exact put_bad H hs.done h0' h1 (hk r rest h H)
theorem rputI_ok {h : Heap} {A : RP} {r : Nat} {s : Cod} {rest : List Value} {F : List Nat} {h0 : Heap} (H : Hp h0 F h (refL A r s rest)) {m n : Nat} (hs : CodOk m n s) (hn : n < 16777216) (hm1 : 1 ≤ m) (hm2 : m ≤ 131072) {ctx b : Int}
    {K : Value → Heap → Prop} {Kp : List PanicEntry → Heap → Prop} (hk : ∀ r' rest' h', Hp h0 F h' (refL A r' (putB s (idx ctx m) b) rest') → K (.int .i64 (ansB b)) h') :
    CP F_burinref4_Coder_Put #[.pointer (at0 A.p), .int .i64 ctx, .int .i64 b] h K Kp := by
  unfold putB ansB at hk
  by_cases h0' : b = 0
  · subst h0'
    exact rput_ok (bit := 0) H hs.wf hs.done (by rw [hs.n]; exact hn) (by rw [hs.len]; exact hm1) (by rw [hs.len]; exact hm2) (by decide) fun r' rest' h' H' => hk r' rest' h' (by rw [hs.len] at H'; exact H')
  · by_cases h1 : b = 1
    · subst h1
      exact rput_ok (bit := 1) H hs.wf hs.done (by rw [hs.n]; exact hn) (by rw [hs.len]; exact hm1) (by rw [hs.len]; exact hm2) (by decide) fun r' rest' h' H' => hk r' rest' h' (by rw [hs.len] at H'; exact H')
    · rw [if_neg h0', if_neg h1, if_neg h0', if_neg h1] at hk
      exact rput_bad H hs.done h0' h1 (hk r rest h H)

end Go.Ar

/- PgA: pages, the program's and the document's; bitmaps that are lent. -/
set_option linter.unusedVariables false
set_option linter.unusedSimpArgs false
namespace Go.Bm
open Go Go.Den Go.Den.Yteakipgcanafoaa

theorem newC_hpx {h0 h : Heap} {F : List Nat} {L : List Ent} (H : Hp h0 F h L) {t : TypeId} {cs : List Value} {K : Nat → Heap → Prop} (hk : ∀ r h', hext h h' → Hp h0 F h' (L ++ [⟨r, true, t, cs⟩]) → K r h') : newC h cs t K := hk _ _ (hext.push h _) (H.new t cs)
theorem rdO_ext {h h' : Heap} (e : hext h h') {a : Option Addr} {n : Nat} {vs : List Value} (hr : rdO h a n vs) : rdO h' a n vs :=
  Fr.rdO (F := []) ⟨e.1, fun b hb _ => e.2 b hb⟩ (fun _ _ => by simp) hr

theorem setAll_app : ∀ (B0 : List Ent) (ix : List Nat) (L D : List Ent), B0.length = ix.length → setAll L ix (B0 ++ D) = setL L ix B0 ++ D
  | [], [], L, D, _ => by rw [List.nil_append, setAll_nil]; unfold setL; rfl
  | b :: B0, i :: ix, L, D, h => by
    show setAll L (i :: ix) (b :: (B0 ++ D)) = setL L (i :: ix) (b :: B0) ++ D
    unfold setAll setL
    exact setAll_app B0 ix _ D (by simpa using h)
  | [], _ :: _, _, _, h => by cases h
  | _ :: _, [], _, _, h => by cases h
theorem Hp.backD {h0 h h' : Heap} {F : List Nat} {L A B0 D : List Ent} (H : Hp h0 F h L) (ix : List Nat) (hnd : ix.Nodup) (hA : ix.map (fun k => L[k]?) = A.map some) (hw : A.all Ent.w = true) (H' : Hp h (A.map Ent.b) h' (B0 ++ D)) (hB : B0.all Ent.w = true) (hD : D.all Ent.w = true) (hl : B0.length = ix.length) :
    Hp h0 F h' (setL L ix B0 ++ D) := (H.back ix hnd hA hw H' (by rw [List.all_append, hB, hD]; rfl) (by rw [List.length_append]; omega)).as (setAll_app B0 ix L D hl)
theorem Slot.rdO' {h0 h : Heap} {F : List Nat} {L D : List Ent} {t : TypeId} {sz n c : Nat} {q : Option Addr} {xs : List Value} (hd : Slot t sz D q n c xs) (H : Hp h0 F h L) (hs : ∀ e ∈ D, e ∈ L) : rdO h q (n * sz) xs := by
  obtain ⟨hl, ⟨rfl, rfl, rfl, rfl⟩ | ⟨b, rest, rfl, rfl, hc⟩⟩ := hd
  · rw [Nat.zero_mul] at hl ⊢
    rw [List.length_eq_zero_iff.1 hl]
    exact rfl
  · exact H.rdO_mem (hs _ (List.mem_singleton.2 rfl)) hl

/-! ### bitmaps that are lent -/
set_option maxRecDepth 100000 in
theorem lendB_ok {hB : Heap} {w g : Int} {b : Option Addr} {bc : Nat} {ws : List Nat} (hr : rdO hB b (ws.length * 1) (u64s ws)) (hl : ws.length < 1048577) {K : Value → Heap → Prop} {Kp : List PanicEntry → Heap → Prop}
    (hk : ∀ o rest c h', (u64s ws ++ (u64s (List.replicate 7 42405) ++ rest)).length = c → Hp hB [] h' [⟨o, true, T_uint64, u64s ws ++ (u64s (List.replicate 7 42405) ++ rest)⟩] → K (.agg #[.int .i64 w, .int .i64 g, .slice (at0 o) ws.length c]) h') :
    CP F_burinkit_LendBitmap #[.agg #[.int .i64 w, .int .i64 g, .slice b ws.length bc]] hB K Kp := by
  refine call_burinkit_LendBitmap ?_
  unfold burinkit_LendBitmap
  have H := Hp.nil hB []
  refine newC_hp H fun e1 h H => ?_
  refine newC_hp H fun e2 h H => ?_
  try simp only [ptr_some_eq, add_mk, Nat.zero_add, Nat.add_zero]
  refine ldS_of (H.cell 0 rfl rfl) ?_
  obtain ⟨N, hN⟩ : ∃ N, N = ws.length + 7 := ⟨_, rfl⟩
  refine bindI_of (((N : Nat) : Int)) (by exact i64_at _ _ (by omega) (by omega) (by omega)) ?_
  refine needs_of (by simp; omega) ?_
  simp only [Int.toNat_natCast, u64s_zero]
  refine newC_hp H fun r h H => ?_
  refine ldS_of (H.cell 0 rfl rfl) ?_
  refine appC_in H 2 (xs := []) (rest := u64s (List.replicate N 0)) (c := N) rfl rfl (by simp [u64s]) (by simp [hN]) (H.rdO hr) (by rw [u64s_length, Nat.mul_one]) (u64s_cells ws) fun h H => ?_
  generalize hrest : (u64s (List.replicate N 0)).drop (ws.length * 1) = rest at H
  have hrl : rest.length = 7 := by rw [← hrest, List.length_drop, u64s_length, List.length_replicate]; omega
  refine ⟨fun n vs h' => ∃ (i : Nat) (rest : List Value), i + n = 7 ∧ rest.length = n ∧ vs = [.slice (at0 r) (ws.length + i) N, .int .i64 (i : Int)] ∧
      Hp hB [] h' [⟨e1, true, T_api_Bitmap, [.int .i64 w, .int .i64 g, .slice b ws.length bc]⟩, ⟨e2, true, T_api_Bitmap, [.int .i64 0, .int .i64 0, .slice none 0 0]⟩, ⟨r, true, T_uint64, u64s ws ++ u64s (List.replicate i 42405) ++ rest⟩],
    ⟨7, 0, rest, rfl, hrl, by simp, H.as (by simp [u64s])⟩, ?_⟩
  clear H
  rintro n h2 u x xn xc xi ⟨i, rest, hin, hrl, hx, H⟩
  injection hx with hx hx2
  injection hx with hx hxn hxc
  injection hx2 with hx2
  injection hx2 with _ hx2
  subst x xn xc xi
  refine bcase_of (fun h1 => ?_) fun h1 => ?_
  · have h1 : i < 7 := by simp at h1; omega
    refine newC_hp H fun t h H => ?_
    refine appC_in H 2 (xs := u64s ws ++ u64s (List.replicate i 42405)) (rest := rest) (c := N) rfl (by simp [u64s]) (by simp [u64s]; omega) (by omega) (rdO_hp (o := 0) (n := 1 * 1) H 3 rfl (Nat.le_refl _)) rfl (fun v hv => by rw [List.mem_singleton.1 hv]; rfl) fun h H => ?_
    refine bindI_of (((i + 1 : Nat) : Int)) (by exact i64_at _ _ (by omega) (by omega) (by omega)) ?_
    refine ⟨n - 1, by omega, i + 1, rest.drop (1 * 1), by omega, by rw [List.length_drop]; omega, by rw [Nat.add_assoc], ?_⟩
    refine (H.take 3).as ?_
    simp [u64s, List.replicate_succ']
  · have h1 : i = 7 := by simp at h1; omega
    subst h1
    refine ldI_of (H.cell 0 rfl rfl) ?_
    refine ldI_of (H.cell 0 rfl rfl) ?_
    refine ldS_of (H.cell 0 rfl rfl) ?_
    refine needs_of (by omega) ?_
    have e : subA (some ⟨r, 0, none⟩) N 0 1 = some ⟨r, 0, none⟩ := by unfold subA; split <;> rfl
    rw [e]
    simp only [Int.toNat_natCast, Nat.sub_zero]
    refine stV_hp H 1 rfl (by first | exact Nat.le_of_ble_eq_true rfl | simp) rfl fun h hsz H => ?_
    refine stV_hp H 1 rfl (by first | exact Nat.le_of_ble_eq_true rfl | simp) rfl fun h hsz H => ?_
    refine stV_hp H 1 rfl (by first | exact Nat.le_of_ble_eq_true rfl | simp) rfl fun h hsz H => ?_
    refine ldI_of (H.cell 1 rfl rfl) ?_
    refine ldI_of (H.cell 1 rfl rfl) ?_
    refine ldS_of (H.cell 1 rfl rfl) ?_
    refine hk r rest N _ ?_ (H.pick [2] (by decide) (by rw [← List.append_assoc]; rfl))
    simp only [List.length_append, u64s_length, List.length_replicate]
    omega

set_option maxRecDepth 100000 in
theorem backB_ok {h : Heap} {o c : Nat} {w g : Int} {b : Option Addr} {bc : Nat} {ws : List Nat} {rest : List Value} {F : List Nat} {h0 : Heap} (H : Hp h0 F h [⟨o, true, T_uint64, u64s ws ++ (u64s (List.replicate 7 42405) ++ rest)⟩]) (hr : rdO h b (ws.length * 1) (u64s ws)) (hl : ws.length < 1048577)
    (hc : (u64s ws ++ (u64s (List.replicate 7 42405) ++ rest)).length = c)
    {K : Value → Heap → Prop} {Kp : List PanicEntry → Heap → Prop} (hk : ∀ cs h', Hp h0 F h' [⟨o, true, T_uint64, cs⟩] → K (.bool true) h') :
    CP F_burinkit_BackBitmap #[.agg #[.int .i64 w, .int .i64 g, .slice (at0 o) ws.length c], .agg #[.int .i64 w, .int .i64 g, .slice b ws.length bc]] h K Kp := by
  refine call_burinkit_BackBitmap ?_
  unfold burinkit_BackBitmap
  have hlen := hc
  simp only [List.length_append, u64s_length, List.length_replicate] at hlen
  refine newC_hpx H fun e1 h1 x1 H => ?_
  refine newC_hpx H fun e2 h2 x2 H => ?_
  have hr := rdO_ext x2 (rdO_ext x1 hr)
  try simp only [ptr_some_eq, add_mk, Nat.zero_add, Nat.add_zero]
  refine ldI_of (H.cell 1 rfl rfl) ?_
  refine ldI_of (H.cell 1 rfl rfl) ?_
  refine ldS_of (H.cell 1 rfl rfl) ?_
  refine ldI_of (H.cell 2 rfl rfl) ?_
  refine ldI_of (H.cell 2 rfl rfl) ?_
  refine ldS_of (H.cell 2 rfl rfl) ?_
  refine eqB_ok (xs := ws) (ys := ws) (row_rdO H 0 rfl) hr (by omega) fun h3 x3 => ?_
  have H := H.ext x3
  refine ⟨_, rfl, ?_⟩
  simp only [decide_true, and_self]
  refine ldS_of (H.cell 1 rfl rfl) ?_
  refine ldS_of (H.cell 2 rfl rfl) ?_
  refine bindI_of (((ws.length + 7 : Nat) : Int)) (by exact i64_at _ _ (by omega) (by omega) (by omega)) ?_
  refine needs_of (by omega) ?_
  refine ldS_of (H.cell 2 rfl rfl) ?_
  have e : subA (some ⟨o, 0, none⟩) c 0 1 = some ⟨o, 0, none⟩ := by unfold subA; split <;> rfl
  rw [e]
  simp only [Int.toNat_natCast, Nat.sub_zero]
  refine ⟨fun n vs h' => ∃ i : Nat, i + n = 7 ∧ vs = [.bool true, .int .i64 ((ws.length + i : Nat) : Int)] ∧ h' = h3, ⟨7, 0, rfl, rfl, rfl⟩, ?_⟩
  rintro n h2 u ok x ⟨i, hin, hx, rfl⟩
  injection hx with hx hx2
  injection hx with hx
  injection hx2 with hx2
  injection hx2 with _ hx2
  subst ok x
  refine bcase_of (fun h1 => ?_) fun h1 => ?_
  · have h1 : i < 7 := by simp at h1; omega
    refine bcase_true (by rfl) ?_
    refine needs_of (by omega) ?_
    simp only [ptr_some_eq, add_mk, Nat.zero_add, Int.toNat_natCast, Nat.mul_one]
    have hg : (u64s (List.replicate 7 42405))[i]? = some (.int .u64 ((42405 : Nat) : Int)) := u64s_get (by rw [List.getElem?_replicate, if_pos h1])
    refine ldI_of (H.cell 0 rfl (app_get (u64s_length ws) i (get_app hg))) ?_
    refine bindI_of (((ws.length + (i + 1) : Nat) : Int)) (by exact i64_at _ _ (by omega) (by omega) (by omega)) ?_
    exact ⟨n - 1, by omega, i + 1, by omega, rfl, by first | rfl | trivial⟩
  · have h1 : i = 7 := by simp at h1; omega
    subst h1
    have H := H.pre.pre
    refine ⟨fun n vs h' => ∃ (i : Nat) (cs : List Value), i + n = ws.length + 7 ∧ vs = [.int .i64 (i : Int)] ∧ cs.length = c ∧ Hp h0 F h' [⟨o, true, T_uint64, cs⟩], ⟨ws.length + 7, 0, _, by omega, rfl, hc, H⟩, ?_⟩
    clear H hr
    rintro n h2 u x ⟨i, cs, hin, hx, hcl, H⟩
    injection hx with hx
    injection hx with _ hx
    subst hx
    refine bcase_of (fun h1 => ?_) fun h1 => ?_
    · have h1 : i < ws.length + 7 := by simp at h1; omega
      refine needs_of (by omega) ?_
      simp only [ptr_some_eq, add_mk, Nat.zero_add, Int.toNat_natCast, Nat.mul_one]
      refine stV_hp H 0 rfl (by omega) rfl fun h hsz H => ?_
      refine bindI_of (((i + 1 : Nat) : Int)) (by exact i64_at _ _ (by omega) (by omega) (by omega)) ?_
      exact ⟨n - 1, by omega, i + 1, _, by omega, rfl, by rw [List.length_set]; exact hcl, H⟩
    · exact hk _ _ H

/-! ### sheets -/
def SheetP (w g d s : Int) : Prop := SizeP w g ∧ (d = 0 ∨ d = 1) ∧ 0 ≤ s ∧ s ≤ 1048576
/-! ### a page -/
structure Pg where
  W : Nat
  X : Nat
  d : Nat
  s : Nat
  ws : List Nat
  nx : Nat
  dn : Bool
structure PgOk (g : Pg) : Prop where
  size : SizeP (g.W : Int) (g.X : Int)
  len : g.ws.length = g.X * wds g.W
  w : W64 g.ws
  nx : g.nx ≤ g.X
  s : g.s ≤ 1048576
theorem PgOk.b {g : Pg} (h : PgOk g) : 1 ≤ g.W ∧ g.W ≤ 1048576 ∧ 1 ≤ g.X ∧ g.X ≤ 1048576 ∧ 1 ≤ g.ws.length ∧ g.ws.length ≤ 1048576 := by
  obtain ⟨W', X', e1, e2, hW1, hW2, hX1, hX2, hWX⟩ := size_nat h.size
  have e1 : g.W = W' := by omega
  have e2 : g.X = X' := by omega
  rw [h.len, e1, e2]
  have := hw_le hW1 hWX
  have h1 : 1 ≤ X' * wds W' := Nat.mul_pos hX1 (wds_pos hW1)
  omega
/-- All pixels of one colour. -/
def FullP (W X d : Nat) (R : List Nat) : Prop := R.length = X * wds W ∧ W64 R ∧ ∀ Y, Y < X → ∀ x', x' < 64 * wds W → pix R (wds W) x' Y = decide (d = 1 ∧ x' < W)
theorem FullP.eq {W X d : Nat} {R R' : List Nat} (h : FullP W X d R) (h' : FullP W X d R') : R = R' :=
  pix_ext h.1 h'.1 h.2.1 h'.2.1 fun y hy x hx => by rw [h.2.2 y hy x hx, h'.2.2 y hy x hx]
theorem pix_zero (n wd x y : Nat) : pix (List.replicate n 0) wd x y = false := by
  unfold pix
  rw [List.getD_eq_getElem?_getD]
  cases h : (List.replicate n 0)[y * wd + x / 64]? with
  | none => exact Nat.zero_testBit _
  | some v => rw [(List.mem_replicate.1 (List.mem_of_getElem? h)).2]; exact Nat.zero_testBit _

end Go.Bm

/- PgB: pages: Add, Stripe, End, Next, the program's and the document's. -/
set_option linter.unusedVariables false
set_option linter.unusedSimpArgs false
namespace Go.Bm
open Go Go.Den Go.Den.Yteakipgcanafoaa

/-- What a bitmap that is laid leaves. -/
def LaidP (g : Pg) (x y : Int) (op W2 X2 : Nat) (ws2 R : List Nat) : Prop := R.length = g.X * wds g.W ∧ W64 R ∧ ∀ Y, Y < g.X → ∀ x', x' < 64 * wds g.W → pix R (wds g.W) x' Y =
  if x ≤ x' ∧ (x' : Int) < x + W2 ∧ x' < g.W ∧ y ≤ Y ∧ (Y : Int) < y + X2 then opB op (pix g.ws (wds g.W) x' Y) (pix ws2 (wds W2) (x' - x).toNat (Y - y).toNat) else pix g.ws (wds g.W) x' Y
theorem LaidP.eq {g : Pg} {x y : Int} {op W2 X2 : Nat} {ws2 R R' : List Nat} (h : LaidP g x y op W2 X2 ws2 R) (h' : LaidP g x y op W2 X2 ws2 R') : R = R' :=
  pix_ext h.1 h'.1 h.2.1 h'.2.1 fun Y hY x' hx' => by rw [h.2.2 Y hY x' hx', h'.2.2 Y hY x' hx']
def LateP (g : Pg) (y h : Int) : Prop := g.dn = true ∨ y < g.nx ∨ g.s ≠ 0 ∧ (g.s : Int) - h < y - g.nx
def AddR (g : Pg) (x y op w h : Int) (ws2 : List Nat) (e : Int) (g' : Pg) : Prop :=
  ¬ (0 ≤ op ∧ op ≤ 4 ∧ MayP w h ws2) ∧ e = 150 ∧ g' = g ∨
  (0 ≤ op ∧ op ≤ 4 ∧ MayP w h ws2) ∧ LateP g y h ∧ e = 151 ∧ g' = g ∨
  (0 ≤ op ∧ op ≤ 4 ∧ MayP w h ws2) ∧ ¬ LateP g y h ∧ e = 0 ∧ ∃ R, LaidP g x y op.toNat w.toNat h.toNat ws2 R ∧ g' = { g with ws := R }
theorem AddR.det {g g1 g2 : Pg} {x y op w h e1 e2 : Int} {ws2 : List Nat} (h1 : AddR g x y op w h ws2 e1 g1) (h2 : AddR g x y op w h ws2 e2 g2) : e1 = e2 ∧ g1 = g2 := by
  rcases h1 with ⟨a, b, c⟩ | ⟨a, l, b, c⟩ | ⟨a, l, b, R, r, c⟩ <;> rcases h2 with ⟨a', b', c'⟩ | ⟨a', l', b', c'⟩ | ⟨a', l', b', R', r', c'⟩
  · exact ⟨b.trans b'.symm, c.trans c'.symm⟩
  · exact absurd a' a
  · exact absurd a' a
  · exact absurd a a'
  · exact ⟨b.trans b'.symm, c.trans c'.symm⟩
  · exact absurd l l'
  · exact absurd a a'
  · exact absurd l' l
  · refine ⟨b.trans b'.symm, ?_⟩
    rw [c, c', r.eq r']
theorem AddR.ok {g g' : Pg} {x y op w h e : Int} {ws2 : List Nat} (h1 : AddR g x y op w h ws2 e g') (hg : PgOk g) : PgOk g' := by
  rcases h1 with ⟨_, _, c⟩ | ⟨_, _, _, c⟩ | ⟨_, _, _, R, r, c⟩
  · rw [c]; exact hg
  · rw [c]; exact hg
  · rw [c]; exact ⟨hg.size, r.1, r.2.1, hg.nx, hg.s⟩

/-! ### Stripe, End, Next -/
def stripeG (g : Pg) (last : Int) : Int × Pg := if g.dn = true ∨ g.s = 0 ∨ g.nx = g.X ∨ last ≠ ((min (g.nx + g.s) g.X : Nat) : Int) - 1 then (151, g) else (0, { g with nx := min (g.nx + g.s) g.X })
theorem stripeG_ok {g : Pg} (h : PgOk g) (last : Int) : PgOk (stripeG g last).2 := by
  unfold stripeG
  split
  · exact h
  · exact ⟨h.size, h.len, h.w, Nat.min_le_right _ _, h.s⟩
theorem stripeG_same (g : Pg) (last : Int) : (stripeG g last).2.W = g.W ∧ (stripeG g last).2.X = g.X ∧ (stripeG g last).2.d = g.d ∧ (stripeG g last).2.s = g.s ∧ (stripeG g last).2.ws = g.ws ∧ (stripeG g last).2.dn = g.dn := by
  unfold stripeG; split <;> exact ⟨rfl, rfl, rfl, rfl, rfl, rfl⟩
/-- What End answers, and leaves. -/
def EndR (g : Pg) (e w b : Int) (bs : List Nat) (g' : Pg) : Prop :=
  (g.dn = true ∨ g.s ≠ 0 ∧ g.nx < g.X) ∧ e = 151 ∧ w = 0 ∧ b = 0 ∧ bs = [] ∧ g' = g ∨
  ¬ (g.dn = true ∨ g.s ≠ 0 ∧ g.nx < g.X) ∧ e = 0 ∧ w = (g.W : Nat) ∧ b = (g.X : Nat) ∧ bs = g.ws ∧ g' = { g with nx := g.X, dn := true }
theorem EndR.det {g g1 g2 : Pg} {e1 e2 w1 w2 b1 b2 : Int} {bs1 bs2 : List Nat} (h1 : EndR g e1 w1 b1 bs1 g1) (h2 : EndR g e2 w2 b2 bs2 g2) : e1 = e2 ∧ w1 = w2 ∧ b1 = b2 ∧ bs1 = bs2 ∧ g1 = g2 := by
  rcases h1 with ⟨a, b, c, d, e, f⟩ | ⟨a, b, c, d, e, f⟩ <;> rcases h2 with ⟨a', b', c', d', e', f'⟩ | ⟨a', b', c', d', e', f'⟩
  · exact ⟨b.trans b'.symm, c.trans c'.symm, d.trans d'.symm, e.trans e'.symm, f.trans f'.symm⟩
  · exact absurd a a'
  · exact absurd a' a
  · exact ⟨b.trans b'.symm, c.trans c'.symm, d.trans d'.symm, e.trans e'.symm, f.trans f'.symm⟩
theorem EndR.ok {g g' : Pg} {e w b : Int} {bs : List Nat} (h : EndR g e w b bs g') (hg : PgOk g) : PgOk g' ∧ bs.length ≤ 1048576 := by
  have hb := hg.b
  rcases h with ⟨a, b, c, d, e, f⟩ | ⟨a, b, c, d, e, f⟩
  · rw [f, e]; exact ⟨hg, by simp⟩
  · rw [f, e]; exact ⟨⟨hg.size, hg.len, hg.w, Nat.le_refl _, hg.s⟩, by omega⟩

end Go.Bm

/- PgC: the law PageExact, said of memory. -/
set_option linter.unusedVariables false
set_option linter.unusedSimpArgs false
namespace Go.Bm
open Go Go.Den Go.Den.Yteakipgcanafoaa

theorem one_may : MayP 1 1 [9223372036854775808] := by
  refine ⟨by unfold SizeP; omega, by decide, fun y hy => ?_⟩
  have : y = 0 := by simp at hy; omega
  subst this
  decide
theorem three_ws {R0 R : List Nat} (h0 : FullP 3 3 0 R0) (h : LaidP ⟨3, 3, 0, 2, R0, 0, false⟩ 0 0 0 1 1 [9223372036854775808] R) : R = [9223372036854775808, 0, 0] := by
  have hw3 : wds 3 = 1 := rfl
  obtain ⟨h1, h2, h3⟩ := h
  dsimp only at h1 h3
  rw [hw3] at h1 h3
  refine pix_ext (wd := 1) (h := 3) h1 rfl h2 (fun v hv => by simp at hv; rcases hv with rfl | rfl <;> decide) fun y hy x hx => ?_
  have := h3 y hy x hx
  have hz := h0.2.2 y hy x hx
  rw [hw3] at hz
  rw [this]
  have hx64 : x / 64 = 0 := by omega
  have hR : pix [9223372036854775808, 0, 0] 1 x y = decide (x = 0 ∧ y = 0) := by
    unfold pix
    rw [hx64]
    have hb : (9223372036854775808 : Nat) = 2 ^ 63 := rfl
    rcases (show y = 0 ∨ y = 1 ∨ y = 2 by omega) with rfl | rfl | rfl
    · show (9223372036854775808 : Nat).testBit _ = _
      rw [hb, Nat.testBit_two_pow, decide_eq_decide]
      omega
    · show (0 : Nat).testBit _ = _
      rw [Nat.zero_testBit, eq_comm, decide_eq_false_iff_not]; omega
    · show (0 : Nat).testBit _ = _
      rw [Nat.zero_testBit, eq_comm, decide_eq_false_iff_not]; omega
  rw [hR, hz]
  by_cases h4 : x = 0 ∧ y = 0
  · obtain ⟨rfl, rfl⟩ := h4
    rw [if_pos (by omega)]
    decide
  · rw [if_neg (by omega), decide_eq_false h4]
    simp

/-- What is to be done, as it lies in memory. -/
structure OpV (h : Heap) (a : Addr) (d x y op w b : Int) (ws : List Nat) : Prop where
  c0 : hcell h (a.add 0) = some (.int .i64 d)
  c1 : hcell h (a.add 1) = some (.int .i64 x)
  c2 : hcell h (a.add 2) = some (.int .i64 y)
  c3 : hcell h (a.add 3) = some (.int .i64 op)
  c4 : hcell h (a.add 4) = some (.int .i64 w)
  c5 : hcell h (a.add 5) = some (.int .i64 b)
  c6 : ∃ q c, hcell h (a.add 6) = some (.slice q ws.length c) ∧ rdO h q (ws.length * 1) (u64s ws)
  w64 : W64 ws
  len : ws.length < 140737488351300
  x : InI x
  y : InI y
  w : InI w
  b : InI b
def OpsV (h : Heap) (sq : Option Addr) (slen : Nat) : Prop := ∀ i, i < slen → ∃ a d x y op w b ws, sq = some a ∧ OpV h (a.add (i * 7)) d x y op w b ws
def DueV (h : Heap) (sq : Option Addr) (slen : Nat) : Prop := ∀ i, i < slen → ∃ a b, sq = some a ∧ hcell h (a.add (i * 1)) = some (.bool b)
end Go.Bm

/- PgD: a script of pages as it comes in as an argument: the law PageExact over it. -/
set_option linter.unusedVariables false
set_option linter.unusedSimpArgs false
namespace Go.Bm
open Go Go.Den Go.Den.Yteakipgcanafoaa

theorem list3 {α : Type} {l : List α} (h : l.length = 3) : ∃ a b c, l = [a, b, c] := by
  match l, h with
  | [a, b, c], _ => exact ⟨a, b, c, rfl⟩
theorem list4 {α : Type} {l : List α} (h : l.length = 4) : ∃ a b c d, l = [a, b, c, d] := by
  match l, h with
  | [a, b, c, d], _ => exact ⟨a, b, c, d, rfl⟩
theorem list6 {α : Type} {l : List α} (h : l.length = 6) : ∃ a b c d e f, l = [a, b, c, d, e, f] := by
  match l, h with
  | [a, b, c, d, e, f], _ => exact ⟨a, b, c, d, e, f, rfl⟩
theorem list7 {α : Type} {l : List α} (h : l.length = 7) : ∃ a b c d e f g, l = [a, b, c, d, e, f, g] := by
  match l, h with
  | [a, b, c, d, e, f, g], _ => exact ⟨a, b, c, d, e, f, g, rfl⟩
noncomputable abbrev TP := Go.Proofs.Try.prog
theorem one_of {P : Program} {h : Heap} {t : TypeId} {cs : List Value} {o : Nat} {v : Value} (k : P.cellsOf t = 1) (H : WDx P h t ((cs.drop o).take (P.cellsOf t))) (hv : cs[o]? = some v) : WDx P h t [v] := by
  rw [k] at H
  have : (cs.drop o).take 1 = [v] := by
    have ho := (List.getElem?_eq_some_iff.1 hv).1
    rw [List.drop_eq_getElem_cons ho]
    have := (List.getElem?_eq_some_iff.1 hv).2
    simp [this]
  rw [this] at H
  exact H
theorem inI_of {n : Int} (h : IntKind.i64.min ≤ n ∧ n ≤ IntKind.i64.max) : InI n := by
  have h1 : IntKind.i64.min = -9223372036854775808 := by decide
  have h2 : IntKind.i64.max = 9223372036854775807 := by decide
  rw [h1, h2] at h
  unfold InI
  omega
theorem u64s_ints {l : List Int} (h : ∀ x ∈ l, IntKind.u64.min ≤ x ∧ x ≤ IntKind.u64.max) : (l.map fun x => (.int .u64 x : Value)) = u64s (l.map Int.toNat) ∧ W64 (l.map Int.toNat) := by
  have h1 : IntKind.u64.min = 0 := by decide
  have h2 : IntKind.u64.max = 18446744073709551615 := by decide
  rw [h1, h2] at h
  constructor
  · unfold u64s
    rw [List.map_map]
    refine List.map_congr_left fun x hx => ?_
    have := h x hx
    show Value.int .u64 x = .int .u64 ((x.toNat : Nat) : Int)
    rw [Int.toNat_of_nonneg this.1]
  · intro y hy
    obtain ⟨x, hx, rfl⟩ := List.mem_map.1 hy
    have := h x hx
    show x.toNat < 18446744073709551616
    omega
theorem k_int : TP.cellsOf T_int = 1 := by kernel_rfl
theorem k_s_uint64 : TP.cellsOf T_s_uint64 = 1 := by kernel_rfl
theorem wd_words {h : Heap} {cs : List Value} (H : WDx TP h T_s_uint64 cs) :
    ∃ q cap, ∃ ws : List Nat, cs = [.slice q ws.length cap] ∧ ws.length < 140737488351300 ∧ rdO h q (ws.length * 1) (u64s ws) ∧ W64 ws := by
  obtain ⟨q, cap, l, rfl, h1, h2, h3, h4, h5⟩ := wd_ints (k := .u64) Go.Proofs.Try.underlying83 Go.Proofs.Try.underlying139 (by kernel_rfl) H
  obtain ⟨e1, e2⟩ := u64s_ints h5
  have k1 : TP.bytesOf T_uint64 = 8 := by kernel_rfl
  rw [k1] at h2
  have hr : reachBytes = 140737488351232 := rfl
  rw [e1] at h4
  exact ⟨q, cap, l.map Int.toNat, by simp, by simp; omega, by simpa using h4, e2⟩
/-- A bitmap that comes in. -/
theorem wd_bitmap {h : Heap} {cs : List Value} (H : WDx TP h T_api_Bitmap cs) :
    ∃ w b q cap, ∃ ws : List Nat, cs = [.int .i64 w, .int .i64 b, .slice q ws.length cap] ∧ InI w ∧ InI b ∧ ws.length < 140737488351300 ∧ rdO h q (ws.length * 1) (u64s ws) ∧ W64 ws := by
  obtain ⟨hl, hf⟩ := wd_struct Go.Proofs.Try.underlying85 H
  have k : TP.cellsOf T_api_Bitmap = 3 := by kernel_rfl
  rw [k] at hl
  obtain ⟨a, b, c, rfl⟩ := list3 hl
  obtain ⟨w, ew, iw⟩ := wd_int Go.Proofs.Try.underlying3 (one_of k_int (hf 0 _ rfl) (v := a) rfl)
  obtain ⟨b', eb, ib⟩ := wd_int Go.Proofs.Try.underlying3 (one_of k_int (hf 1 _ rfl) (v := b) rfl)
  obtain ⟨q, cap, ws, e2, g1, g2, g3⟩ := wd_words (one_of k_s_uint64 (hf 2 _ rfl) (v := c) rfl)
  simp only [List.cons.injEq, and_true] at ew eb e2
  subst ew eb e2
  exact ⟨w, b', q, cap, ws, rfl, inI_of iw, inI_of ib, g1, g2, g3⟩
end Go.Bm

/- PgF: what the laws PageLaid and PageStripes need besides. -/
set_option linter.unusedVariables false
set_option linter.unusedSimpArgs false
namespace Go.Bm
open Go Go.Den Go.Den.Yteakipgcanafoaa

theorem wi_ok {h : Heap} {i n : Int} (hn : 1 ≤ n) (hn2 : n < 1000000000) {K : Value → Heap → Prop} {Kp : List PanicEntry → Heap → Prop} (hk : ∀ z : Int, 0 ≤ z → z < n → K (.int .i64 z) h) : CP F_burinkit_Within #[.int .i64 i, .int .i64 n] h K Kp := by
  refine call_burinkit_Within ?_
  unfold burinkit_Within
  have h1 := Int.lt_tmod_of_pos i (b := n) (by omega)
  have h2 := Int.tmod_lt_of_pos i (b := n) (by omega)
  refine needs_of (by exact ⟨rfl, by omega⟩) ?_
  refine bindI_gen fun z ez => ?_
  subst ez
  refine bcase_dec (fun h3 => ?_) fun h3 => ?_
  · refine bindI_of ((i.tmod n + n)) (by exact i64_in _ (by omega) (by omega)) ?_
    exact hk _ (by omega) (by omega)
  · exact hk _ (by omega) (by omega)

theorem white_ok' {hB : Heap} {W X : Nat} (hs : SizeP (W : Int) (X : Int)) {K : Value → Heap → Prop} {Kp : List PanicEntry → Heap → Prop}
    (hk : ∀ ws q h, ws.length = X * wds W → W64 ws → (∀ x y, pix ws (wds W) x y = false) → Hp hB [] h [⟨q, true, T_uint64, u64s ws ++ []⟩] → K (.agg #[.int .i64 (W : Nat), .int .i64 (X : Nat), .slice (at0 q) ws.length ws.length]) h) :
    CP F_burinref0_White #[.int .i64 (W : Nat), .int .i64 (X : Nat)] hB K Kp := by
  refine white_ok hs fun q h H => ?_
  have := hk (List.replicate (X * wds W) 0) q h (by simp) (W64.zero _) (fun x y => pix_zero _ _ _ _) (H.as (by rw [List.append_nil]))
  rw [List.length_replicate] at this
  exact this

theorem may_of_pix {W X : Nat} {ws : List Nat} (hs : SizeP (W : Int) (X : Int)) (hl : ws.length = X * wds W) (hw : W64 ws) (hp : ∀ y, y < X → ∀ x, W ≤ x → x < 64 * wds W → pix ws (wds W) x y = false) : MayP (W : Int) (X : Int) ws := by
  obtain ⟨W', X', e1, e2, hW1, hW2, hX1, hX2, hWX⟩ := size_nat hs
  obtain rfl : W = W' := by omega
  refine ⟨hs, by simpa using hl, fun y hy => ?_⟩
  simp only [Int.toNat_natCast] at hy ⊢
  rw [mod_zero_bits]
  intro j hj
  unfold padn at hj
  have hwd : wds W = (W + 63) / 64 := rfl
  have := hp y hy (64 * (wds W - 1) + (63 - j)) (by omega) (by omega)
  unfold pix at this
  rw [show (64 * (wds W - 1) + (63 - j)) / 64 = wds W - 1 by omega, show 63 - (64 * (wds W - 1) + (63 - j)) % 64 = j by omega] at this
  exact this
theorem pix_of_may {W X : Nat} {ws : List Nat} (h : MayP (W : Int) (X : Int) ws) {x y : Nat} (hy : y < X) (h1 : W ≤ x) (h2 : x < 64 * wds W) : pix ws (wds W) x y = false := by
  have h3 := h.2.2 y (by simpa using hy)
  simp only [Int.toNat_natCast] at h3
  rw [mod_zero_bits] at h3
  have hwd : wds W = (W + 63) / 64 := rfl
  unfold padn at h3
  have := h3 (63 - x % 64) (by omega)
  unfold pix
  rw [show x / 64 = wds W - 1 by omega]
  exact this
theorem may_len {W X : Nat} {ws : List Nat} (h : MayP (W : Int) (X : Int) ws) : ws.length = X * wds W := by simpa using h.2.1

/-- A part of a bitmap, laid into a white one that begins 'j' rows below its top. -/
theorem part_ok {h0 h : Heap} {FF : List Nat} {L : List Ent} {q c W X n j : Nat} {ws : List Nat} {rest : List Value} (H : Hp h0 FF h L) (kq : Nat) (hq : L[kq]? = some ⟨q, true, T_uint64, u64s ws ++ rest⟩) (hs : SizeP (W : Int) (n : Int)) (hl : ws.length = n * wds W) (hw : W64 ws) (hz : ∀ x y, pix ws (wds W) x y = false)
    {q2 : Option Addr} {c2 : Nat} {ws2 : List Nat} (hr2 : ∀ h' R, Hp h0 FF h' (L.set kq ⟨q, true, T_uint64, u64s R ++ rest⟩) → rdO h' q2 (ws2.length * 1) (u64s ws2)) (hm : MayP (W : Int) (X : Int) ws2) (hw2 : W64 ws2) (hjn : j + n ≤ X)
    {op : Nat} (hop : op = 0 ∨ op = 4) {K : Value → Heap → Prop} {Kp : List PanicEntry → Heap → Prop}
    (hk : ∀ R h', R.length = n * wds W → W64 R → MayP (W : Int) (n : Int) R → (∀ Y, Y < n → ∀ x', x' < 64 * wds W → pix R (wds W) x' Y = pix ws2 (wds W) x' (Y + j)) →
      Hp h0 FF h' (L.set kq ⟨q, true, T_uint64, u64s R ++ rest⟩) → K (.tuple #[]) h') :
    CP F_burinref0_Lay #[.agg #[.int .i64 (W : Nat), .int .i64 (n : Nat), .slice (at0 q) ws.length c], .int .i64 0, .int .i64 (-(j : Int)), .int .i64 (op : Nat), .agg #[.int .i64 (W : Nat), .int .i64 (X : Nat), .slice q2 ws2.length c2]] h K Kp := by
  obtain ⟨W', X', e1, e2, hW1, hW2, hX1, hX2, hWX⟩ := size_nat hm.1
  obtain rfl : W = W' := by omega
  obtain rfl : X = X' := by omega
  refine lay_ok (ws := ws) H kq hq hs hl hw hr2 hm.1 (may_len hm) hw2 (x := 0) (y := -(j : Int)) ⟨by omega, by omega⟩ ⟨by omega, by omega⟩ (op := op) (by omega) fun R h' k1 k2 k3 H' => ?_
  have k4 : ∀ Y, Y < n → ∀ x', x' < 64 * wds W → pix R (wds W) x' Y = pix ws2 (wds W) x' (Y + j) := fun Y hY x' hx' => by
    rw [k3 Y hY x' hx', hz]
    by_cases h2 : x' < W
    · rw [if_pos (by omega), show ((x' : Int) - 0).toNat = x' by omega, show ((Y : Int) - -(j : Int)).toNat = Y + j by omega]
      rcases hop with rfl | rfl
      · show (false || _) = _
        simp
      · rfl
    · rw [if_neg (by omega), pix_of_may hm (by omega) (by omega) hx']
  exact hk R h' k1 k2 (may_of_pix hs k1 k2 fun y hy x h1 h2 => by rw [k4 y hy x h2]; exact pix_of_may hm (by omega) h1 h2) k4 H'

end Go.Bm

/- RfE: refine.Put: the decisions of a bitmap, coded by the program. -/
set_option linter.unusedVariables false
set_option linter.unusedSimpArgs false
namespace Go.Bm
open Go Go.Den Go.Den.Yteakipgcanafoaa
open Go.Ar (Cod CodOk codL codE putM idx putM_ok rowsV hR)

def stepP (m : Nat) (base : Int) (s : Cod) (n : Nat) (bit : Bool) : (Bool × Cod) ⊕ (Int × Cod) := .inl (bit, putM s (idx (base + (n : Int)) m) bit.toNat)
def SP (p q rc rb : Nat) (base : Int) (s : Cod) (M : List Ent) : Prop := ∃ r rest, M = codL p q r s rest ++ [⟨rc, true, T_p_arith_Coder, [.pointer (at0 p)]⟩, ⟨rb, true, T_int, [.int .i64 base]⟩]

/-- What refine.Put answers. -/
def ShiftP (dx dy : Int) : Prop := (-1048576 ≤ dx ∧ dx ≤ 1048576) ∧ -1048576 ≤ dy ∧ dy ≤ 1048576
def rfRun (m : Nat) (base : Int) (W X W2 X2 : Nat) (ws ws2 : List Nat) (dx dy : Int) (s : Cod) : ((Int → Int → Bool) × Cod) ⊕ (Int × Cod) := runN W (getP ws2 W2 X2) dx dy (stepP m base) (X * W) (getP ws W X, s)
theorem rfRun_inl {m : Nat} {base : Int} {W : Nat} {R : Int → Int → Bool} {dx dy : Int} (g : (Int → Int → Bool) × Cod) : ∀ k, ∃ g', runN W R dx dy (stepP m base) k g = .inl g'
  | 0 => ⟨_, rfl⟩
  | k + 1 => by
    obtain ⟨⟨G, s⟩, hg⟩ := rfRun_inl (m := m) (base := base) (W := W) (R := R) (dx := dx) (dy := dy) g k
    unfold runN
    rw [hg]
    exact ⟨_, rfl⟩

end Go.Bm

/- RfF: the document's side of refinement: the context of a pixel; a bitmap's decisions, coded. -/
set_option linter.unusedVariables false
set_option linter.unusedSimpArgs false
namespace Go.Bm
open Go Go.Den Go.Den.Yteakipgcanafoaa
open Go.Ar (Cod CodOk refL RP putM idx putM_ok)

def partL (B R : Int → Int → Bool) (dx dy x y : Int) (d e : Nat) : List Bool := ownB B x y ++ rowsN R dx dy x y d ++ (rowB3 R dx x (y + ((d : Int) - 1) - dy)).take e
theorem partL_lt (B R : Int → Int → Bool) (dx dy x y : Int) {d e : Nat} (hd : 3 * d + e ≤ 9) : bitsN 0 (partL B R dx dy x y d e) < 8192 := by
  have := bitsN_lt (partL B R dx dy x y d e) 0 0 (by decide)
  have hl : (partL B R dx dy x y d e).length ≤ 4 + 3 * d + e := by
    unfold partL
    rw [List.length_append, List.length_append, rowsN_len, List.length_take]
    have : (ownB B x y).length = 4 := rfl
    omega
  exact Nat.lt_of_lt_of_le this (Nat.pow_le_pow_right (n := 2) (by decide) (show 0 + (partL B R dx dy x y d e).length ≤ 13 by omega))
theorem take3 (R : Int → Int → Bool) (dx x Y : Int) : ∀ e, e < 3 → (rowB3 R dx x Y).take (e + 1) = (rowB3 R dx x Y).take e ++ [R (x - dx + ((e : Int) - 1)) Y]
  | 0, _ => by rw [show x - dx + (((0 : Nat) : Int) - 1) = x - 1 - dx by omega]; rfl
  | 1, _ => by rw [show x - dx + (((1 : Nat) : Int) - 1) = x - dx by omega]; rfl
  | 2, _ => by rw [show x - dx + (((2 : Nat) : Int) - 1) = x + 1 - dx by omega]; rfl
theorem partL_succ (B R : Int → Int → Bool) (dx dy x y : Int) {d e : Nat} (he : e < 3) : bitsN 0 (partL B R dx dy x y d (e + 1)) = 2 * bitsN 0 (partL B R dx dy x y d e) + (R (x - dx + ((e : Int) - 1)) (y + ((d : Int) - 1) - dy)).toNat := by
  unfold partL
  rw [take3 _ _ _ _ e he, ← List.append_assoc, bitsN_app _ [_]]
  rfl
theorem partL_row (B R : Int → Int → Bool) (dx dy x y : Int) (d : Nat) : partL B R dx dy x y d 3 = partL B R dx dy x y (d + 1) 0 := by
  unfold partL
  rw [List.take_zero, List.append_nil, rowsN, List.append_assoc]
  rfl

end Go.Bm

/- RfG: burinref8.Put. -/
set_option linter.unusedVariables false
set_option linter.unusedSimpArgs false
namespace Go.Bm
open Go Go.Den Go.Den.Yteakipgcanafoaa
open Go.Ar (Cod CodOk refL RP putM idx putM_ok)

theorem upd_self (G : Int → Int → Bool) (a b : Int) : upd G a b (G a b) = G := by
  funext x y
  unfold upd
  by_cases h : x = a ∧ y = b
  · rw [if_pos h, h.1, h.2]
  · rw [if_neg h]

end Go.Bm

/- RfH: refine.Encode and burinref8.Encode answer alike. -/
set_option linter.unusedVariables false
set_option linter.unusedSimpArgs false
namespace Go.Bm
open Go Go.Den Go.Den.Yteakipgcanafoaa
open Go.Ar (Cod CodOk codL refL RP putM idx putM_ok newC newC_ok flushM bytesM)

/-- What Encode answers. -/
def EncR (w b w2 b2 : Int) (ws ws2 : List Nat) (dx dy : Int) (e : Int) (bs : List Nat) : Prop :=
  ¬ (MayP w b ws ∧ MayP w2 b2 ws2) ∧ e = 62 ∧ bs = [] ∨
  (MayP w b ws ∧ MayP w2 b2 ws2) ∧ ¬ ShiftP dx dy ∧ e = 70 ∧ bs = [] ∨
  (MayP w b ws ∧ MayP w2 b2 ws2) ∧ ShiftP dx dy ∧ e = 0 ∧ ∃ G s', runN w.toNat (getP ws2 w2.toNat b2.toNat) dx dy (stepP 8192 0) (b.toNat * w.toNat) (getP ws w.toNat b.toNat, newC 8192) = .inl (G, s') ∧ CodOk 8192 (b.toNat * w.toNat) s' ∧ bs = bytesM (flushM s')
theorem EncR.det {w b w2 b2 : Int} {ws ws2 : List Nat} {dx dy e1 e2 : Int} {bs1 bs2 : List Nat} (h1 : EncR w b w2 b2 ws ws2 dx dy e1 bs1) (h2 : EncR w b w2 b2 ws ws2 dx dy e2 bs2) : e1 = e2 ∧ bs1 = bs2 := by
  rcases h1 with ⟨a, b, c⟩ | ⟨a, s, b, c⟩ | ⟨a, s, b, G, s1, r, _, c⟩ <;> rcases h2 with ⟨a', b', c'⟩ | ⟨a', s', b', c'⟩ | ⟨a', s', b', G', s1', r', _, c'⟩
  · exact ⟨b.trans b'.symm, c.trans c'.symm⟩
  · exact absurd a' a
  · exact absurd a' a
  · exact absurd a a'
  · exact ⟨b.trans b'.symm, c.trans c'.symm⟩
  · exact absurd s' s
  · exact absurd a a'
  · exact absurd s s'
  · refine ⟨b.trans b'.symm, ?_⟩
    rw [r] at r'
    injection r' with r'
    injection r' with _ r'
    rw [c, c', r']
theorem may_px {w b : Int} {ws : List Nat} (h : MayP w b ws) : 0 + b.toNat * w.toNat ≤ 16777216 := by
  obtain ⟨W, X, rfl, rfl, hW1, hW2, hX1, hX2, hWX⟩ := size_nat h.1
  simp only [Int.toNat_natCast]
  rw [Nat.mul_comm]
  omega

section
variable {hB : Heap} {w b w2 b2 : Int} {q1 q2 : Option Addr} {c1 c2 : Nat} {ws ws2 : List Nat} {dx dy : Int} {K : Value → Heap → Prop} {Kp : List PanicEntry → Heap → Prop}
end
end Go.Bm

/- WhH: rows of numbers; whole.Encode and burinref5.Encode. -/
set_option linter.unusedVariables false
set_option linter.unusedSimpArgs false
namespace Go.Bm
open Go Go.Den Go.Den.Yteakipgcanafoaa
open Go.Ar (Cod CodOk codL idx putM putM_ok newC newC_ok refL RP flushM bytesM u8s)

/-- A row of numbers in memory. -/
def whC (l : List (Int × Bool)) : List Value := l.flatMap fun x => [.int .i64 x.1, .bool x.2]
theorem whC_len (l : List (Int × Bool)) : (whC l).length = l.length * 2 := by
  induction l with
  | nil => rfl
  | cons x l ih =>
    have e : (whC (x :: l)).length = 2 + (whC l).length := by rw [show whC (x :: l) = ([.int .i64 x.1, .bool x.2] : List Value) ++ whC l from rfl, List.length_append]; rfl
    rw [e, ih, List.length_cons]; omega
theorem whC_get {l : List (Int × Bool)} {i : Nat} {x : Int × Bool} (h : l[i]? = some x) : (whC l)[i * 2]? = some (.int .i64 x.1) ∧ (whC l)[i * 2 + 1]? = some (.bool x.2) := by
  induction l generalizing i with
  | nil => rw [List.getElem?_nil] at h; cases h
  | cons y l ih =>
    show ([_, _] ++ whC l)[i * 2]? = _ ∧ ([_, _] ++ whC l)[i * 2 + 1]? = _
    cases i with
    | zero => rw [List.getElem?_cons_zero] at h; injection h with h; subst h; exact ⟨rfl, rfl⟩
    | succ i =>
      rw [List.getElem?_cons_succ] at h
      have := ih h
      rw [show (i + 1) * 2 = i * 2 + 1 + 1 by omega]
      exact this
theorem wh_at {h : Heap} {a : Option Addr} {l : List (Int × Bool)} (hr : rdO h a (l.length * 2) (whC l)) {i : Nat} {x : Int × Bool} (hi : l[i]? = some x) :
    ∃ ad, a = some ad ∧ hcell h ((ad.add (((i : Nat) : Int).toNat * 2)).add 0) = some (.int .i64 x.1) ∧ hcell h ((ad.add (((i : Nat) : Int).toNat * 2)).add 1) = some (.bool x.2) := by
  obtain ⟨h1, h2⟩ := whC_get hi
  obtain ⟨ad, rfl, h3⟩ := rdO_cell hr h1
  obtain ⟨ad', he, h4⟩ := rdO_cell hr h2
  injection he with he
  subst he
  exact ⟨ad, rfl, by rw [Int.toNat_natCast, Go.Ar.add_add']; exact h3, by rw [Int.toNat_natCast, Go.Ar.add_add']; exact h4⟩

/-- The coder's state after the numbers. -/
def encS (l : List (Int × Bool)) (s : Cod) : Cod := l.foldl (fun s x => (runW 512 0 (bitsL (sgW x.1 x.2) (mW x.1 x.2)) (1, s)).2) s
theorem encS_snoc (l : List (Int × Bool)) (x : Int × Bool) (s : Cod) : encS (l ++ [x]) s = (runW 512 0 (bitsL (sgW x.1 x.2) (mW x.1 x.2)) (1, encS l s)).2 := by
  unfold encS
  rw [List.foldl_append]
  rfl
def RightL (l : List (Int × Bool)) : Prop := ∀ x ∈ l, rightW x.1 x.2
def I64L (l : List (Int × Bool)) : Prop := ∀ x ∈ l, -9223372036854775808 ≤ x.1 ∧ x.1 < 9223372036854775808
theorem encS_step {n : Nat} {s : Cod} (hc : CodOk 512 n s) (v : Int) (none : Bool) (hn : n + 64 ≤ 16777216) : ∃ n', n' ≤ n + 64 ∧ CodOk 512 n' (runW 512 0 (bitsL (sgW v none) (mW v none)) (1, s)).2 := by
  have hb := bitsL_len (sgW v none) (mW v none)
  refine ⟨_, ?_, (runW_ok (base := 0) hc (bitsL (sgW v none) (mW v none)) 1 (by omega) (bitsL_le (m := mW v none) (sgW_le v none)) (by omega)).1⟩
  omega

/-- What Encode answers. -/
def EncWh (l : List (Int × Bool)) (e : Int) (bs : List Nat) : Prop :=
  ¬ RightL l ∧ e = 50 ∧ bs = [] ∨ RightL l ∧ e = 0 ∧ bs = bytesM (flushM (encS l (newC 512))) ∧ ∃ n, n ≤ 64 * l.length ∧ CodOk 512 n (encS l (newC 512))

theorem take_snoc {α : Type} {l : List α} {i : Nat} {x : α} (h : l[i]? = some x) : l.take (i + 1) = l.take i ++ [x] := by
  obtain ⟨hi, he⟩ := List.getElem?_eq_some_iff.1 h
  rw [List.take_succ_eq_append_getElem hi, he]

variable {hB : Heap} {q1 : Option Addr} {c1 : Nat} {l : List (Int × Bool)} {K : Value → Heap → Prop} {Kp : List PanicEntry → Heap → Prop}
set_option maxRecDepth 100000 in
set_option maxHeartbeats 2000000 in
theorem whEnc_ok (hr : rdO hB q1 (l.length * 2) (whC l)) (hv : I64L l) (hl : l.length ≤ 200)
    (hk : ∀ e bs D qo c h', EncWh l e bs → Slot T_uint8 1 D qo bs.length c (u8s bs) → Hp hB [] h' D → K (.tuple #[.slice qo bs.length c, .int .i64 e]) h') :
    CP F_whole_Encode #[.slice q1 l.length c1] hB K Kp := by
  refine call_whole_Encode ?_
  unfold whole_Encode
  refine ⟨fun n vs h' => ∃ i : Nat, i + n = l.length ∧ vs = [.int .i64 (i : Nat)] ∧ RightL (l.take i) ∧ Hp hB [] h' [], ⟨l.length, 0, by omega, rfl, (by intro x hx; rw [List.take_zero] at hx; cases hx), Hp.nil hB []⟩, ?_⟩
  rintro n h u x ⟨i, hin, hxx, hrt, H⟩
  injection hxx with hx1 hxx
  injection hx1 with _ hx1
  subst hx1
  refine bcase_dec (fun h4 => ?_) fun h4 => ?_
  · have hi : i < l.length := by omega
    obtain ⟨x, hx⟩ : ∃ x, l[i]? = some x := ⟨_, List.getElem?_eq_getElem hi⟩
    obtain ⟨ad, rfl, hc1, hc2⟩ := wh_at (H.rdO hr) hx
    refine needs_of (by omega) (ptr_of (a := ad) ?_)
    refine ldI_of hc1 (ldB_of hc2 ?_)
    refine newC_hp H fun r3 h H => ?_
    refine stV_hp H 0 rfl (Nat.le_of_ble_eq_true rfl) rfl fun h hz H => ?_
    refine stV_hp H 0 rfl (Nat.le_of_ble_eq_true rfl) rfl fun h hz H => ?_
    refine ldI_of (hpA H 0 rfl rfl) (ldB_of (hpA H 0 rfl rfl) ?_)
    refine wright_ok fun br h1 hbr e1 => ?_
    have H := H.ext e1
    refine ⟨_, rfl, ?_⟩
    refine bcase_not (fun h2 => ?_) fun h2 => ?_
    · exact hk 50 [] [] none 0 _ (.inl ⟨(fun hh => by rw [hbr.2 (hh x (List.mem_of_getElem? hx))] at h2; cases h2), rfl, rfl⟩) (Slot.nil _ _) (H.take 0)
    refine bindI_of (((i + 1 : Nat) : Int)) (by exact i64_at _ _ (by omega) (by omega) (by omega)) ?_
    refine ⟨n - 1, by omega, i + 1, by omega, rfl, ?_, H.take 0⟩
    rw [take_snoc hx]
    intro y hy
    rcases List.mem_append.1 hy with hy | hy
    · exact hrt y hy
    · rw [List.mem_singleton.1 hy]; exact hbr.1 h2
  have hR : RightL l := by rw [List.take_of_length_le (by omega)] at hrt; exact hrt
  clear hrt hin h4
  refine Go.Ar.new_ok (n := 512) (by decide) (by decide) fun p q r h H' => ?_
  replace H := H.join H' rfl
  clear H'
  refine ⟨_, _, rfl, ?_⟩
  refine bcase_false (by rfl) ?_
  refine ⟨fun n vs h' => ∃ (i r' n0 : Nat) (rest' : List Value), i + n = l.length ∧ vs = [.int .i64 (i : Nat)] ∧ n0 ≤ 64 * i ∧ CodOk 512 n0 (encS (l.take i) (newC 512)) ∧ Hp hB [] h' (codL p q r' (encS (l.take i) (newC 512)) rest'), ⟨l.length, 0, r, 0, [], by omega, rfl, by omega, newC_ok 512, H⟩, ?_⟩
  clear H
  rintro n h u x ⟨i, r', n0, rest', hin, hxx, hn0, hok, H⟩
  injection hxx with hx1 hxx
  injection hx1 with _ hx1
  subst hx1
  refine bcase_dec (fun h4 => ?_) fun h4 => ?_
  · have hi : i < l.length := by omega
    obtain ⟨x, hx⟩ : ∃ x, l[i]? = some x := ⟨_, List.getElem?_eq_getElem hi⟩
    obtain ⟨ad, rfl, hc1, hc2⟩ := wh_at (H.rdO hr) hx
    refine needs_of (by omega) (ptr_of (a := ad) ?_)
    refine ldI_of hc1 (ldB_of hc2 ?_)
    refine newC_hp H fun r3 h H => ?_
    refine stV_hp H 3 rfl (Nat.le_of_ble_eq_true rfl) rfl fun h hz H => ?_
    refine stV_hp H 3 rfl (Nat.le_of_ble_eq_true rfl) rfl fun h hz H => ?_
    refine ldI_of (hpA H 3 rfl rfl) (ldB_of (hpA H 3 rfl rfl) ?_)
    have hxm := List.mem_of_getElem? hx
    refine wput_ok (base := 0) (H.give [0, 1, 2] (by decide) rfl) hok (by decide) (by decide) (hv x hxm) (by omega) (fun h' hn H' => absurd ⟨by omega, by omega⟩ hn) (fun h' _ hn H' => absurd (hR x hxm) hn) fun r4 rest4 h5 _ _ H' => ?_
    replace H := H.put [0, 1, 2] (by decide) rfl rfl H' rfl rfl
    clear H'
    refine ⟨_, rfl, ?_⟩
    refine bcase_false (by rfl) ?_
    refine bindI_of (((i + 1 : Nat) : Int)) (by exact i64_at _ _ (by omega) (by omega) (by omega)) ?_
    obtain ⟨n', hn', hok'⟩ := encS_step hok x.1 x.2 (by omega)
    refine ⟨n - 1, by omega, i + 1, r4, n', rest4, by omega, rfl, by omega, ?_, ?_⟩
    · rw [take_snoc hx, encS_snoc]; exact hok'
    · rw [take_snoc hx, encS_snoc]; exact Hp.pre H
  have ht : l.take i = l := List.take_of_length_le (by omega)
  rw [ht] at hok H
  refine Go.Ar.flush_ok H hok.wf hok.done fun r3 rest3 o orest h' H' => ?_
  refine ⟨_, _, _, _, rfl, ?_⟩
  exact hk 0 _ [⟨o, true, T_uint8, u8s (bytesM (flushM (encS l (newC 512)))) ++ orest⟩] _ _ h' (.inr ⟨hR, rfl, rfl, n0, by omega, hok⟩) (Slot.one (by rw [Go.Ar.u8s_length, Nat.mul_one]) (by rw [List.length_append, Go.Ar.u8s_length, Nat.mul_one])) (Hp.suf H')
set_option maxRecDepth 100000 in
set_option maxHeartbeats 2000000 in
theorem whEnc5_ok (hr : rdO hB q1 (l.length * 2) (whC l)) (hv : I64L l) (hl : l.length ≤ 200)
    (hk : ∀ e bs D qo c h', EncWh l e bs → Slot T_uint8 1 D qo bs.length c (u8s bs) → Hp hB [] h' D → K (.tuple #[.slice qo bs.length c, .int .i64 e]) h') :
    CP F_burinref5_Encode #[.slice q1 l.length c1] hB K Kp := by
  refine call_burinref5_Encode ?_
  unfold burinref5_Encode
  refine ⟨fun n vs h' => ∃ i : Nat, i + n = l.length ∧ vs = [.int .i64 (i : Nat)] ∧ RightL (l.take i) ∧ Hp hB [] h' [], ⟨l.length, 0, by omega, rfl, (by intro x hx; rw [List.take_zero] at hx; cases hx), Hp.nil hB []⟩, ?_⟩
  rintro n h u x ⟨i, hin, hxx, hrt, H⟩
  injection hxx with hx1 hxx
  injection hx1 with _ hx1
  subst hx1
  refine bcase_dec (fun h4 => ?_) fun h4 => ?_
  · have hi : i < l.length := by omega
    obtain ⟨x, hx⟩ : ∃ x, l[i]? = some x := ⟨_, List.getElem?_eq_getElem hi⟩
    obtain ⟨ad, rfl, hc1, hc2⟩ := wh_at (H.rdO hr) hx
    refine needs_of (by omega) (ptr_of (a := ad) ?_)
    refine ldI_of hc1 (ldB_of hc2 ?_)
    refine rmay5_ok fun br h1 hbr e1 => ?_
    have H := H.ext e1
    refine ⟨_, rfl, ?_⟩
    refine bcase_not (fun h2 => ?_) fun h2 => ?_
    · exact hk 50 [] [] none 0 _ (.inl ⟨(fun hh => by rw [hbr.2 (hh x (List.mem_of_getElem? hx))] at h2; cases h2), rfl, rfl⟩) (Slot.nil _ _) (H.take 0)
    refine bindI_of (((i + 1 : Nat) : Int)) (by exact i64_at _ _ (by omega) (by omega) (by omega)) ?_
    refine ⟨n - 1, by omega, i + 1, by omega, rfl, ?_, H.take 0⟩
    rw [take_snoc hx]
    intro y hy
    rcases List.mem_append.1 hy with hy | hy
    · exact hrt y hy
    · rw [List.mem_singleton.1 hy]; exact hbr.1 h2
  have hR : RightL l := by rw [List.take_of_length_le (by omega)] at hrt; exact hrt
  clear hrt hin h4
  refine Go.Ar.rnew_ok (n := 512) (by decide) fun A r h H' => ?_
  replace H := H.join H' rfl
  clear H'
  refine ⟨_, rfl, ?_⟩
  refine ⟨fun n vs h' => ∃ (i r' n0 : Nat) (rest' : List Value), i + n = l.length ∧ vs = [.int .i64 (i : Nat)] ∧ n0 ≤ 64 * i ∧ CodOk 512 n0 (encS (l.take i) (newC 512)) ∧ Hp hB [] h' (refL A r' (encS (l.take i) (newC 512)) rest'), ⟨l.length, 0, r, 0, [], by omega, rfl, by omega, newC_ok 512, H⟩, ?_⟩
  clear H
  rintro n h u x ⟨i, r', n0, rest', hin, hxx, hn0, hok, H⟩
  injection hxx with hx1 hxx
  injection hx1 with _ hx1
  subst hx1
  refine bcase_dec (fun h4 => ?_) fun h4 => ?_
  · have hi : i < l.length := by omega
    obtain ⟨x, hx⟩ : ∃ x, l[i]? = some x := ⟨_, List.getElem?_eq_getElem hi⟩
    obtain ⟨ad, rfl, hc1, hc2⟩ := wh_at (H.rdO hr) hx
    refine needs_of (by omega) (ptr_of (a := ad) ?_)
    refine ldI_of hc1 (ldB_of hc2 ?_)
    have hxm := List.mem_of_getElem? hx
    refine rput5_ok (base := 0) H hok (by decide) (by decide) ⟨by omega, by omega⟩ (hR x hxm) (by omega) fun r4 rest4 h5 H => ?_
    refine ⟨_, rfl, ?_⟩
    refine bcase_false (by rfl) ?_
    refine bindI_of (((i + 1 : Nat) : Int)) (by exact i64_at _ _ (by omega) (by omega) (by omega)) ?_
    obtain ⟨n', hn', hok'⟩ := encS_step hok x.1 x.2 (by omega)
    refine ⟨n - 1, by omega, i + 1, r4, n', rest4, by omega, rfl, by omega, ?_, ?_⟩
    · rw [take_snoc hx, encS_snoc]; exact hok'
    · rw [take_snoc hx, encS_snoc]; exact H
  have ht : l.take i = l := List.take_of_length_le (by omega)
  rw [ht] at hok H
  refine Go.Ar.rflush_ok H hok.wf hok.done fun r3 rest3 o orest h' H' => ?_
  refine ⟨_, _, _, _, rfl, ?_⟩
  exact hk 0 _ [⟨o, true, T_uint8, u8s (bytesM (flushM (encS l (newC 512)))) ++ orest⟩] _ _ h' (.inr ⟨hR, rfl, rfl, n0, by omega, hok⟩) (Slot.one (by rw [Go.Ar.u8s_length, Nat.mul_one]) (by rw [List.length_append, Go.Ar.u8s_length, Nat.mul_one])) (Hp.suf H')
end Go.Bm

/- WhI: EqWholes. -/
set_option linter.unusedVariables false
set_option linter.unusedSimpArgs false
namespace Go.Bm
open Go Go.Den Go.Den.Yteakipgcanafoaa

variable {h : Heap} {a b : Option Addr} {ca cb : Nat} {la lb : List (Int × Bool)} {K : Value → Heap → Prop} {Kp : List PanicEntry → Heap → Prop}
set_option maxRecDepth 100000 in
set_option maxHeartbeats 2000000 in
theorem eqWh_ok (ha : rdO h a (la.length * 2) (whC la)) (hb : rdO h b (lb.length * 2) (whC lb)) (hl : la.length < 140737488351300)
    (hk : K (.bool (decide (la = lb))) h) :
    CP F_burinref0_EqWholes #[.slice a la.length ca, .slice b lb.length cb] h K Kp := by
  refine call_burinref0_EqWholes ?_
  unfold burinref0_EqWholes
  refine bcase_of (fun h1 => ?_) fun h1 => ?_
  · have h1 : la.length ≠ lb.length := by simp at h1; omega
    rw [decide_eq_false (fun e => h1 (congrArg List.length e))] at hk
    exact hk
  have h1 : la.length = lb.length := by simp at h1; omega
  refine ⟨fun n vs h' => ∃ i : Nat, h' = h ∧ vs = [.int .i64 (i : Int)] ∧ i + n = la.length ∧ la.take i = lb.take i, ⟨la.length, 0, rfl, rfl, by omega, rfl⟩, ?_⟩
  rintro n h' u x ⟨i, rfl, hx, hin, hti⟩
  injection hx with hx
  injection hx with _ hx
  subst hx
  refine bcase_dec (fun h2 => ?_) fun h2 => ?_
  · have h2 : i < la.length := by omega
    have h3 : i < lb.length := by omega
    obtain ⟨x, hxi⟩ : ∃ x, la[i]? = some x := ⟨_, List.getElem?_eq_getElem h2⟩
    obtain ⟨y, hyi⟩ : ∃ y, lb[i]? = some y := ⟨_, List.getElem?_eq_getElem h3⟩
    obtain ⟨aa, rfl, hc1, hc2⟩ := wh_at ha hxi
    obtain ⟨ba, rfl, hc3, hc4⟩ := wh_at hb hyi
    refine needs_of (by omega) (ptr_of (a := aa) ?_)
    refine needs_of (by omega) (ptr_of (a := ba) ?_)
    refine ldI_of hc1 (ldB_of hc2 (ldI_of hc3 (ldB_of hc4 ?_)))
    refine needs_of rfl ?_
    refine bcase_not (fun h4 => ?_) fun h4 => ?_
    · have h5 : x ≠ y := by rintro rfl; simp at h4
      rw [decide_eq_false (fun e => h5 (by subst e; rw [hxi] at hyi; injection hyi))] at hk
      exact hk
    · have h5 : x = y := by
        simp at h4
        exact Prod.ext h4.1 h4.2
      subst h5
      refine bindI_of (((i + 1 : Nat) : Int)) (by exact i64_at _ _ (by omega) (by omega) (by omega)) ?_
      exact ⟨n - 1, by omega, i + 1, rfl, rfl, by omega, by rw [take_snoc hxi, take_snoc hyi, hti]⟩
  · have e1 : la.take i = la := List.take_of_length_le (by omega)
    have e2 : lb.take i = lb := List.take_of_length_le (by omega)
    rw [e1, e2] at hti
    rw [decide_eq_true hti] at hk
    exact hk
end Go.Bm

/- RdA: the document's own decoder in memory; bytes that are lent. -/
set_option linter.unusedVariables false
set_option linter.unusedSimpArgs false
namespace Go.Ar
open Go Go.Den Go.Den.Yteakipgcanafoaa

/-! ### bytes that are lent -/
set_option maxRecDepth 100000 in
theorem lend_ok {hB : Heap} {b : Option Addr} {bc : Nat} {bs : List Nat} (hr : rdO hB b (bs.length * 1) (u8s bs)) (hl : bs.length < 140737488351300)
    {K : Value → Heap → Prop} {Kp : List PanicEntry → Heap → Prop} (hk : ∀ o rest c h', (u8s bs ++ (u8s (List.replicate 7 165) ++ rest)).length = c → Hp hB [] h' [⟨o, true, T_uint8, u8s bs ++ (u8s (List.replicate 7 165) ++ rest)⟩] → K (.slice (at0 o) bs.length c) h') :
    CP F_burinkit_Lend #[.slice b bs.length bc] hB K Kp := by
  refine call_burinkit_Lend ?_
  unfold burinkit_Lend
  have H := Hp.nil hB []
  obtain ⟨N, hN⟩ : ∃ N, N = bs.length + 7 := ⟨_, rfl⟩
  refine bindI_of (((N : Nat) : Int)) (by exact i64_at _ _ (by omega) (by omega) (by omega)) ?_
  refine needs_of (by simp; omega) ?_
  simp only [Int.toNat_natCast, u8s_zero]
  refine newC_hp H fun r h H => ?_
  refine appC_in H 0 (xs := []) (rest := u8s (List.replicate N 0)) (c := N) rfl rfl (by simp [u8s]) (by simp [hN]) (H.rdO hr) (by rw [u8s_length, Nat.mul_one]) (u8s_cells bs) fun h H => ?_
  generalize hrest : (u8s (List.replicate N 0)).drop (bs.length * 1) = rest at H
  have hrl : rest.length = 7 := by rw [← hrest, List.length_drop, u8s_length, List.length_replicate]; omega
  refine ⟨fun n vs h' => ∃ (i : Nat) (rest : List Value), i + n = 7 ∧ rest.length = n ∧ vs = [.slice (at0 r) (bs.length + i) N, .int .i64 (i : Int)] ∧ Hp hB [] h' [⟨r, true, T_uint8, u8s bs ++ u8s (List.replicate i 165) ++ rest⟩],
    ⟨7, 0, rest, rfl, hrl, by simp, H.as (by simp [u8s])⟩, ?_⟩
  clear H
  rintro n h2 u x xn xc xi ⟨i, rest, hin, hrl, hx, H⟩
  injection hx with hx hx2
  injection hx with hx hxn hxc
  injection hx2 with hx2
  injection hx2 with _ hx2
  subst x xn xc xi
  refine bcase_of (fun h1 => ?_) fun h1 => ?_
  · have h1 : i < 7 := by simp at h1; omega
    refine newC_hp H fun t h H => ?_
    refine appC_in H 0 (xs := u8s bs ++ u8s (List.replicate i 165)) (rest := rest) (c := N) rfl (by simp [u8s]) (by simp [u8s]; omega) (by omega) (rdO_hp (o := 0) (n := 1 * 1) H 1 rfl (Nat.le_refl _)) rfl (fun v hv => by rw [List.mem_singleton.1 hv]; rfl) fun h H => ?_
    refine bindI_of (((i + 1 : Nat) : Int)) (by exact i64_at _ _ (by omega) (by omega) (by omega)) ?_
    refine ⟨n - 1, by omega, i + 1, rest.drop (1 * 1), by omega, by rw [List.length_drop]; omega, by rw [Nat.add_assoc], ?_⟩
    refine (H.take 1).as ?_
    simp [u8s, List.replicate_succ']
  · have h1 : i = 7 := by simp at h1; omega
    subst h1
    refine needs_of (by omega) ?_
    have e : subA (some ⟨r, 0, none⟩) N 0 1 = some ⟨r, 0, none⟩ := by unfold subA; split <;> rfl
    rw [e]
    simp only [Int.toNat_natCast, Nat.sub_zero]
    refine hk r rest N _ ?_ (H.as (by rw [List.append_assoc]))
    simp only [List.length_append, u8s_length, List.length_replicate]
    omega

set_option maxRecDepth 100000 in
theorem back_ok {h : Heap} {o c : Nat} {b : Option Addr} {bc : Nat} {bs : List Nat} {rest : List Value} {F : List Nat} {h0 : Heap} (H : Hp h0 F h [⟨o, true, T_uint8, u8s bs ++ (u8s (List.replicate 7 165) ++ rest)⟩]) (hr : rdO h b (bs.length * 1) (u8s bs)) (hl : bs.length < 140737488351300)
    (hc : (u8s bs ++ (u8s (List.replicate 7 165) ++ rest)).length = c)
    {K : Value → Heap → Prop} {Kp : List PanicEntry → Heap → Prop} (hk : ∀ cs h', Hp h0 F h' [⟨o, true, T_uint8, cs⟩] → K (.bool true) h') :
    CP F_burinkit_Back #[.slice (at0 o) bs.length c, .slice b bs.length bc] h K Kp := by
  refine call_burinkit_Back ?_
  unfold burinkit_Back
  have hlen := hc
  simp only [List.length_append, u8s_length, List.length_replicate] at hlen
  refine eq_ok (xs := bs) (ys := bs) (row_rdO H 0 rfl) hr hl ?_
  refine ⟨_, rfl, ?_⟩
  simp only [decide_true]
  refine bindI_of (((bs.length + 7 : Nat) : Int)) (by exact i64_at _ _ (by omega) (by omega) (by omega)) ?_
  refine needs_of (by omega) ?_
  have e : subA (some ⟨o, 0, none⟩) c 0 1 = some ⟨o, 0, none⟩ := by unfold subA; split <;> rfl
  rw [e]
  simp only [Int.toNat_natCast, Nat.sub_zero]
  refine ⟨fun n vs h' => ∃ i : Nat, i + n = 7 ∧ vs = [.bool true, .int .i64 ((bs.length + i : Nat) : Int)] ∧ h' = h, ⟨7, 0, rfl, rfl, rfl⟩, ?_⟩
  rintro n h2 u ok x ⟨i, hin, hx, rfl⟩
  injection hx with hx hx2
  injection hx with hx
  injection hx2 with hx2
  injection hx2 with _ hx2
  subst ok x
  refine bcase_of (fun h1 => ?_) fun h1 => ?_
  · have h1 : i < 7 := by simp at h1; omega
    refine bcase_true (by rfl) ?_
    refine needs_of (by omega) ?_
    simp only [ptr_some_eq, add_mk, Nat.zero_add, Int.toNat_natCast, Nat.mul_one]
    have hg : (u8s (List.replicate 7 165))[i]? = some (.int .u8 ((165 : Nat) : Int)) := u8s_get (by rw [List.getElem?_replicate, if_pos h1])
    refine ldI_of (H.cell 0 rfl (app_get (u8s_length bs) i (get_app hg))) ?_
    refine bindI_of (((bs.length + (i + 1) : Nat) : Int)) (by exact i64_at _ _ (by omega) (by omega) (by omega)) ?_
    exact ⟨n - 1, by omega, i + 1, by omega, rfl, by first | rfl | trivial⟩
  · have h1 : i = 7 := by simp at h1; omega
    subst h1
    refine ⟨fun n vs h' => ∃ (i : Nat) (cs : List Value), i + n = bs.length + 7 ∧ vs = [.int .i64 (i : Int)] ∧ cs.length = c ∧ Hp h0 F h' [⟨o, true, T_uint8, cs⟩], ⟨bs.length + 7, 0, _, by omega, rfl, hc, H⟩, ?_⟩
    clear H hr
    rintro n h2 u x ⟨i, cs, hin, hx, hcl, H⟩
    injection hx with hx
    injection hx with _ hx
    subst hx
    refine bcase_of (fun h1 => ?_) fun h1 => ?_
    · have h1 : i < bs.length + 7 := by simp at h1; omega
      refine needs_of (by omega) ?_
      simp only [ptr_some_eq, add_mk, Nat.zero_add, Int.toNat_natCast, Nat.mul_one]
      refine stV_hp H 0 rfl (by omega) rfl fun h hsz H => ?_
      refine bindI_of (((i + 1 : Nat) : Int)) (by exact i64_at _ _ (by omega) (by omega) (by omega)) ?_
      exact ⟨n - 1, by omega, i + 1, _, by omega, rfl, by rw [List.length_set]; exact hcl, H⟩
    · exact hk _ _ H

/-! ### the document's decoder -/
def drrest (s : Dec) (bp : Option Addr) (bc : Nat) : List Value :=
  [.int .i64 (s.a : Nat), .int .i64 (s.c : Nat), .int .i64 (s.t : Nat), .slice bp s.b.length bc, .int .i64 (s.i : Nat)]
def refD (A : RP) (e : Ent) (bp : Option Addr) (bc : Nat) (s : Dec) : List Ent :=
  sideL A.p T_burinref4_Decoder (drrest s bp bc) A.g A.gc A.sq A.bq s.n s.st A.grest e

section
variable {h : Heap} {A : RP} {e : Ent} {bp : Option Addr} {bc : Nat} {s : Dec} {F : List Nat} {h0 : Heap}

theorem rbyte_ok (H : Hp h0 F h (refD A e bp bc s)) (hb : BOk e bp s.b) (hb8 : ∀ x ∈ s.b, x < 256) {i : Nat}
    {K : Value → Heap → Prop} {Kp : List PanicEntry → Heap → Prop} (hk : K (.int .i64 (byteD s i : Nat)) h) : CP F_burinref4_Decoder_byte #[.pointer (at0 A.p), .int .i64 (i : Nat)] h K Kp := by
  refine call_burinref4_Decoder_byte ?_
  unfold burinref4_Decoder_byte
  try simp only [ptr_some_eq, add_mk, Nat.zero_add, Nat.add_zero]
  refine ldS_of (H.cell 0 rfl rfl) ?_
  refine bcase_of (fun h1 => ?_) fun h1 => ?_
  · have h1 : i < s.b.length := by simp at h1; omega
    obtain ⟨_, hb | ⟨rest, hbp, he⟩⟩ := hb
    · rw [hb] at h1; simp at h1
    · have hg : s.b[i]? = some (byteD s i) := by
        unfold byteD
        rw [List.getD_eq_getElem?_getD, List.getElem?_eq_getElem h1]; rfl
      have hlt := byteD_lt hb8 (s := s) i
      refine ldS_of (H.cell 0 rfl rfl) ?_
      refine needs_of (by omega) ?_
      rw [hbp]
      simp only [Int.toNat_natCast, Nat.mul_one]
      try simp only [ptr_some_eq, add_mk, Nat.zero_add, Nat.add_zero]
      refine ldI_of (H.cell 4 rfl (i := i) (by rw [he]; exact get_app (u8s_get hg))) ?_
      refine bindI_of (((byteD s i : Nat) : Int)) (by exact i64_in _ (by omega) (by omega)) ?_
      exact hk
  · have h1 : s.b.length ≤ i := by simp at h1; omega
    have hg : byteD s i = 255 := by
      unfold byteD
      rw [List.getD_eq_getElem?_getD, List.getElem?_eq_none h1]; rfl
    rw [hg] at hk
    exact hk

theorem mask32m (x : Nat) (hx : x < 9223372036854775808) : bitI .and .i64 (x : Int) 4294967295 = ((x % M32 : Nat) : Int) :=
  (and63 x 4294967295 hx (by omega)).trans (by congr 1; exact Nat.and_two_pow_sub_one_eq_mod x 32)

set_option maxRecDepth 100000 in
theorem rin_ok (H : Hp h0 F h (refD A e bp bc s)) (hb : BOk e bp s.b) (hs : MidD s) (hbl : s.b.length < 140737488351300)
    {K : Value → Heap → Prop} {Kp : List PanicEntry → Heap → Prop} (hk : ∀ h', Hp h0 F h' (refD A e bp bc (inD s)) → K (.tuple #[]) h') : CP F_burinref4_Decoder_in #[.pointer (at0 A.p)] h K Kp := by
  refine call_burinref4_Decoder_in ?_
  unfold burinref4_Decoder_in
  have hi := hs.i
  have hc := hs.c
  have hM : M32 = 4294967296 := rfl
  have hb1 := byteD_lt hs.b (s := s) (s.i + 1)
  have hb0 := byteD_lt hs.b (s := s) s.i
  try simp only [ptr_some_eq, add_mk, Nat.zero_add, Nat.add_zero]
  refine ldI_of (H.cell 0 rfl rfl) ?_
  refine rbyte_ok H hb hs.b ?_
  refine ⟨_, rfl, ?_⟩
  rw [inD_eq] at hk
  refine bcase_of (fun h1 => ?_) fun h1 => ?_
  · have h1 : ¬ byteD s s.i ≠ 255 := by simp at h1; omega
    rw [if_neg h1] at hk
    refine ldI_of (H.cell 0 rfl rfl) ?_
    refine bindI_of (((s.i + 1 : Nat) : Int)) (by exact i64_at _ _ (by omega) (by omega) (by omega)) ?_
    refine rbyte_ok H hb hs.b ?_
    refine ⟨_, rfl, ?_⟩
    refine bcase_of (fun h2 => ?_) fun h2 => ?_
    · have h2 : byteD s (s.i + 1) > 143 := by simp at h2; omega
      rw [if_pos h2] at hk
      refine ldI_of (H.cell 0 rfl rfl) ?_
      refine bindI_of (((s.c + 65280 : Nat) : Int)) (by exact i64_at _ _ (by omega) (by omega) (by omega)) ?_
      refine stV_hp H 0 rfl (by first | exact Nat.le_of_ble_eq_true rfl | simp) rfl fun h hsz H => ?_
      refine stV_hp H 0 rfl (by first | exact Nat.le_of_ble_eq_true rfl | simp) rfl fun h hsz H => ?_
      refine ldI_of (H.cell 0 rfl rfl) ?_
      refine bindI_of _ (mask32m _ (by omega)) ?_
      refine stV_hp H 0 rfl (by first | exact Nat.le_of_ble_eq_true rfl | simp) rfl fun h hsz H => ?_
      exact hk _ H
    · have h2 : ¬ byteD s (s.i + 1) > 143 := by simp at h2; omega
      rw [if_neg h2] at hk
      refine ldI_of (H.cell 0 rfl rfl) ?_
      refine bindI_of (((s.i + 1 : Nat) : Int)) (by exact i64_at _ _ (by omega) (by omega) (by omega)) ?_
      refine stV_hp H 0 rfl (by first | exact Nat.le_of_ble_eq_true rfl | simp) rfl fun h hsz H => ?_
      refine ldI_of (H.cell 0 rfl rfl) ?_
      refine bindI_of (((byteD s (s.i + 1) * 512 : Nat) : Int)) (by exact shl_of (i := 9) (by decide) (i64_in _ (by omega) (by omega))) ?_
      refine bindI_of (((s.c + byteD s (s.i + 1) * 512 : Nat) : Int)) (by exact i64_at _ _ (by omega) (by omega) (by omega)) ?_
      refine stV_hp H 0 rfl (by first | exact Nat.le_of_ble_eq_true rfl | simp) rfl fun h hsz H => ?_
      refine stV_hp H 0 rfl (by first | exact Nat.le_of_ble_eq_true rfl | simp) rfl fun h hsz H => ?_
      refine ldI_of (H.cell 0 rfl rfl) ?_
      refine bindI_of _ (mask32m _ (by omega)) ?_
      refine stV_hp H 0 rfl (by first | exact Nat.le_of_ble_eq_true rfl | simp) rfl fun h hsz H => ?_
      exact hk _ H
  · have h1 : byteD s s.i ≠ 255 := by simp at h1; omega
    rw [if_pos h1] at hk
    refine ldI_of (H.cell 0 rfl rfl) ?_
    refine bindI_of (((s.i + 1 : Nat) : Int)) (by exact i64_at _ _ (by omega) (by omega) (by omega)) ?_
    refine stV_hp H 0 rfl (by first | exact Nat.le_of_ble_eq_true rfl | simp) rfl fun h hsz H => ?_
    refine ldI_of (H.cell 0 rfl rfl) ?_
    refine ldI_of (H.cell 0 rfl rfl) ?_
    have H2 : Hp h0 F h (refD A e bp bc { s with i := s.i + 1 }) := H
    refine rbyte_ok H2 hb hs.b ?_
    refine ⟨_, rfl, hext.refl _, ?_⟩
    have hb2 : byteD { s with i := s.i + 1 } (s.i + 1) = byteD s (s.i + 1) := rfl
    rw [hb2]
    refine bindI_of (((byteD s (s.i + 1) * 256 : Nat) : Int)) (by exact shl_of (i := 8) (by decide) (i64_in _ (by omega) (by omega))) ?_
    refine bindI_of (((s.c + byteD s (s.i + 1) * 256 : Nat) : Int)) (by exact i64_at _ _ (by omega) (by omega) (by omega)) ?_
    refine stV_hp H 0 rfl (by first | exact Nat.le_of_ble_eq_true rfl | simp) rfl fun h hsz H => ?_
    refine stV_hp H 0 rfl (by first | exact Nat.le_of_ble_eq_true rfl | simp) rfl fun h hsz H => ?_
    refine ldI_of (H.cell 0 rfl rfl) ?_
    refine bindI_of _ (mask32m _ (by omega)) ?_
    refine stV_hp H 0 rfl (by first | exact Nat.le_of_ble_eq_true rfl | simp) rfl fun h hsz H => ?_
    exact hk _ H

set_option maxRecDepth 100000 in
theorem rdrenew_ok (H : Hp h0 F h (refD A e bp bc s)) (hb : BOk e bp s.b) (hs : MidD s) (hbl : s.b.length < 140737488351300) (ha : 1 ≤ s.a) (ha' : s.a < 0x8000)
    {K : Value → Heap → Prop} {Kp : List PanicEntry → Heap → Prop} (hk : ∀ h', Hp h0 F h' (refD A e bp bc (renewD 17 s)) → K (.tuple #[]) h') : CP F_burinref4_Decoder_renew #[.pointer (at0 A.p)] h K Kp := by
  generalize hR : renewD 17 s = R at hk
  refine call_burinref4_Decoder_renew ?_
  unfold burinref4_Decoder_renew
  refine ⟨fun n vs h' => ∃ (first : Bool) (s' : Dec), vs = [.bool first] ∧ Hp h0 F h' (refD A e bp bc s') ∧ MidD s' ∧ s'.b = s.b ∧
      ((first = false ∧ 0x8000 ≤ s'.a ∧ s' = R) ∨ (s'.a < 0x8000 ∧ 0x8000 ≤ s'.a * 2 ^ n ∧ renewD n s' = R)),
    ⟨17, true, s, rfl, H, hs, rfl, .inr ⟨ha', by have : (2 : Nat) ^ 17 = 131072 := rfl; omega, hR⟩⟩, ?_⟩
  clear H
  rintro n h u x ⟨first, s', hx, H, hm, hbe, hc⟩
  injection hx with hx
  injection hx with hx
  subst hx
  refine ⟨fun vs h' => h' = h ∧ s'.a < 0x8000 ∧ 0x8000 ≤ s'.a * 2 ^ n ∧ renewD n s' = R, ?_, ?_⟩
  · refine bcase_of (fun h1 => ?_) fun h1 => ?_
    · rcases hc with ⟨h2, _⟩ | h2
      · rw [h1] at h2; cases h2
      · exact ⟨rfl, h2⟩
    · have hcell0 := H.cell 0 rfl (i := 4) (v := .int .i64 (s'.a : Nat)) rfl
      rcases hc with ⟨_, h2, h5⟩ | h2
      · have h4 : ¬ ((s'.a : Nat) : Int) < 32768 := by
          have : (32768 : Int) ≤ ((s'.a : Nat) : Int) := by exact_mod_cast h2
          exact Int.not_lt.2 this
        refine ldI_of (x := ((s'.a : Nat) : Int)) hcell0 ?_
        simp only [decide_eq_false h4]
        exact hk _ (h5 ▸ H)
      · have h4 : ((s'.a : Nat) : Int) < 32768 := by exact_mod_cast h2.1
        refine ldI_of (x := ((s'.a : Nat) : Int)) hcell0 ?_
        simp only [decide_eq_true h4]
        exact ⟨by first | rfl | trivial, h2⟩
  · rintro h2 u ⟨rfl, hlt, hge, he⟩
    obtain ⟨n, rfl⟩ : ∃ m, n = m + 1 := by
      cases n with
      | zero => simp at hge; omega
      | succ m => exact ⟨m, rfl⟩
    obtain ⟨g1, g2, g3, g4, g5⟩ := shiftD_mid hm
    have hnext : 0x8000 ≤ (shiftD s').a * 2 ^ n := by
      rw [g2]
      rw [Nat.pow_succ] at hge
      have : s'.a * (2 ^ n * 2) = 2 * s'.a * 2 ^ n := by rw [Nat.mul_comm (2 ^ n) 2, ← Nat.mul_assoc, Nat.mul_comm s'.a 2]
      omega
    rw [renewD_succ] at he
    rw [← hbe] at hb hbl
    refine ⟨fun vs h' => Hp h0 F h' (refD A e bp bc (if s'.t = 0 then inD s' else s')), ?_, ?_⟩
    · try simp only [ptr_some_eq, add_mk, Nat.zero_add, Nat.add_zero]
      refine ldI_of (H.cell 0 rfl rfl) ?_
      refine bcase_of (fun h1 => ?_) fun h1 => ?_
      · have h1 : s'.t = 0 := by simp at h1; omega
        refine rin_ok H hb hm hbl fun h' H => ?_
        rw [if_pos h1]
        exact H
      · have h1 : ¬ s'.t = 0 := by simp at h1; omega
        rw [if_neg h1]
        exact H
    · intro h u H
      rw [shiftD_eq] at g1 g2 g5 hnext he
      have hS : MidD (if s'.t = 0 then inD s' else s') ∧ (if s'.t = 0 then inD s' else s').a = s'.a ∧ 1 ≤ (if s'.t = 0 then inD s' else s').t := by
        split
        · obtain ⟨i1, i2, _, _, _, i6⟩ := inD_mid hm
          exact ⟨i1, i2, i6⟩
        · exact ⟨hm, rfl, by omega⟩
      generalize (if s'.t = 0 then inD s' else s') = S at H g1 g2 g5 hnext he hS
      obtain ⟨hS1, hS2, hS3⟩ := hS
      have hSc := hS1.c
      have hSt := hS1.t8
      have hM : M32 = 4294967296 := rfl
      try simp only [ptr_some_eq, add_mk, Nat.zero_add, Nat.add_zero]
      refine ldI_of (H.cell 0 rfl rfl) ?_
      refine bindI_of (((2 * S.a : Nat) : Int)) (by exact i64_at _ _ (by omega) (by omega) (by omega)) ?_
      refine stV_hp H 0 rfl (by first | exact Nat.le_of_ble_eq_true rfl | simp) rfl fun h hsz H => ?_
      refine ldI_of (H.cell 0 rfl rfl) ?_
      refine bindI_of (((2 * S.c : Nat) : Int)) (by exact i64_at _ _ (by omega) (by omega) (by omega)) ?_
      refine bindI_of _ (mask32m _ (by omega)) ?_
      refine stV_hp H 0 rfl (by first | exact Nat.le_of_ble_eq_true rfl | simp) rfl fun h hsz H => ?_
      refine ldI_of (H.cell 0 rfl rfl) ?_
      refine bindI_of (((S.t - 1 : Nat) : Int)) (by exact i64_at _ _ (by omega) (by omega) (by omega)) ?_
      refine stV_hp H 0 rfl (by first | exact Nat.le_of_ble_eq_true rfl | simp) rfl fun h hsz H => ?_
      have H2 : Hp h0 F h (refD A e bp bc { S with a := 2 * S.a, c := 2 * S.c % M32, t := S.t - 1 }) := H
      refine ⟨n, Nat.lt_succ_self n, false, _, rfl, H2, g1, g5.trans hbe, ?_⟩
      by_cases h3 : 0x8000 ≤ 2 * S.a
      · rw [if_pos h3] at he; exact .inl ⟨rfl, h3, he⟩
      · rw [if_neg h3] at he; exact .inr ⟨by show 2 * S.a < _; omega, hnext, he⟩

set_option maxRecDepth 100000 in
theorem rget_ok (H : Hp h0 F h (refD A e bp bc s)) (hb : BOk e bp s.b) (hs : WfD s) (hbl : s.b.length < 140737488351300) (hn : s.n < 16777216) (hl : 1 ≤ s.st.length) (hl2 : s.st.length ≤ 131072)
    {ctx : Int} {K : Value → Heap → Prop} {Kp : List PanicEntry → Heap → Prop} (hk : ∀ h', Hp h0 F h' (refD A e bp bc (getD s (idx ctx s.st.length)).1) → K (.tuple #[.int .i64 ((getD s (idx ctx s.st.length)).2 : Nat), .int .i64 0]) h') :
    CP F_burinref4_Decoder_Get #[.pointer (at0 A.p), .int .i64 ctx] h K Kp := by
  refine call_burinref4_Decoder_Get ?_
  unfold burinref4_Decoder_Get
  try simp only [ptr_some_eq, add_mk, Nat.zero_add, Nat.add_zero]
  refine ldI_of (H.cell 0 rfl rfl) ?_
  refine bcase_false (by simp; omega) ?_
  refine ldI_of (H.cell 0 rfl rfl) ?_
  refine bindI_of (((s.n + 1 : Nat) : Int)) (by exact i64_at _ _ (by omega) (by omega) (by omega)) ?_
  refine stV_hp H 0 rfl (by first | exact Nat.le_of_ble_eq_true rfl | simp) rfl fun h hsz H => ?_
  have H2 : Hp h0 F h (refD A e bp bc { s with n := s.n + 1 }) := H
  refine index_ok (m := s.st.length) (n := s.n + 1) H2 0 rfl hl hl2 ?_
  refine ⟨_, rfl, ?_⟩
  have hil := idx_lt ctx hl
  obtain ⟨x, hx⟩ : ∃ x, s.st[idx ctx s.st.length]? = some x := ⟨_, List.getElem?_eq_getElem hil⟩
  have hx94 : x < 94 := hs.st x (List.mem_of_getElem? hx)
  rw [getD_at s _ x hx] at hk
  have hM := set_lt hs.st (k := idx ctx s.st.length) (upM_lt hx94)
  have hL := set_lt hs.st (k := idx ctx s.st.length) (upL_lt hx94)
  generalize idx ctx s.st.length = k at hk hM hL hx hil ⊢
  have hr : x / 2 < 47 := by omega
  have hq1 := qOf_pos hr
  have hq2 := qOf_le hr
  have hlo := hs.lo
  have hhi := hs.hi
  have hc := hs.c
  have hM32 : M32 = 4294967296 := rfl
  have H := H2
  clear H2
  refine ldS_of (H.cell 0 rfl rfl) ?_
  refine ldS_of (H.cell 0 rfl rfl) ?_
  refine needs_of (by first | omega | (refine ⟨by omega, ?_⟩; show ((k : Nat) : Int) < ((s.st.length : Nat) : Int); omega)) ?_
  try simp only [ptr_some_eq, add_mk, Nat.zero_add, Int.toNat_natCast, Nat.mul_one]
  refine ldI_of (H.cell 2 rfl (i64s_get (half_get hx))) ?_
  refine needs_of (by first | omega | (refine ⟨by omega, ?_⟩; show ((k : Nat) : Int) < ((s.st.length : Nat) : Int); omega)) ?_
  try simp only [ptr_some_eq, add_mk, Nat.zero_add, Int.toNat_natCast, Nat.mul_one]
  refine ldI_of (H.cell 1 rfl (g_get hr (j := 0) rfl)) ?_
  refine ldS_of (H.cell 0 rfl rfl) ?_
  refine needs_of (by first | omega | (refine ⟨by omega, ?_⟩; show ((k : Nat) : Int) < ((s.st.length : Nat) : Int); omega)) ?_
  try simp only [ptr_some_eq, add_mk, Nat.zero_add, Int.toNat_natCast, Nat.mul_one]
  refine ldI_of (H.cell 3 rfl (i64s_get (low_get hx))) ?_
  refine ldI_of (H.cell 0 rfl rfl) ?_
  refine bindI_of (((s.a - qOf (x / 2) : Nat) : Int)) (by exact i64_at _ _ (by show (s.a : Int) - ((qOf (x / 2) : Nat) : Int) = _; omega) (by omega) (by omega)) ?_
  refine stV_hp H 0 rfl (by first | exact Nat.le_of_ble_eq_true rfl | simp) rfl fun h hsz H => ?_
  refine ldI_of (H.cell 0 rfl rfl) ?_
  refine bindI_of (((s.c / 65536 : Nat) : Int)) (by exact shr_of (i := 16) (by decide)) ?_
  have H2 : Hp h0 F h (refD A e bp bc { s with n := s.n + 1, a := s.a - qOf (x / 2) }) := H
  have H := H2
  clear H2
  refine bcase_of (fun h1 => ?_) fun h1 => ?_
  · have h1 : s.c / 65536 < qOf (x / 2) := by simp at h1; omega
    rw [if_pos h1] at hk
    refine ⟨fun vs h'' => (s.a - qOf (x / 2) < qOf (x / 2) ∧ vs = [.int .i64 ((x % 2 : Nat) : Int)] ∧ Hp h0 F h'' (refD A e bp bc { s with a := s.a - qOf (x / 2), n := s.n + 1, st := s.st.set k (upM x) })) ∨
        (¬ s.a - qOf (x / 2) < qOf (x / 2) ∧ vs = [.int .i64 ((1 - x % 2 : Nat) : Int)] ∧ Hp h0 F h'' (refD A e bp bc { s with a := s.a - qOf (x / 2), n := s.n + 1, st := s.st.set k (upL x) })), ?_, ?_⟩
    · refine ldI_of (H.cell 0 rfl rfl) ?_
      refine bcase_of (fun h3 => ?_) fun h3 => ?_
      · have h3 : s.a - qOf (x / 2) < qOf (x / 2) := by simp at h3; omega
        refine slk_ok H hx hx94 fun h H => ?_
        exact .inl ⟨h3, rfl, H.as (by simp [refD, sideL, sideV, drrest])⟩
      · have h3 : ¬ s.a - qOf (x / 2) < qOf (x / 2) := by simp at h3; omega
        refine bindI_of (((1 - x % 2 : Nat) : Int)) (by exact i64_at _ _ (by omega) (by omega) (by omega)) ?_
        refine sother_ok H hx hx94 fun h H => ?_
        exact .inr ⟨h3, rfl, H.as (by simp [refD, sideL, sideV, drrest])⟩
    · rintro h'' u y (⟨h3, hy, H⟩ | ⟨h3, hy, H⟩)
      · injection hy with hy
        injection hy with _ hy
        subst hy
        rw [if_pos h3] at hk
        refine stV_hp H 0 rfl (by first | exact Nat.le_of_ble_eq_true rfl | simp) rfl fun h hsz H => ?_
        exact rdrenew_ok (s := { s with a := qOf (x / 2), n := s.n + 1, st := s.st.set k (upM x) }) H hb ⟨hs.t8, hc, hs.b, hM, hs.i⟩ hbl hq1 (by show qOf _ < _; omega) hk
      · injection hy with hy
        injection hy with _ hy
        subst hy
        rw [if_neg h3] at hk
        refine stV_hp H 0 rfl (by first | exact Nat.le_of_ble_eq_true rfl | simp) rfl fun h hsz H => ?_
        exact rdrenew_ok (s := { s with a := qOf (x / 2), n := s.n + 1, st := s.st.set k (upL x) }) H hb ⟨hs.t8, hc, hs.b, hL, hs.i⟩ hbl hq1 (by show qOf _ < _; omega) hk
  · have h1 : ¬ s.c / 65536 < qOf (x / 2) := by simp at h1; omega
    rw [if_neg h1] at hk
    have hc' : s.c - qOf (x / 2) * 65536 < M32 := by omega
    refine ldI_of (H.cell 0 rfl rfl) ?_
    refine bindI_of (((qOf (x / 2) * 65536 : Nat) : Int)) (by exact shl_of (i := 16) (by decide) (i64_in _ (by omega) (by omega))) ?_
    refine bindI_of (((s.c - qOf (x / 2) * 65536 : Nat) : Int)) (by exact i64_at _ _ (by show (s.c : Int) - ((qOf (x / 2) * 65536 : Nat) : Int) = _; omega) (by omega) (by omega)) ?_
    refine stV_hp H 0 rfl (by first | exact Nat.le_of_ble_eq_true rfl | simp) rfl fun h hsz H => ?_
    refine ldI_of (H.cell 0 rfl rfl) ?_
    have H2 : Hp h0 F h (refD A e bp bc { s with n := s.n + 1, a := s.a - qOf (x / 2), c := s.c - qOf (x / 2) * 65536 }) := H
    have H := H2
    clear H2
    refine bcase_of (fun h2 => ?_) fun h2 => ?_
    · have h2 : 0x8000 ≤ s.a - qOf (x / 2) := by simp at h2; omega
      rw [if_pos h2] at hk
      exact hk _ H
    · have h2 : ¬ 0x8000 ≤ s.a - qOf (x / 2) := by simp at h2; omega
      rw [if_neg h2] at hk
      refine ldI_of (H.cell 0 rfl rfl) ?_
      refine bcase_of (fun h3 => ?_) fun h3 => ?_
      · have h3 : s.a - qOf (x / 2) < qOf (x / 2) := by simp at h3; omega
        rw [if_pos h3] at hk
        refine bindI_of (((1 - x % 2 : Nat) : Int)) (by exact i64_at _ _ (by omega) (by omega) (by omega)) ?_
        refine sother_ok H hx hx94 fun h H => ?_
        exact rdrenew_ok (s := { s with a := s.a - qOf (x / 2), c := s.c - qOf (x / 2) * 65536, n := s.n + 1, st := s.st.set k (upL x) }) (H.as (by simp [refD, sideL, sideV, drrest])) hb ⟨hs.t8, hc', hs.b, hL, hs.i⟩ hbl (by show 1 ≤ s.a - _; omega) (by show s.a - _ < _; omega) hk
      · have h3 : ¬ s.a - qOf (x / 2) < qOf (x / 2) := by simp at h3; omega
        rw [if_neg h3] at hk
        refine slk_ok H hx hx94 fun h H => ?_
        exact rdrenew_ok (s := { s with a := s.a - qOf (x / 2), c := s.c - qOf (x / 2) * 65536, n := s.n + 1, st := s.st.set k (upM x) }) (H.as (by simp [refD, sideL, sideV, drrest])) hb ⟨hs.t8, hc', hs.b, hM, hs.i⟩ hbl (by show 1 ≤ s.a - _; omega) (by show s.a - _ < _; omega) hk
end

/-! ### NewDecoder -/
set_option maxRecDepth 100000 in
theorem rnewD_ok {hB : Heap} {n : Nat} (hn : n ≤ 131072) {b : List Nat} (hb : ∀ x ∈ b, x < 256) (hbl : b.length < 140737488351300) {src : Option Addr} {bc0 : Nat} (hr : rdO hB src (b.length * 1) (u8s b)) {K : Value → Heap → Prop} {Kp : List PanicEntry → Heap → Prop}
    (hk : ∀ A e bp bc h', BOk e bp b → Hp hB [] h' (refD A e bp bc (newD b n)) → K (.pointer (at0 A.p)) h') : CP F_burinref4_NewDecoder #[.slice src b.length bc0, .int .i64 (n : Nat)] hB K Kp := by
  refine call_burinref4_NewDecoder ?_
  unfold burinref4_NewDecoder
  refine begun_ok hn fun g grest gc sq bq sp h' hsp H => ?_
  refine ⟨_, _, _, _, _, _, _, _, _, _, rfl, ?_⟩
  have goal : ∀ (bp : Option Addr) (bc : Nat) (e : Ent) (h2 : Heap), BOk e bp b → Hp hB [] h2 [⟨g, true, T_burinref4_Row, growsN 47 ++ grest⟩, ⟨sq, true, T_int, i64s (List.replicate n 0)⟩, ⟨bq, true, T_int, i64s (List.replicate n 0)⟩, e] →
      Go.Den.newC h2 [.slice (at0 g) 47 gc, .slice (at0 sq) n n, .slice (at0 bq) n n, .int .i64 0, .int .i64 32768, .int .i64 0, .int .i64 0, .slice bp b.length bc, .int .i64 0] T_burinref4_Decoder fun r_9 h_10 =>
      CP F_burinref4_Decoder_byte #[.pointer (some ⟨r_9, 0, none⟩), .int .i64 0] h_10 (fun v_11 h_12 =>
      ∃ (r_13 : Int), v_11 = .int .i64 r_13 ∧ (
      bindI (shlI .i64 r_13 (16 : Int)) fun z_14 =>
      stV h_12 ((⟨r_9, 0, none⟩ : Addr).add 5) (.int .i64 z_14) fun h_15 =>
      CP F_burinref4_Decoder_in #[.pointer (some ⟨r_9, 0, none⟩)] h_15 (fun v_16 h_17 =>
      ldI h_17 ((⟨r_9, 0, none⟩ : Addr).add 5) .i64 fun x_18 =>
      bindI (shlI .i64 x_18 (7 : Int)) fun z_19 =>
      bindI (bitI .and .i64 z_19 (4294967295 : Int)) fun z_20 =>
      stV h_17 ((⟨r_9, 0, none⟩ : Addr).add 5) (.int .i64 z_20) fun h_21 =>
      ldI h_21 ((⟨r_9, 0, none⟩ : Addr).add 6) .i64 fun x_22 =>
      bindI (IntKind.i64.wrap (x_22 - (7 : Int))) fun z_23 =>
      stV h_21 ((⟨r_9, 0, none⟩ : Addr).add 6) (.int .i64 z_23) fun h_24 =>
      K (.pointer (some ⟨r_9, 0, none⟩)) h_24) (Kp))) (Kp) := by
    intro bp bc e h2 hbo H
    refine newC_hp H fun p h H => ?_
    have H2 := H.pick [4, 0, 1, 2, 3] (by decide) (L' := refD ⟨p, g, gc, sq, bq, grest⟩ e bp bc (dec0 b n)) (by simp [refD, sideL, sideV, drrest, dec0, half, low])
    have H := H2
    clear H2
    have hb0 := byteD_lt (s := dec0 b n) hb 0
    refine rbyte_ok (A := ⟨p, g, gc, sq, bq, grest⟩) (i := 0) H hbo hb ?_
    refine ⟨_, rfl, ?_⟩
    refine bindI_of (((byteD (dec0 b n) 0 * 65536 : Nat) : Int)) (by exact shl_of (i := 16) (by decide) (i64_in _ (by omega) (by omega))) ?_
    try simp only [ptr_some_eq, add_mk, Nat.zero_add, Nat.add_zero]
    refine stV_hp H 0 rfl (by first | exact Nat.le_of_ble_eq_true rfl | simp) rfl fun h hsz H => ?_
    have H2 : Hp _ [] h (refD ⟨p, g, gc, sq, bq, grest⟩ e bp bc { dec0 b n with c := byteD (dec0 b n) 0 * 65536 }) := H
    have hm : MidD { dec0 b n with c := byteD (dec0 b n) 0 * 65536 } := ⟨Nat.zero_le _, by show byteD (dec0 b n) 0 * 65536 < 4294967296; omega, hb, fun x hx => by simp only [dec0, List.mem_replicate] at hx; omega, Nat.zero_le _⟩
    obtain ⟨i1, i2, i3, i4, i5, i6⟩ := inD_mid hm
    refine rin_ok (A := ⟨p, g, gc, sq, bq, grest⟩) H2 hbo hm hbl fun h H => ?_
    have hn : newD b n = { inD { dec0 b n with c := byteD (dec0 b n) 0 * 65536 } with c := (inD { dec0 b n with c := byteD (dec0 b n) 0 * 65536 }).c * 128 % M32, t := (inD { dec0 b n with c := byteD (dec0 b n) 0 * 65536 }).t - 7 } := rfl
    have ht7 : 7 ≤ (inD { dec0 b n with c := byteD (dec0 b n) 0 * 65536 }).t := by
      unfold inD
      split
      · show 7 ≤ 8; omega
      · split
        · show 7 ≤ 8; omega
        · show 7 ≤ 7; omega
    generalize inD { dec0 b n with c := byteD (dec0 b n) 0 * 65536 } = S at H hn i1 ht7
    have hSc := i1.c
    have hSt := i1.t8
    have hM : M32 = 4294967296 := rfl
    refine ldI_of (H.cell 0 rfl rfl) ?_
    refine bindI_of (((S.c * 128 : Nat) : Int)) (by exact shl_of (i := 7) (by decide) (i64_in _ (by omega) (by omega))) ?_
    refine bindI_of _ (mask32m _ (by omega)) ?_
    refine stV_hp H 0 rfl (by first | exact Nat.le_of_ble_eq_true rfl | simp) rfl fun h hsz H => ?_
    refine ldI_of (H.cell 0 rfl rfl) ?_
    refine bindI_of (((S.t - 7 : Nat) : Int)) (by exact i64_at _ _ (by omega) (by omega) (by omega)) ?_
    refine stV_hp H 0 rfl (by first | exact Nat.le_of_ble_eq_true rfl | simp) rfl fun h hsz H => ?_
    refine hk ⟨p, g, gc, sq, bq, grest⟩ e bp bc _ hbo ?_
    rw [hn]
    exact H
  have hr2 := H.rdO hr
  rcases Nat.eq_zero_or_pos b.length with hz | hpos
  · have hbn : b = [] := List.length_eq_zero_iff.1 hz
    rw [hz] at hr2 goal ⊢
    refine appC_nil H hr2 ?_
    exact goal none 0 sp _ ⟨hsp, .inl hbn⟩ H
  · refine appC_new H hr2 (u8s_length b) hpos (by omega) fun o rest h' he H' => ?_
    exact goal (some ⟨o, 0, none⟩) _ ⟨o, true, T_uint8, u8s b ++ rest⟩ _ ⟨rfl, .inr ⟨rest, rfl, rfl⟩⟩ (H'.pick [0, 1, 2, 4] (by decide) rfl)

set_option maxRecDepth 100000 in
theorem newDecoder_bad {h : Heap} {n : Int} (hn : n < 1 ∨ 131072 < n) {src : Option Addr} {bl bc : Nat} {K : Value → Heap → Prop} {Kp : List PanicEntry → Heap → Prop}
    (hk : ∀ h', hext h h' → K (.tuple #[.pointer none, .int .i64 40]) h') : CP F_arith_NewDecoder #[.slice src bl bc, .int .i64 n] h K Kp := by
  refine call_arith_NewDecoder ?_
  unfold arith_NewDecoder
  refine made_bad hn fun cs h2 hcs hone e => ?_
  refine ⟨cs, hcs, false, rfl, ?_⟩
  have H := (Hp.nil h []).ext e
  refine newC_hp H fun t h H => ?_
  refine needs_of hcs ?_
  refine stVs_all H 0 rfl (hcs.trans (by kernel_rfl)) hone fun h' hsz H => ?_
  refine bcase_true (by rfl) ?_
  exact hk _ H.hext

end Go.Ar
