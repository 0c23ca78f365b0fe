/- The given statement PageEncodesSaid is proved of the given program; there are no further conditions. W6: put together by wip/tools/bundle.py: Mburinref1 Bburinref1 PbC Mlaw15PageEncodes Blaw15PageEncodes PbD PbE ArLink2 PbEncodes. -/
import Derived.Test.YtfaclehehhgpcaaGreatW1
import Derived.Test.YtfaclehehhgpcaaGreatW2
import Derived.Test.YtfaclehehhgpcaaGreatW3
import Derived.Test.YtfaclehehhgpcaaGreatW4
import Derived.Test.YtfaclehehhgpcaaGreatW5
import Derived.Test.YtfaclehehhgpcaaGreatProg
import Derived.WalkKit
import Derived.ProofKit
import Derived.OpenShut
import Derived.Carry
import Derived.Deep.SlicePairs
import Derived.Lib.SmallJoins
import Derived.Test.YtfaclehehhgpcaaGreatRows

/- Written by gen.py: the conditions of the functions of burinref1. -/
set_option linter.unusedVariables false
set_option linter.unusedSimpArgs false
namespace Go.Den.YtfaclehehhgpcaaGreat
open Go Go.Den

/- burin/burinref1.Groups -/
set_option maxRecDepth 100000 in
def burinref1_Groups (C : CallP) (n : Int) (h : Heap) (K : Value → Heap → Prop) (Kp : List PanicEntry → Heap → Prop) : Prop :=
∃ J_1 : Nat → List Value → Heap → Prop, (∃ n_3, J_1 n_3 [.int .u64 n, .slice none 0 0] h) ∧ ∀ (n_3 : Nat) (h_4 : Heap) (u_5 : Nat → Value) (n_6 : Int) (b_7 : Option Addr) (b_7n : Nat) (b_7c : Nat), J_1 n_3 [.int .u64 n_6, .slice b_7 b_7n b_7c] h_4 → (
bcase (decide (n_6 ≥ (128 : Int))) (
bindI (n_6.tmod (128 : Int)) fun z_8 =>
bindI (IntKind.u8.wrap z_8) fun z_9 =>
bindI (IntKind.u8.wrap (z_9 + (128 : Int))) fun z_10 =>
newC h_4 [.int .u8 z_10] T_uint8 fun r_11 h_12 =>
appC h_12 T_uint8 1 1 [.int .u8 0] b_7 (b_7n) (b_7c) (some ⟨r_11, 0, none⟩) (1) fun q_13 q_13n q_13c h_14 =>
bindI (IntKind.u64.wrap (n_6.tdiv (128 : Int))) fun z_15 =>
∃ m_2, m_2 < n_3 ∧ J_1 m_2 [.int .u64 z_15, .slice q_13 q_13n q_13c] h_14) <|
bindI (IntKind.u8.wrap n_6) fun z_16 =>
newC h_4 [.int .u8 z_16] T_uint8 fun r_17 h_18 =>
appC h_18 T_uint8 1 1 [.int .u8 0] b_7 (b_7n) (b_7c) (some ⟨r_17, 0, none⟩) (1) fun q_19 q_19n q_19c h_20 =>
K (.slice q_19 q_19n q_19c) h_20)

/- (*burin/burinref1.Reader).Left -/
/- (*burin/burinref1.Reader).Var -/
/- (*burin/burinref1.Reader).Take -/
end Go.Den.YtfaclehehhgpcaaGreat

/- Written by gen.py: each condition of the functions of burinref1 is the one of its body; so it is enough for its call. -/
set_option linter.unusedVariables false
set_option linter.unusedSimpArgs false
namespace Go.Den.YtfaclehehhgpcaaGreat
open Go Go.Den

noncomputable def hints_burinref1_Groups : Hints := Hints.mk (fun i => none)
  (fun i => bif Nat.beq i 2 then some ([(0, .int .u64), (3, .slc)], 32761) else (none))
  (fun i => none) []
set_option maxRecDepth 100000 in
theorem eq_burinref1_Groups (C : CallP) (n : Int) (h : Heap) (K : Value → Heap → Prop) (Kp : List PanicEntry → Heap → Prop) :
    fnD Go.Proofs.Tryz.prog C hints_burinref1_Groups Go.Proofs.Tryz.f51 [.int .u64 n] h K Kp = burinref1_Groups C n h K Kp := by kernel_rfl

theorem call_burinref1_Groups {n : Int} {h : Heap} {K : Value → Heap → Prop} {Kp : List PanicEntry → Heap → Prop} (H : burinref1_Groups (CallsHP Go.Proofs.Tryz.prog) n h K Kp) : CallsHP Go.Proofs.Tryz.prog F_burinref1_Groups #[.int .u64 n] h K Kp :=
  callsHP_of hints_burinref1_Groups (by kernel_rfl) Go.Proofs.Tryz.func51 (by kernel_rfl) (by rw [eq_burinref1_Groups]; exact H)

end Go.Den.YtfaclehehhgpcaaGreat

/- PbC: sheets and regions as bytes, both sides. -/
set_option linter.unusedVariables false
set_option linter.unusedSimpArgs false
namespace Go.Bm
open Go Go.Den Go.Den.YtfaclehehhgpcaaGreat
open Go.Ar (u8s u8s_length u8s_cells)

section
variable {h0 h : Heap} {F : List Nat} {A B D : List Ent}
/-- append, be it of nothing. -/
theorem Slot.appN {t : TypeId} {sz by_ n c m : Nat} {q : Option Addr} {xs z : List Value} (hd : Slot t sz D q n c xs) (H : Hp h0 F h (A ++ (D ++ B))) (hz : z.length = sz) (hs0 : 1 ≤ sz) {src : Option Addr} {new : List Value} (hr : Go.Den.rdO h src (m * sz) new) (hm : new.length = m * sz)
    (hnew : ∀ v ∈ new, v.oneCell' = true) (hby : (n + m) * by_ ≤ 70368744177664)
    {K : Option Addr → Nat → Nat → Heap → Prop} (hk : ∀ (D' : List Ent) (q' : Option Addr) (c' : Nat) h', Slot t sz D' q' (n + m) c' (xs ++ new) → Hp h0 F h' (A ++ (D' ++ B)) → K q' (n + m) c' h') : appC h t sz by_ z q n c src m K := by
  rcases Nat.eq_zero_or_pos m with h1 | h1
  · subst h1
    rw [Nat.zero_mul] at hr hm
    have hn0 : new = [] := List.length_eq_zero_iff.1 hm
    subst hn0
    have hnc : n ≤ c := by
      obtain ⟨hl, ⟨_, _, h2, _⟩ | ⟨b, rest, _, _, h2⟩⟩ := hd
      · omega
      · rw [List.length_append, hl] at h2
        exact Nat.le_of_mul_le_mul_right (Nat.le.intro h2) hs0
    refine ⟨[], by rw [Nat.zero_mul]; exact hr, ?_⟩
    rw [if_pos (by omega)]
    have := hk D q c h (by rw [List.append_nil, Nat.add_zero]; exact hd) H
    cases q with
    | none => exact this
    | some a => exact this
  · exact Slot.app hd H hz hr hm hnew h1 hby hk
end
/-- Bytes of numbers; a byte as one below 0, less one. -/
def wrB (v : Int) : List Nat := if v < 0 then [(-v - 1).toNat] else grp v.toNat
def wrt (l : List Int) : List Nat := l.flatMap wrB
def ints64 (l : List Int) : List Value := l.map fun v => .int .i64 v
theorem wrB_len (v : Int) : (wrB v).length ≤ 11 := by
  unfold wrB
  split
  · show 1 ≤ 11; omega
  · exact (grp_len _).2
theorem wrt_snoc (l : List Int) (v : Int) : wrt (l ++ [v]) = wrt l ++ wrB v := by
  unfold wrt
  rw [List.flatMap_append]
  congr 1
  show wrB v ++ [] = _
  rw [List.append_nil]
theorem wrt_len : ∀ l : List Int, (wrt l).length ≤ 11 * l.length
  | [] => Nat.le_refl _
  | v :: l => by
    have h1 := wrt_len l
    have h2 := wrB_len v
    show (wrB v ++ wrt l).length ≤ _
    rw [List.length_append, List.length_cons]
    omega
section
variable {hB : Heap} {q : Option Addr} {c : Nat} {l : List Int} {K : Value → Heap → Prop} {Kp : List PanicEntry → Heap → Prop}
set_option maxRecDepth 100000 in
set_option maxHeartbeats 2000000 in
theorem written_ok (hr : rdO hB q (l.length * 1) (ints64 l)) (hl : l.length ≤ 10) (hb : ∀ v ∈ l, -256 ≤ v ∧ v < 1099511627776)
    (hk : ∀ D qo co h', Slot T_uint8 1 D qo (wrt l).length co (u8s (wrt l)) → Hp hB [] h' D → K (.slice qo (wrt l).length co) h') :
    CP F_page_written #[.slice q l.length c] hB K Kp := by
  refine call_page_written ?_
  unfold page_written
  refine newWriter_ok fun w h H => ?_
  refine ⟨_, _, rfl, ?_⟩
  refine bcase_false (by rfl) ?_
  refine ⟨fun m vs h' => ∃ (i : Nat) (L' : List Ent), i + m = l.length ∧ vs = [.int .i64 (i : Nat)] ∧ WrL w (wrt (l.take i)) L' ∧ Hp hB [] h' L', ⟨l.length, 0, _, by omega, rfl, ⟨none, 0, [], Slot.nil _ _, rfl⟩, H⟩, ?_⟩
  clear H
  rintro m h u xa ⟨i, L', him, hxx, hw, H⟩
  injection hxx with hx1 hxx
  injection hx1 with _ hx1
  subst xa
  have hwl := wrt_len (l.take i)
  have htl : (l.take i).length ≤ 10 := by rw [List.length_take]; omega
  refine bcase_dec (fun h1 => ?_) fun h1 => ?_
  · have hi : i < l.length := by omega
    obtain ⟨v, hv⟩ : ∃ v, l[i]? = some v := ⟨_, List.getElem?_eq_getElem hi⟩
    have hvb := hb v (List.mem_of_getElem? hv)
    obtain ⟨a, hqa, hc⟩ := rdO_cell (H.rdO hr) (i := i) (v := .int .i64 v) (by unfold ints64; rw [List.getElem?_map, hv]; rfl)
    subst hqa
    have hnx : wrt (l.take (i + 1)) = wrt (l.take i) ++ wrB v := by rw [take_snocG hv, wrt_snoc]
    refine needs_of (by omega) (ptr_of (a := a) ?_)
    rw [Int.toNat_natCast, Nat.mul_one]
    refine ldI_of hc ?_
    refine bcase_dec (fun h2 => ?_) fun h2 => ?_
    · have e : wrB v = [(-v - 1).toNat] := by unfold wrB; rw [if_pos h2]
      refine bindI_of ((-v)) (by exact i64_at _ _ (by omega) (by omega) (by omega)) ?_
      refine bindI_of ((-v - 1)) (by exact i64_in _ (by omega) (by omega)) ?_
      refine bindI_of ((((-v - 1).toNat : Nat) : Int)) (by exact u64_at _ _ (by omega) (by omega) (by omega)) ?_
      refine put8_ok H hw (by omega) (by omega) fun L'' h hw H => ?_
      refine ⟨_, rfl, ?_⟩
      refine bindI_of (((i + 1 : Nat) : Int)) (by exact i64_at _ _ (by omega) (by omega) (by omega)) ?_
      exact ⟨m - 1, by omega, i + 1, L'', by omega, rfl, by rw [hnx, e]; exact hw, H⟩
    · have e : wrB v = grp v.toNat := by unfold wrB; rw [if_neg h2]
      refine bindI_of (((v.toNat : Nat) : Int)) (by exact u64_at _ _ (by omega) (by omega) (by omega)) ?_
      refine var_ok H hw (by omega) (by omega) fun L'' h hw H => ?_
      refine ⟨_, rfl, ?_⟩
      refine bindI_of (((i + 1 : Nat) : Int)) (by exact i64_at _ _ (by omega) (by omega) (by omega)) ?_
      exact ⟨m - 1, by omega, i + 1, L'', by omega, rfl, by rw [hnx, e]; exact hw, H⟩
  · rw [List.take_of_length_le (by omega)] at hw hwl
    refine bytes_ok H hw (by omega) fun D qo co h' hs H => ?_
    refine ⟨_, _, _, rfl, ?_⟩
    exact hk D qo co h' hs (Hp.suf H)
set_option maxRecDepth 100000 in
set_option maxHeartbeats 2000000 in
theorem groups_ok {n : Nat} (hn : n < 18446744073709551616) (hk : ∀ D qo co h', Slot T_uint8 1 D qo (grp n).length co (u8s (grp n)) → Hp hB [] h' D → K (.slice qo (grp n).length co) h') :
    CP F_burinref1_Groups #[.int .u64 (n : Nat)] hB K Kp := by
  refine call_burinref1_Groups ?_
  unfold burinref1_Groups
  refine ⟨fun f vs h' => ∃ (n' : Nat) (p : List Nat) (D : List Ent) (qo : Option Addr) (co : Nat), f ≤ 10 ∧ n' * 128 ^ (10 - f) ≤ n ∧ grp n = p ++ grpF f n' ∧ p.length + f = 10 ∧ vs = [.int .u64 (n' : Nat), .slice qo p.length co] ∧ Slot T_uint8 1 D qo p.length co (u8s p) ∧ Hp hB [] h' D,
    ⟨10, n, [], [], none, 0, by omega, by simp, rfl, rfl, rfl, Slot.nil _ _, Hp.nil hB []⟩, ?_⟩
  rintro f h u xn xq xl xc ⟨n', p, D, qo, co, hf, hle, hg, hpl, hxx, hs, H⟩
  injection hxx with hx1 hxx
  injection hxx with hx2 hxx
  injection hx1 with _ hx1
  injection hx2 with hx2 hx3 hx4
  subst xn xq xl xc
  have hpos : 0 < 128 ^ (10 - f) := Nat.pow_pos (by decide)
  have hn' : n' ≤ n := Nat.le_trans (Nat.le_mul_of_pos_right n' hpos) hle
  have one : ∀ (y : Nat) (K1 : Option Addr → Nat → Nat → Heap → Prop), (∀ D' q' c' h', Slot T_uint8 1 D' q' (p ++ [y]).length c' (u8s (p ++ [y])) → Hp hB [] h' D' → K1 q' (p.length + 1) c' h') →
      newC h [.int .u8 (y : Nat)] T_uint8 fun r h2 => appC h2 T_uint8 1 1 [.int .u8 0] qo p.length co (some ⟨r, 0, none⟩) 1 K1 := fun y K1 hk1 => by
    refine newC_hp H fun r h H => ?_
    have H : Hp hB [] h ([] ++ (D ++ [⟨r, true, T_uint8, [.int .u8 (y : Nat)]⟩])) := H
    refine Slot.app (m := 1) (new := [.int .u8 (y : Nat)]) hs H rfl (Hp.rdO_mem (rest := []) (cs := [.int .u8 (y : Nat)]) H (List.mem_append_right _ (List.mem_append_right _ (List.mem_singleton.2 rfl))) rfl) rfl (fun v hv => by rw [List.mem_singleton.1 hv]; rfl) (by decide) (by omega) fun D' q' c' h' hsl' H' => ?_
    exact hk1 D' q' c' h' (by rw [List.length_append, u8s_snoc]; exact hsl') (Hp.pre (Hp.suf H'))
  refine bcase_dec (fun h1 => ?_) fun h1 => ?_
  · obtain ⟨f, rfl⟩ : ∃ g, f = g + 1 := by
      refine ⟨f - 1, ?_⟩
      rcases Nat.eq_zero_or_pos f with hf0 | hf0
      · subst hf0
        have h2 : 128 * 128 ^ (10 - 0) ≤ n' * 128 ^ (10 - 0) := Nat.mul_le_mul_right _ (by omega)
        have h3 : (128 : Nat) * 128 ^ (10 - 0) = 151115727451828646838272 := by decide
        omega
      · omega
    have e : grpF (f + 1) n' = (n' % 128 + 128) :: grpF f (n' / 128) := by
      show (if n' < 128 then [n'] else _) = _
      rw [if_neg (by omega)]
    refine bindI_of (((n' % 128 : Nat) : Int)) (by exact tmod_nat n' 128) ?_
    refine bindI_of (((n' % 128 : Nat) : Int)) (by exact wr8 _ (by omega) (by omega)) ?_
    refine bindI_of (((n' % 128 + 128 : Nat) : Int)) (by exact (wr8 _ (by omega) (by omega)).trans (by omega)) ?_
    refine one _ _ fun D' q' c' h' hs' H' => ?_
    refine bindI_of (((n' / 128 : Nat) : Int)) (by exact u64_at _ _ (by rfl) (by omega) (by omega)) ?_
    refine ⟨f, by omega, n' / 128, p ++ [n' % 128 + 128], D', q', c', by omega, ?_, ?_, ?_, ?_, hs', H'⟩
    · have h2 : n' / 128 * 128 ≤ n' := Nat.div_mul_le_self _ _
      have h3 : n' / 128 * 128 ^ (10 - f) = n' / 128 * 128 * 128 ^ (10 - (f + 1)) := by
        rw [show 10 - f = (10 - (f + 1)) + 1 by omega, Nat.pow_succ, Nat.mul_assoc, Nat.mul_comm 128]
      rw [h3]
      exact Nat.le_trans (Nat.mul_le_mul_right _ h2) hle
    · rw [hg, e, List.append_assoc]; rfl
    · rw [List.length_append]; show p.length + 1 + f = 10; omega
    · rw [List.length_append]; rfl
  · have e : grpF f n' = [n'] := by
      cases f with
      | zero => show [n' % 128] = [n']; rw [Nat.mod_eq_of_lt (by omega)]
      | succ f => show (if n' < 128 then [n'] else _) = _; rw [if_pos (by omega)]
    rw [e] at hg
    refine bindI_of (((n' : Nat) : Int)) (by exact wr8 _ (by omega) (by omega)) ?_
    refine one _ _ fun D' q' c' h' hs' H' => ?_
    rw [← hg] at hs'
    have hgl : (grp n).length = p.length + 1 := by rw [hg, List.length_append]; rfl
    rw [← hgl]
    exact hk D' q' c' h' hs' H'
end

/-! ### sheets -/
section
variable {hB : Heap} {w g d s : Int} {K : Value → Heap → Prop} {Kp : List PanicEntry → Heap → Prop}
def EncSh (w g d s : Int) (e : Int) (bs : List Nat) : Prop := ¬ SheetP w g d s ∧ e = 150 ∧ bs = [] ∨ SheetP w g d s ∧ e = 0 ∧ bs = wrt [w, g, -d - 1, s]
theorem EncSh.det {e e' : Int} {bs bs' : List Nat} (h : EncSh w g d s e bs) (h' : EncSh w g d s e' bs') : e = e' ∧ bs = bs' := by
  rcases h with ⟨h1, rfl, rfl⟩ | ⟨h1, rfl, rfl⟩ <;> rcases h' with ⟨h2, rfl, rfl⟩ | ⟨h2, rfl, rfl⟩
  · exact ⟨rfl, rfl⟩
  · exact absurd h2 h1
  · exact absurd h1 h2
  · exact ⟨rfl, rfl⟩
theorem EncSh.len {e : Int} {bs : List Nat} (h : EncSh w g d s e bs) : bs.length ≤ 44 := by
  rcases h with ⟨_, _, rfl⟩ | ⟨_, _, rfl⟩
  · exact Nat.zero_le _
  · exact wrt_len _
theorem sheet_b (h : SheetP w g d s) : (1 ≤ w ∧ w ≤ 1048576) ∧ (1 ≤ g ∧ g ≤ 1048576) ∧ (0 ≤ d ∧ d ≤ 1) ∧ (0 ≤ s ∧ s ≤ 1048576) := by
  unfold SheetP SizeP at h
  omega
set_option maxRecDepth 100000 in
theorem encSheet_ok (hk : ∀ e bs D qo co h', EncSh w g d s e bs → Slot T_uint8 1 D qo bs.length co (u8s bs) → Hp hB [] h' D → K (.tuple #[.slice qo bs.length co, .int .i64 e]) h') :
    CP F_page_EncodeSheet #[.agg #[.int .i64 w, .int .i64 g, .int .i64 d, .int .i64 s]] hB K Kp := by
  refine call_page_EncodeSheet ?_
  unfold page_EncodeSheet
  have H := Hp.nil hB []
  refine newC_hp H fun r5 h H => ?_
  repeat first | with_reducible refine ldI_of (by with_unfolding_all first | exact hpA H 0 rfl rfl | exact Hp.cell H 0 rfl rfl | exact hpB H 0 rfl rfl | exact hpC H 0 rfl rfl) ?_ | with_reducible refine ldS_of (by with_unfolding_all first | exact hpA H 0 rfl rfl | exact Hp.cell H 0 rfl rfl | exact hpB H 0 rfl rfl | exact hpC H 0 rfl rfl) ?_ | with_reducible refine ldP_of (by with_unfolding_all first | exact hpA H 0 rfl rfl | exact Hp.cell H 0 rfl rfl | exact hpB H 0 rfl rfl | exact hpC H 0 rfl rfl) ?_ | with_reducible refine ldB_of (by with_unfolding_all first | exact hpA H 0 rfl rfl | exact Hp.cell H 0 rfl rfl | exact hpB H 0 rfl rfl | exact hpC H 0 rfl rfl) ?_ | with_reducible refine ldT_of (by with_unfolding_all first | exact hpA H 0 rfl rfl | exact Hp.cell H 0 rfl rfl | exact hpB H 0 rfl rfl | exact hpC H 0 rfl rfl) ?_
  refine sheet_ok fun b h hb e => ?_
  have H := H.ext e
  refine ⟨_, rfl, ?_⟩
  refine bcase_not (fun h1 => ?_) fun h1 => ?_
  · exact hk 150 [] [] none 0 h (.inl ⟨(fun hh => by rw [hb.2 hh] at h1; cases h1), rfl, rfl⟩) (Slot.nil _ _) (H.take 0)
  have hP := hb.1 h1
  obtain ⟨b1, b2, b3, b4⟩ := sheet_b hP
  repeat first | with_reducible refine ldI_of (by with_unfolding_all first | exact hpA H 0 rfl rfl | exact Hp.cell H 0 rfl rfl | exact hpB H 0 rfl rfl | exact hpC H 0 rfl rfl) ?_ | with_reducible refine ldS_of (by with_unfolding_all first | exact hpA H 0 rfl rfl | exact Hp.cell H 0 rfl rfl | exact hpB H 0 rfl rfl | exact hpC H 0 rfl rfl) ?_ | with_reducible refine ldP_of (by with_unfolding_all first | exact hpA H 0 rfl rfl | exact Hp.cell H 0 rfl rfl | exact hpB H 0 rfl rfl | exact hpC H 0 rfl rfl) ?_ | with_reducible refine ldB_of (by with_unfolding_all first | exact hpA H 0 rfl rfl | exact Hp.cell H 0 rfl rfl | exact hpB H 0 rfl rfl | exact hpC H 0 rfl rfl) ?_ | with_reducible refine ldT_of (by with_unfolding_all first | exact hpA H 0 rfl rfl | exact Hp.cell H 0 rfl rfl | exact hpB H 0 rfl rfl | exact hpC H 0 rfl rfl) ?_
  refine bindI_of ((-d)) (by exact i64_at _ _ (by omega) (by omega) (by omega)) ?_
  refine bindI_of ((-d - 1)) (by exact i64_in _ (by omega) (by omega)) ?_
  repeat first | with_reducible refine ldI_of (by with_unfolding_all first | exact hpA H 0 rfl rfl | exact Hp.cell H 0 rfl rfl | exact hpB H 0 rfl rfl | exact hpC H 0 rfl rfl) ?_ | with_reducible refine ldS_of (by with_unfolding_all first | exact hpA H 0 rfl rfl | exact Hp.cell H 0 rfl rfl | exact hpB H 0 rfl rfl | exact hpC H 0 rfl rfl) ?_ | with_reducible refine ldP_of (by with_unfolding_all first | exact hpA H 0 rfl rfl | exact Hp.cell H 0 rfl rfl | exact hpB H 0 rfl rfl | exact hpC H 0 rfl rfl) ?_ | with_reducible refine ldB_of (by with_unfolding_all first | exact hpA H 0 rfl rfl | exact Hp.cell H 0 rfl rfl | exact hpB H 0 rfl rfl | exact hpC H 0 rfl rfl) ?_ | with_reducible refine ldT_of (by with_unfolding_all first | exact hpA H 0 rfl rfl | exact Hp.cell H 0 rfl rfl | exact hpB H 0 rfl rfl | exact hpC H 0 rfl rfl) ?_
  refine newC_hp H fun r20 h H => ?_
  have hr : rdO h (some ⟨r20, 0, none⟩) (([w, g, -d - 1, s] : List Int).length * 1) (ints64 [w, g, -d - 1, s]) := Hp.rdO_mem (rest := []) H (List.mem_append_right _ (List.mem_singleton.2 rfl)) rfl
  refine written_ok (l := [w, g, -d - 1, s]) hr (by show 4 ≤ 10; omega) (fun v hv => by
    have hv : v = w ∨ v = g ∨ v = -d - 1 ∨ v = s := by simpa using hv
    rcases hv with rfl | rfl | rfl | rfl <;> omega) fun D qo co h' hs H' => ?_
  replace H := H.join H' hs.w
  refine ⟨_, _, _, rfl, ?_⟩
  exact hk 0 _ D qo co h' (.inr ⟨hP, rfl, rfl⟩) hs (Hp.suf H)
set_option maxRecDepth 100000 in
set_option maxHeartbeats 2000000 in
theorem rencSheet_ok (hk : ∀ e bs D qo co h', EncSh w g d s e bs → Slot T_uint8 1 D qo bs.length co (u8s bs) → Hp hB [] h' D → K (.tuple #[.slice qo bs.length co, .int .i64 e]) h') :
    CP F_burinref15_EncodeSheet #[.agg #[.int .i64 w, .int .i64 g, .int .i64 d, .int .i64 s]] hB K Kp := by
  refine call_burinref15_EncodeSheet ?_
  unfold burinref15_EncodeSheet
  have H := Hp.nil hB []
  refine newC_hp H fun r5 h H => ?_
  repeat first | with_reducible refine ldI_of (by with_unfolding_all first | exact hpA H 0 rfl rfl | exact Hp.cell H 0 rfl rfl | exact hpB H 0 rfl rfl | exact hpC H 0 rfl rfl) ?_ | with_reducible refine ldS_of (by with_unfolding_all first | exact hpA H 0 rfl rfl | exact Hp.cell H 0 rfl rfl | exact hpB H 0 rfl rfl | exact hpC H 0 rfl rfl) ?_ | with_reducible refine ldP_of (by with_unfolding_all first | exact hpA H 0 rfl rfl | exact Hp.cell H 0 rfl rfl | exact hpB H 0 rfl rfl | exact hpC H 0 rfl rfl) ?_ | with_reducible refine ldB_of (by with_unfolding_all first | exact hpA H 0 rfl rfl | exact Hp.cell H 0 rfl rfl | exact hpB H 0 rfl rfl | exact hpC H 0 rfl rfl) ?_ | with_reducible refine ldT_of (by with_unfolding_all first | exact hpA H 0 rfl rfl | exact Hp.cell H 0 rfl rfl | exact hpB H 0 rfl rfl | exact hpC H 0 rfl rfl) ?_
  refine maySheet_ok fun b h hb e => ?_
  have H := H.ext e
  refine ⟨_, rfl, ?_⟩
  refine bcase_not (fun h1 => ?_) fun h1 => ?_
  · exact hk 150 [] [] none 0 h (.inl ⟨(fun hh => by rw [hb.2 hh] at h1; cases h1), rfl, rfl⟩) (Slot.nil _ _) (H.take 0)
  have hP := hb.1 h1
  obtain ⟨b1, b2, b3, b4⟩ := sheet_b hP
  repeat first | with_reducible refine ldI_of (by with_unfolding_all first | exact hpA H 0 rfl rfl | exact Hp.cell H 0 rfl rfl | exact hpB H 0 rfl rfl | exact hpC H 0 rfl rfl) ?_ | with_reducible refine ldS_of (by with_unfolding_all first | exact hpA H 0 rfl rfl | exact Hp.cell H 0 rfl rfl | exact hpB H 0 rfl rfl | exact hpC H 0 rfl rfl) ?_ | with_reducible refine ldP_of (by with_unfolding_all first | exact hpA H 0 rfl rfl | exact Hp.cell H 0 rfl rfl | exact hpB H 0 rfl rfl | exact hpC H 0 rfl rfl) ?_ | with_reducible refine ldB_of (by with_unfolding_all first | exact hpA H 0 rfl rfl | exact Hp.cell H 0 rfl rfl | exact hpB H 0 rfl rfl | exact hpC H 0 rfl rfl) ?_ | with_reducible refine ldT_of (by with_unfolding_all first | exact hpA H 0 rfl rfl | exact Hp.cell H 0 rfl rfl | exact hpB H 0 rfl rfl | exact hpC H 0 rfl rfl) ?_
  refine bindI_of (((w.toNat : Nat) : Int)) (by exact u64_at _ _ (by omega) (by omega) (by omega)) ?_
  repeat first | with_reducible refine ldI_of (by with_unfolding_all first | exact hpA H 0 rfl rfl | exact Hp.cell H 0 rfl rfl | exact hpB H 0 rfl rfl | exact hpC H 0 rfl rfl) ?_ | with_reducible refine ldS_of (by with_unfolding_all first | exact hpA H 0 rfl rfl | exact Hp.cell H 0 rfl rfl | exact hpB H 0 rfl rfl | exact hpC H 0 rfl rfl) ?_ | with_reducible refine ldP_of (by with_unfolding_all first | exact hpA H 0 rfl rfl | exact Hp.cell H 0 rfl rfl | exact hpB H 0 rfl rfl | exact hpC H 0 rfl rfl) ?_ | with_reducible refine ldB_of (by with_unfolding_all first | exact hpA H 0 rfl rfl | exact Hp.cell H 0 rfl rfl | exact hpB H 0 rfl rfl | exact hpC H 0 rfl rfl) ?_ | with_reducible refine ldT_of (by with_unfolding_all first | exact hpA H 0 rfl rfl | exact Hp.cell H 0 rfl rfl | exact hpB H 0 rfl rfl | exact hpC H 0 rfl rfl) ?_
  refine bindI_of (((g.toNat : Nat) : Int)) (by exact u64_at _ _ (by omega) (by omega) (by omega)) ?_
  have l1 := grp_len w.toNat
  have l2 := grp_len g.toNat
  have l3 := grp_len s.toNat
  refine groups_ok (by omega) fun D1 q1 c1 h1' hs1 H' => ?_
  have e1 := H'.hext
  replace H := H.join H' hs1.w
  clear H'
  refine ⟨_, _, _, rfl, e1, ?_⟩
  refine groups_ok (by omega) fun D2 q2 c2 h2 hs2 H' => ?_
  replace H := H.join H' hs2.w
  clear H'
  refine ⟨_, _, _, rfl, ?_⟩
  have H : Hp hB [] h2 ([⟨r5, true, T_api_Sheet, [.int .i64 w, .int .i64 g, .int .i64 d, .int .i64 s]⟩] ++ (D1 ++ D2)) := H.as (by simp only [List.append_assoc, List.nil_append])
  refine Slot.app (m := (grp g.toNat).length) (new := u8s (grp g.toNat)) hs1 H rfl (Slot.rdO' hs2 H fun e he => List.mem_append_right _ (List.mem_append_right _ he)) (by rw [u8s_length, Nat.mul_one]) (u8s_cells _) l2.1 (by omega) fun D3 q3 c3 h3 hs3 H => ?_
  clear e1
  refine ldI_of (hpA H 0 rfl rfl) ?_
  refine bindI_of (((d.toNat : Nat) : Int)) (by exact (wr8 _ (by omega) (by omega)).trans (by omega)) ?_
  refine newC_hp H fun r28 h H => ?_
  have H : Hp hB [] h ([⟨r5, true, T_api_Sheet, [.int .i64 w, .int .i64 g, .int .i64 d, .int .i64 s]⟩] ++ (D3 ++ (D2 ++ [⟨r28, true, T_uint8, [.int .u8 (d.toNat : Nat)]⟩]))) := H.as (by simp only [List.append_assoc])
  refine Slot.app (m := 1) (new := [.int .u8 (d.toNat : Nat)]) hs3 H rfl (Hp.rdO_mem (rest := []) (cs := [.int .u8 (d.toNat : Nat)]) H (List.mem_append_right _ (List.mem_append_right _ (List.mem_append_right _ (List.mem_singleton.2 rfl)))) rfl) rfl (fun v hv => by rw [List.mem_singleton.1 hv]; rfl) (by decide) (by omega) fun D4 q4 c4 h4 hs4 H => ?_
  refine ldI_of (hpA H 0 rfl rfl) ?_
  refine bindI_of (((s.toNat : Nat) : Int)) (by exact u64_at _ _ (by omega) (by omega) (by omega)) ?_
  refine groups_ok (by omega) fun D5 q5 c5 h5 hs5 H' => ?_
  replace H := H.join H' hs5.w
  clear H'
  refine ⟨_, _, _, rfl, ?_⟩
  have H : Hp hB [] h5 ([⟨r5, true, T_api_Sheet, [.int .i64 w, .int .i64 g, .int .i64 d, .int .i64 s]⟩] ++ (D4 ++ ((D2 ++ [⟨r28, true, T_uint8, [.int .u8 (d.toNat : Nat)]⟩]) ++ D5))) := H.as (by simp only [List.append_assoc])
  refine Slot.app (m := (grp s.toNat).length) (new := u8s (grp s.toNat)) hs4 H rfl (Slot.rdO' hs5 H fun e he => List.mem_append_right _ (List.mem_append_right _ (List.mem_append_right _ he))) (by rw [u8s_length, Nat.mul_one]) (u8s_cells _) l3.1 (by omega) fun D6 q6 c6 h6 hs6 H => ?_
  have e6 : wrt [w, g, -d - 1, s] = grp w.toNat ++ grp g.toNat ++ [d.toNat] ++ grp s.toNat := by
    have ew : wrB w = grp w.toNat := by unfold wrB; rw [if_neg (by omega)]
    have eg : wrB g = grp g.toNat := by unfold wrB; rw [if_neg (by omega)]
    have ed : wrB (-d - 1) = [d.toNat] := by unfold wrB; rw [if_pos (by omega), show -(-d - 1) - 1 = d by omega]
    have es : wrB s = grp s.toNat := by unfold wrB; rw [if_neg (by omega)]
    unfold wrt
    simp only [List.flatMap_cons, List.flatMap_nil, ew, eg, ed, es, List.append_assoc, List.append_nil]
  have el : (grp w.toNat).length + (grp g.toNat).length + 1 + (grp s.toNat).length = (wrt [w, g, -d - 1, s]).length := by
    rw [e6]
    simp only [List.length_append, List.length_singleton]
  have eu : u8s (grp w.toNat) ++ u8s (grp g.toNat) ++ [.int .u8 (d.toNat : Nat)] ++ u8s (grp s.toNat) = u8s (wrt [w, g, -d - 1, s]) := by
    rw [e6]
    simp [u8s]
  rw [el, eu] at hs6
  rw [el]
  exact hk 0 _ D6 q6 c6 h6 (.inr ⟨hP, rfl, rfl⟩) hs6 (Hp.pre (Hp.suf H))
end
end Go.Bm

/- Written by gen.py: the conditions of the functions of law15PageEncodes. -/
set_option linter.unusedVariables false
set_option linter.unusedSimpArgs false
namespace Go.Den.YtfaclehehhgpcaaGreat
open Go Go.Den

/- burin/burinlaw15.PageEncodes -/
set_option maxRecDepth 100000 in
def burinlaw15_PageEncodes (C : CallP) (a0_1 : Option Addr) (a0_1n : Nat) (a0_1c : Nat) (a0_2 : Option Addr) (a0_2n : Nat) (a0_2c : Nat) (a0_3 : Option Addr) (a0_3n : Nat) (a0_3c : Nat) (h : Heap) (K : Value → Heap → Prop) (Kp : List PanicEntry → Heap → Prop) : Prop :=
newC h [.slice a0_1 a0_1n a0_1c, .slice a0_2 a0_2n a0_2c, .slice a0_3 a0_3n a0_3c] T_burinlaw15_Forms fun r_4 h_5 =>
∃ K_6 : List Value → Heap → Prop, (
∃ J_9 : Nat → List Value → Heap → Prop, (∃ n_11, J_9 n_11 [.int .i64 0] h_5) ∧ ∀ (n_11 : Nat) (h_12 : Heap) (u_13 : Nat → Value) (x_14 : Int), J_9 n_11 [.int .i64 x_14] h_12 → (
ldS h_12 ((⟨r_4, 0, none⟩ : Addr).add 0) fun x_15 x_15n x_15c =>
bcase (decide (x_14 < (x_15n : Int))) (
bcase (decide (x_14 < (20 : Int))) (
ldS h_12 ((⟨r_4, 0, none⟩ : Addr).add 0) fun x_16 x_16n x_16c =>
needs (0 ≤ x_14 ∧ x_14 < (x_16n : Int)) <|
ptr x_16 fun a_17 =>
ldI h_12 ((a_17.add (x_14.toNat * 4)).add 0) .i64 fun x_18 =>
ldI h_12 ((a_17.add (x_14.toNat * 4)).add 1) .i64 fun x_19 =>
ldI h_12 ((a_17.add (x_14.toNat * 4)).add 2) .i64 fun x_20 =>
ldI h_12 ((a_17.add (x_14.toNat * 4)).add 3) .i64 fun x_21 =>
C F_page_EncodeSheet #[.agg #[.int .i64 x_18, .int .i64 x_19, .int .i64 x_20, .int .i64 x_21]] h_12 (fun v_22 h_23 =>
∃ (r_24 : Option Addr) (r_24n : Nat) (r_24c : Nat), ∃ (r_25 : Int), v_22 = .tuple #[.slice r_24 r_24n r_24c, .int .i64 r_25] ∧ (
ldS h_23 ((⟨r_4, 0, none⟩ : Addr).add 0) fun x_26 x_26n x_26c =>
needs (0 ≤ x_14 ∧ x_14 < (x_26n : Int)) <|
ptr x_26 fun a_27 =>
ldI h_23 ((a_27.add (x_14.toNat * 4)).add 0) .i64 fun x_28 =>
ldI h_23 ((a_27.add (x_14.toNat * 4)).add 1) .i64 fun x_29 =>
ldI h_23 ((a_27.add (x_14.toNat * 4)).add 2) .i64 fun x_30 =>
ldI h_23 ((a_27.add (x_14.toNat * 4)).add 3) .i64 fun x_31 =>
C F_burinref15_EncodeSheet #[.agg #[.int .i64 x_28, .int .i64 x_29, .int .i64 x_30, .int .i64 x_31]] h_23 (fun v_32 h_33 =>
∃ (r_34 : Option Addr) (r_34n : Nat) (r_34c : Nat), ∃ (r_35 : Int), v_32 = .tuple #[.slice r_34 r_34n r_34c, .int .i64 r_35] ∧ (
bcase (r_25 != r_35) (
K (.bool false) h_33) <|
C F_burinref0_Eq #[.slice r_24 r_24n r_24c, .slice r_34 r_34n r_34c] h_33 (fun v_36 h_37 =>
∃ (r_38 : Bool), v_36 = .bool r_38 ∧ (
bcase (!r_38) (
K (.bool false) h_37) <|
bindI (IntKind.i64.wrap (x_14 + (1 : Int))) fun z_39 =>
∃ m_10, m_10 < n_11 ∧ J_9 m_10 [.int .i64 z_39] h_37)) (Kp))) (Kp))) (Kp)) <|
K_6 [] h_12) <|
K_6 [] h_12)) ∧ ∀ (h_7 : Heap) (u_8 : Nat → Value) , K_6 [] h_7 → (
∃ J_40 : Nat → List Value → Heap → Prop, (∃ n_42, J_40 n_42 [.int .i64 0] h_7) ∧ ∀ (n_42 : Nat) (h_43 : Heap) (u_44 : Nat → Value) (x_45 : Int), J_40 n_42 [.int .i64 x_45] h_43 → (
ldS h_43 ((⟨r_4, 0, none⟩ : Addr).add 1) fun x_46 x_46n x_46c =>
bcase (decide (x_45 < (x_46n : Int))) (
bcase (decide (x_45 < (4 : Int))) (
ldS h_43 ((⟨r_4, 0, none⟩ : Addr).add 1) fun x_47 x_47n x_47c =>
needs (0 ≤ x_45 ∧ x_45 < (x_47n : Int)) <|
ptr x_47 fun a_48 =>
ldI h_43 ((a_48.add (x_45.toNat * 8)).add 0) .i64 fun x_49 =>
ldI h_43 ((a_48.add (x_45.toNat * 8)).add 1) .i64 fun x_50 =>
ldI h_43 ((a_48.add (x_45.toNat * 8)).add 2) .i64 fun x_51 =>
ldI h_43 ((a_48.add (x_45.toNat * 8)).add 3) .i64 fun x_52 =>
ldB h_43 ((a_48.add (x_45.toNat * 8)).add 4) fun x_53 =>
ldI h_43 ((a_48.add (x_45.toNat * 8)).add 5) .i64 fun x_54 =>
ldI h_43 ((a_48.add (x_45.toNat * 8)).add 6) .i64 fun x_55 =>
ldS h_43 ((a_48.add (x_45.toNat * 8)).add 7) fun x_56 x_56n x_56c =>
newC h_43 [.int .i64 0, .int .i64 0, .int .i64 0, .int .i64 0, .bool false, .int .i64 0, .int .i64 0, .slice none 0 0] T_api_Region fun r_57 h_58 =>
stV h_58 ((⟨r_57, 0, none⟩ : Addr).add 0) (.int .i64 x_49) fun h_59 =>
stV h_59 ((⟨r_57, 0, none⟩ : Addr).add 1) (.int .i64 x_50) fun h_60 =>
stV h_60 ((⟨r_57, 0, none⟩ : Addr).add 2) (.int .i64 x_51) fun h_61 =>
stV h_61 ((⟨r_57, 0, none⟩ : Addr).add 3) (.int .i64 x_52) fun h_62 =>
stV h_62 ((⟨r_57, 0, none⟩ : Addr).add 4) (.bool x_53) fun h_63 =>
stV h_63 ((⟨r_57, 0, none⟩ : Addr).add 5) (.int .i64 x_54) fun h_64 =>
stV h_64 ((⟨r_57, 0, none⟩ : Addr).add 6) (.int .i64 x_55) fun h_65 =>
stV h_65 ((⟨r_57, 0, none⟩ : Addr).add 7) (.slice x_56 x_56n x_56c) fun h_66 =>
∃ K_67 : List Value → Heap → Prop, (
ldS h_66 (((⟨r_57, 0, none⟩ : Addr).add 5).add 2) fun x_70 x_70n x_70c =>
bcase (decide ((x_70n : Int) > (375 : Int))) (
bindI (IntKind.i64.wrap (x_45 + (1 : Int))) fun z_71 =>
∃ m_41, m_41 < n_42 ∧ J_40 m_41 [.int .i64 z_71] h_66) <|
ldI h_66 (((⟨r_57, 0, none⟩ : Addr).add 5).add 0) .i64 fun x_72 =>
ldI h_66 (((⟨r_57, 0, none⟩ : Addr).add 5).add 1) .i64 fun x_73 =>
ldS h_66 (((⟨r_57, 0, none⟩ : Addr).add 5).add 2) fun x_74 x_74n x_74c =>
C F_burinref0_May #[.agg #[.int .i64 x_72, .int .i64 x_73, .slice x_74 x_74n x_74c]] h_66 (fun v_75 h_76 =>
∃ (r_77 : Bool), v_75 = .bool r_77 ∧ (
bcase r_77 (
ldI h_76 (((⟨r_57, 0, none⟩ : Addr).add 5).add 0) .i64 fun x_78 =>
ldI h_76 (((⟨r_57, 0, none⟩ : Addr).add 5).add 1) .i64 fun x_79 =>
bindI (IntKind.i64.wrap (x_78 * x_79)) fun z_80 =>
bcase (decide (z_80 > (6000 : Int))) (
bindI (IntKind.i64.wrap (x_45 + (1 : Int))) fun z_81 =>
∃ m_41, m_41 < n_42 ∧ J_40 m_41 [.int .i64 z_81] h_76) <|
K_67 [] h_76) <|
K_67 [] h_76)) (Kp)) ∧ ∀ (h_68 : Heap) (u_69 : Nat → Value) , K_67 [] h_68 → (
ldI h_68 ((⟨r_57, 0, none⟩ : Addr).add 0) .i64 fun x_82 =>
ldI h_68 ((⟨r_57, 0, none⟩ : Addr).add 1) .i64 fun x_83 =>
ldI h_68 ((⟨r_57, 0, none⟩ : Addr).add 2) .i64 fun x_84 =>
ldI h_68 ((⟨r_57, 0, none⟩ : Addr).add 3) .i64 fun x_85 =>
ldB h_68 ((⟨r_57, 0, none⟩ : Addr).add 4) fun x_86 =>
ldI h_68 ((⟨r_57, 0, none⟩ : Addr).add 5) .i64 fun x_87 =>
ldI h_68 ((⟨r_57, 0, none⟩ : Addr).add 6) .i64 fun x_88 =>
ldS h_68 ((⟨r_57, 0, none⟩ : Addr).add 7) fun x_89 x_89n x_89c =>
newC h_68 [.int .i64 0, .int .i64 0, .int .i64 0, .int .i64 0, .bool false, .int .i64 0, .int .i64 0, .slice none 0 0] T_api_Region fun r_90 h_91 =>
stV h_91 ((⟨r_90, 0, none⟩ : Addr).add 0) (.int .i64 x_82) fun h_92 =>
stV h_92 ((⟨r_90, 0, none⟩ : Addr).add 1) (.int .i64 x_83) fun h_93 =>
stV h_93 ((⟨r_90, 0, none⟩ : Addr).add 2) (.int .i64 x_84) fun h_94 =>
stV h_94 ((⟨r_90, 0, none⟩ : Addr).add 3) (.int .i64 x_85) fun h_95 =>
stV h_95 ((⟨r_90, 0, none⟩ : Addr).add 4) (.bool x_86) fun h_96 =>
stV h_96 ((⟨r_90, 0, none⟩ : Addr).add 5) (.int .i64 x_87) fun h_97 =>
stV h_97 ((⟨r_90, 0, none⟩ : Addr).add 6) (.int .i64 x_88) fun h_98 =>
stV h_98 ((⟨r_90, 0, none⟩ : Addr).add 7) (.slice x_89 x_89n x_89c) fun h_99 =>
ldI h_99 (((⟨r_57, 0, none⟩ : Addr).add 5).add 0) .i64 fun x_100 =>
ldI h_99 (((⟨r_57, 0, none⟩ : Addr).add 5).add 1) .i64 fun x_101 =>
ldS h_99 (((⟨r_57, 0, none⟩ : Addr).add 5).add 2) fun x_102 x_102n x_102c =>
C F_burinkit_LendBitmap #[.agg #[.int .i64 x_100, .int .i64 x_101, .slice x_102 x_102n x_102c]] h_99 (fun v_103 h_104 =>
∃ (r_105 : Int) (r_106 : Int) (r_107 : Option Addr) (r_107n : Nat) (r_107c : Nat), v_103 = .agg #[.int .i64 r_105, .int .i64 r_106, .slice r_107 r_107n r_107c] ∧ (
stV h_104 (((⟨r_90, 0, none⟩ : Addr).add 5).add 0) (.int .i64 r_105) fun h_108 =>
stV h_108 (((⟨r_90, 0, none⟩ : Addr).add 5).add 1) (.int .i64 r_106) fun h_109 =>
stV h_109 (((⟨r_90, 0, none⟩ : Addr).add 5).add 2) (.slice r_107 r_107n r_107c) fun h_110 =>
ldI h_110 ((⟨r_90, 0, none⟩ : Addr).add 0) .i64 fun x_111 =>
ldI h_110 ((⟨r_90, 0, none⟩ : Addr).add 1) .i64 fun x_112 =>
ldI h_110 ((⟨r_90, 0, none⟩ : Addr).add 2) .i64 fun x_113 =>
ldI h_110 ((⟨r_90, 0, none⟩ : Addr).add 3) .i64 fun x_114 =>
ldB h_110 ((⟨r_90, 0, none⟩ : Addr).add 4) fun x_115 =>
ldI h_110 ((⟨r_90, 0, none⟩ : Addr).add 5) .i64 fun x_116 =>
ldI h_110 ((⟨r_90, 0, none⟩ : Addr).add 6) .i64 fun x_117 =>
ldS h_110 ((⟨r_90, 0, none⟩ : Addr).add 7) fun x_118 x_118n x_118c =>
C F_page_EncodeRegion #[.agg #[.int .i64 x_111, .int .i64 x_112, .int .i64 x_113, .int .i64 x_114, .bool x_115, .int .i64 x_116, .int .i64 x_117, .slice x_118 x_118n x_118c]] h_110 (fun v_119 h_120 =>
∃ (r_121 : Option Addr) (r_121n : Nat) (r_121c : Nat), ∃ (r_122 : Int), v_119 = .tuple #[.slice r_121 r_121n r_121c, .int .i64 r_122] ∧ (
ldI h_120 ((⟨r_57, 0, none⟩ : Addr).add 0) .i64 fun x_123 =>
ldI h_120 ((⟨r_57, 0, none⟩ : Addr).add 1) .i64 fun x_124 =>
ldI h_120 ((⟨r_57, 0, none⟩ : Addr).add 2) .i64 fun x_125 =>
ldI h_120 ((⟨r_57, 0, none⟩ : Addr).add 3) .i64 fun x_126 =>
ldB h_120 ((⟨r_57, 0, none⟩ : Addr).add 4) fun x_127 =>
ldI h_120 ((⟨r_57, 0, none⟩ : Addr).add 5) .i64 fun x_128 =>
ldI h_120 ((⟨r_57, 0, none⟩ : Addr).add 6) .i64 fun x_129 =>
ldS h_120 ((⟨r_57, 0, none⟩ : Addr).add 7) fun x_130 x_130n x_130c =>
C F_burinref15_EncodeRegion #[.agg #[.int .i64 x_123, .int .i64 x_124, .int .i64 x_125, .int .i64 x_126, .bool x_127, .int .i64 x_128, .int .i64 x_129, .slice x_130 x_130n x_130c]] h_120 (fun v_131 h_132 =>
∃ (r_133 : Option Addr) (r_133n : Nat) (r_133c : Nat), ∃ (r_134 : Int), v_131 = .tuple #[.slice r_133 r_133n r_133c, .int .i64 r_134] ∧ (
ldI h_132 (((⟨r_90, 0, none⟩ : Addr).add 5).add 0) .i64 fun x_135 =>
ldI h_132 (((⟨r_90, 0, none⟩ : Addr).add 5).add 1) .i64 fun x_136 =>
ldS h_132 (((⟨r_90, 0, none⟩ : Addr).add 5).add 2) fun x_137 x_137n x_137c =>
ldI h_132 (((⟨r_57, 0, none⟩ : Addr).add 5).add 0) .i64 fun x_138 =>
ldI h_132 (((⟨r_57, 0, none⟩ : Addr).add 5).add 1) .i64 fun x_139 =>
ldS h_132 (((⟨r_57, 0, none⟩ : Addr).add 5).add 2) fun x_140 x_140n x_140c =>
C F_burinkit_BackBitmap #[.agg #[.int .i64 x_135, .int .i64 x_136, .slice x_137 x_137n x_137c], .agg #[.int .i64 x_138, .int .i64 x_139, .slice x_140 x_140n x_140c]] h_132 (fun v_141 h_142 =>
∃ (r_143 : Bool), v_141 = .bool r_143 ∧ (
bcase (!r_143) (
K (.bool false) h_142) <|
bcase (r_122 != r_134) (
K (.bool false) h_142) <|
C F_burinref0_Eq #[.slice r_121 r_121n r_121c, .slice r_133 r_133n r_133c] h_142 (fun v_144 h_145 =>
∃ (r_146 : Bool), v_144 = .bool r_146 ∧ (
bcase (!r_146) (
K (.bool false) h_145) <|
bindI (IntKind.i64.wrap (x_45 + (1 : Int))) fun z_147 =>
∃ m_41, m_41 < n_42 ∧ J_40 m_41 [.int .i64 z_147] h_145)) (Kp))) (Kp))) (Kp))) (Kp))) (Kp))) <|
C F_burinlaw15_wakes #[] h_43 (fun v_148 h_149 =>
∃ (r_150 : Bool), v_148 = .bool r_150 ∧ (
K (.bool r_150) h_149)) (Kp)) <|
C F_burinlaw15_wakes #[] h_43 (fun v_151 h_152 =>
∃ (r_153 : Bool), v_151 = .bool r_153 ∧ (
K (.bool r_153) h_152)) (Kp)))

end Go.Den.YtfaclehehhgpcaaGreat

/- Written by gen.py: each condition of the functions of law15PageEncodes is the one of its body; so it is enough for its call. -/
set_option linter.unusedVariables false
set_option linter.unusedSimpArgs false
namespace Go.Den.YtfaclehehhgpcaaGreat
open Go Go.Den

noncomputable def hints_burinlaw15_PageEncodes : Hints := Hints.mk (fun i => none)
  (fun i => bif Nat.beq i 2 then some ([(3, .int .i64)], 9007199254708476) else (bif Nat.beq i 9 then some ([(8, .int .i64)], 2658455991569831745798606921305980676) else (none)))
  (fun i => bif Nat.beq i 8 then some ([], 9007199254708476) else (bif Nat.beq i 13 then some ([], 618969429346879778743910400) else (none))) []
set_option maxRecDepth 100000 in
theorem eq_burinlaw15_PageEncodes (C : CallP) (a0_1 : Option Addr) (a0_1n : Nat) (a0_1c : Nat) (a0_2 : Option Addr) (a0_2n : Nat) (a0_2c : Nat) (a0_3 : Option Addr) (a0_3n : Nat) (a0_3c : Nat) (h : Heap) (K : Value → Heap → Prop) (Kp : List PanicEntry → Heap → Prop) :
    fnD Go.Proofs.Tryz.prog C hints_burinlaw15_PageEncodes Go.Proofs.Tryz.f3 [.agg #[.slice a0_1 a0_1n a0_1c, .slice a0_2 a0_2n a0_2c, .slice a0_3 a0_3n a0_3c]] h K Kp = burinlaw15_PageEncodes C a0_1 a0_1n a0_1c a0_2 a0_2n a0_2c a0_3 a0_3n a0_3c h K Kp := by kernel_rfl

theorem call_burinlaw15_PageEncodes {a0_1 : Option Addr} {a0_1n : Nat} {a0_1c : Nat} {a0_2 : Option Addr} {a0_2n : Nat} {a0_2c : Nat} {a0_3 : Option Addr} {a0_3n : Nat} {a0_3c : Nat} {h : Heap} {K : Value → Heap → Prop} {Kp : List PanicEntry → Heap → Prop} (H : burinlaw15_PageEncodes (CallsHP Go.Proofs.Tryz.prog) a0_1 a0_1n a0_1c a0_2 a0_2n a0_2c a0_3 a0_3n a0_3c h K Kp) : CallsHP Go.Proofs.Tryz.prog F_burinlaw15_PageEncodes #[.agg #[.slice a0_1 a0_1n a0_1c, .slice a0_2 a0_2n a0_2c, .slice a0_3 a0_3n a0_3c]] h K Kp :=
  callsHP_of hints_burinlaw15_PageEncodes (by kernel_rfl) Go.Proofs.Tryz.func3 (by kernel_rfl) (by rw [eq_burinlaw15_PageEncodes]; exact H)

end Go.Den.YtfaclehehhgpcaaGreat

/- PbD: regions as bytes, both sides; the law PageEncodes, said of memory. -/
set_option linter.unusedVariables false
set_option linter.unusedSimpArgs false
namespace Go.Bm
open Go Go.Den Go.Den.YtfaclehehhgpcaaGreat
open Go.Ar (u8s u8s_length u8s_cells)

def RegP (x y op t w b : Int) (ws : List Nat) : Prop := (0 ≤ x ∧ x ≤ 1048576) ∧ (0 ≤ y ∧ y ≤ 1048576) ∧ (0 ≤ op ∧ op ≤ 4) ∧ (0 ≤ t ∧ t < 4) ∧ MayP w b ws
def howR (op t : Int) (sk : Bool) : Int := t + 8 * op + (if sk = true then 4 else 0)
def EncRg (x y op t : Int) (sk : Bool) (w b : Int) (ws : List Nat) (e : Int) (bs : List Nat) : Prop :=
  ¬ RegP x y op t w b ws ∧ e = 150 ∧ bs = [] ∨ RegP x y op t w b ws ∧ e = 0 ∧ ∃ ds, GEncR w b ws t sk 0 ds ∧ bs = wrt [x, y, w, b, -(howR op t sk) - 1] ++ ds
theorem GEncR.len2 {w b template : Int} {skip : Bool} {ws : List Nat} {e : Int} {bs : List Nat} (h : GEncR w b ws template skip e bs) : bs.length ≤ 70000000000000 := by
  rcases h with ⟨_, _, rfl⟩ | ⟨_, _, _, rfl⟩ | ⟨_, _, _, G, s', k, _, _, hok, rfl⟩
  · exact Nat.zero_le _
  · exact Nat.zero_le _
  · have h1 := Go.Ar.flushM_len s'
    have h2 := hok.wf.len
    have h3 := hok.wf.n
    omega
section
variable {x y op t w b : Int} {sk : Bool} {ws : List Nat}
theorem EncRg.det {e e' : Int} {bs bs' : List Nat} (h : EncRg x y op t sk w b ws e bs) (h' : EncRg x y op t sk w b ws e' bs') : e = e' ∧ bs = bs' := by
  rcases h with ⟨h1, rfl, rfl⟩ | ⟨h1, rfl, ds, g, rfl⟩ <;> rcases h' with ⟨h2, rfl, rfl⟩ | ⟨h2, rfl, ds', g', rfl⟩
  · exact ⟨rfl, rfl⟩
  · exact absurd h2 h1
  · exact absurd h1 h2
  · exact ⟨rfl, by rw [(g.det g').2]⟩
theorem EncRg.len {e : Int} {bs : List Nat} (h : EncRg x y op t sk w b ws e bs) : bs.length < 140737488351300 := by
  rcases h with ⟨_, _, rfl⟩ | ⟨_, _, ds, g, rfl⟩
  · decide
  · have h1 := g.len2
    have h2 := wrt_len [x, y, w, b, -(howR op t sk) - 1]
    have h3 : ([x, y, w, b, -(howR op t sk) - 1] : List Int).length = 5 := rfl
    rw [List.length_append]
    omega
theorem reg_b (h : RegP x y op t w b ws) : (0 ≤ x ∧ x ≤ 1048576) ∧ (0 ≤ y ∧ y ≤ 1048576) ∧ (1 ≤ w ∧ w ≤ 1048576) ∧ (1 ≤ b ∧ b ≤ 1048576) ∧ (0 ≤ howR op t sk ∧ howR op t sk ≤ 39) := by
  obtain ⟨h1, h2, h3, h4, h5, _⟩ := h
  unfold SizeP at h5
  unfold howR
  refine ⟨h1, h2, by omega, by omega, ?_⟩
  split <;> omega
variable {hB : Heap} {q1 : Option Addr} {c1 : Nat} {K : Value → Heap → Prop} {Kp : List PanicEntry → Heap → Prop}
set_option maxRecDepth 100000 in
set_option maxHeartbeats 4000000 in
theorem encRegion_ok (hr1 : rdO hB q1 (ws.length * 1) (u64s ws)) (hw1 : W64 ws) (hl1 : ws.length < 140737488351300) (hk : ∀ e bs D qo co h', EncRg x y op t sk w b ws e bs → Slot T_uint8 1 D qo bs.length co (u8s bs) → Hp hB [] h' D → K (.tuple #[.slice qo bs.length co, .int .i64 e]) h') :
    CP F_page_EncodeRegion #[.agg #[.int .i64 x, .int .i64 y, .int .i64 op, .int .i64 t, .bool sk, .int .i64 w, .int .i64 b, .slice q1 ws.length c1]] hB K Kp := by
  refine call_page_EncodeRegion ?_
  unfold page_EncodeRegion
  have H := Hp.nil hB []
  refine newC_hp H fun r9 h H => ?_
  have bad : ∀ h', ¬ RegP x y op t w b ws → Hp hB [] h' [⟨r9, true, T_api_Region, [.int .i64 x, .int .i64 y, .int .i64 op, .int .i64 t, .bool sk, .int .i64 w, .int .i64 b, .slice q1 ws.length c1]⟩] → K (.tuple #[.slice none 0 0, .int .i64 150]) h' := fun h' hn H => hk 150 [] [] none 0 h' (.inl ⟨hn, rfl, rfl⟩) (Slot.nil _ _) (H.take 0)
  refine ldI_of (hpA H 0 rfl rfl) ?_
  refine within_ok fun b1 hb1 => ?_
  refine ⟨_, rfl, ?_⟩
  refine bcase_not (fun h1 => bad _ (fun hh => by rw [hb1.2 hh.1] at h1; cases h1) H) fun h1 => ?_
  have p1 := hb1.1 h1
  refine ldI_of (hpA H 0 rfl rfl) ?_
  refine within_ok fun b2 hb2 => ?_
  refine ⟨_, rfl, ?_⟩
  refine bcase_not (fun h1 => bad _ (fun hh => by rw [hb2.2 hh.2.1] at h1; cases h1) H) fun h1 => ?_
  have p2 := hb2.1 h1
  refine ldI_of (hpA H 0 rfl rfl) ?_
  refine operation_ok fun b3 hb3 => ?_
  refine ⟨_, rfl, ?_⟩
  refine bcase_not (fun h1 => bad _ (fun hh => by rw [hb3.2 hh.2.2.1] at h1; cases h1) H) fun h1 => ?_
  have p3 := hb3.1 h1
  refine ldI_of (hpA H 0 rfl rfl) ?_
  refine bcase_dec (fun h1 => bad _ (fun hh => by have := hh.2.2.2.1; omega) H) fun h2 => ?_
  refine ldI_of (hpA H 0 rfl rfl) ?_
  refine bcase_dec (fun h1 => bad _ (fun hh => by have := hh.2.2.2.1; omega) H) fun h3 => ?_
  have p4 : 0 ≤ t ∧ t < 4 := ⟨by omega, by omega⟩
  refine ldI_of (hpB H 0 rfl rfl) (ldI_of (hpB H 0 rfl rfl) (ldS_of (hpB H 0 rfl rfl) ?_))
  refine check_ok (H.rdO hr1) hw1 hl1 fun b5 h hb5 e => ?_
  have H := H.ext e
  clear e
  refine ⟨_, rfl, ?_⟩
  refine bcase_not (fun h1 => bad _ (fun hh => by rw [hb5.2 hh.2.2.2.2] at h1; cases h1) H) fun h1 => ?_
  have p5 := hb5.1 h1
  have hP : RegP x y op t w b ws := ⟨p1, p2, p3, p4, p5⟩
  obtain ⟨c1', c2', c3', c4', c5'⟩ := reg_b (sk := sk) hP
  refine ldI_of (hpB H 0 rfl rfl) (ldI_of (hpB H 0 rfl rfl) (ldS_of (hpB H 0 rfl rfl) (ldI_of (hpA H 0 rfl rfl) (ldB_of (hpA H 0 rfl rfl) ?_))))
  refine gEnc_ok (H.rdO hr1) hw1 hl1 fun e ds D qo co h' henc hsl H' => ?_
  replace H := H.join H' hsl.w
  clear H'
  refine ⟨_, _, _, _, rfl, ?_⟩
  obtain rfl := henc.ok p4 p5
  have hdl := henc.len2
  refine bcase_false (by rfl) ?_
  refine ldI_of (hpA H 0 rfl rfl) (ldI_of (hpA H 0 rfl rfl) ?_)
  refine bindI_of ((8 * op)) (by exact i64_in _ (by omega) (by omega)) ?_
  refine bindI_of ((t + 8 * op)) (by exact i64_in _ (by omega) (by omega)) ?_
  refine ⟨fun vs h2 => vs = [.int .i64 (howR op t sk)] ∧ h2 = h', ?_, ?_⟩
  · refine ldB_of (hpA H 0 rfl rfl) ?_
    refine bcase_of (fun h1 => ?_) fun h1 => ?_
    · refine bindI_of ((t + 8 * op + 4)) (by exact i64_in _ (by omega) (by omega)) ?_
      refine ⟨?_, rfl⟩
      unfold howR
      rw [if_pos h1]
    · refine ⟨?_, rfl⟩
      unfold howR
      rw [if_neg (by rw [h1]; decide), Int.add_zero]
  rintro h2 u hw ⟨hh, rfl⟩
  injection hh with hh _
  injection hh with _ hh
  subst hh
  refine ldI_of (hpA H 0 rfl rfl) (ldI_of (hpA H 0 rfl rfl) (ldI_of (hpB H 0 rfl rfl) (ldI_of (hpB H 0 rfl rfl) ?_)))
  obtain ⟨hw, hhw⟩ : ∃ hw, hw = howR op t sk := ⟨_, rfl⟩
  rw [← hhw] at c5' ⊢
  refine bindI_of ((-hw)) (by exact i64_at _ _ (by omega) (by omega) (by omega)) ?_
  refine bindI_of ((-hw - 1)) (by exact i64_in _ (by omega) (by omega)) ?_
  refine newC_hp H fun r56 h H => ?_
  have hr56 : rdO h (some ⟨r56, 0, none⟩) (([x, y, w, b, -hw - 1] : List Int).length * 1) (ints64 [x, y, w, b, -hw - 1]) := Hp.rdO_mem (rest := []) H (List.mem_append_right _ (List.mem_singleton.2 rfl)) rfl
  refine written_ok (l := [x, y, w, b, -hw - 1]) hr56 (by show 5 ≤ 10; omega) (fun v hv => by
    have hv : v = x ∨ v = y ∨ v = w ∨ v = b ∨ v = -hw - 1 := by simpa using hv
    rcases hv with rfl | rfl | rfl | rfl | rfl <;> omega) fun D2 q2 c2 h3 hs2 H' => ?_
  replace H := H.join H' hs2.w
  clear H'
  refine ⟨_, _, _, rfl, ?_⟩
  have hwl := wrt_len [x, y, w, b, -hw - 1]
  have hw5 : ([x, y, w, b, -hw - 1] : List Int).length = 5 := rfl
  have H : Hp hB [] h3 ((([⟨r9, true, T_api_Region, [.int .i64 x, .int .i64 y, .int .i64 op, .int .i64 t, .bool sk, .int .i64 w, .int .i64 b, .slice q1 ws.length c1]⟩] ++ D) ++ [⟨r56, true, T_int, [.int .i64 x, .int .i64 y, .int .i64 w, .int .i64 b, .int .i64 (-hw - 1)]⟩]) ++ (D2 ++ [])) := H.as (by simp only [List.append_nil, List.nil_append, List.append_assoc, List.cons_append])
  refine Slot.appN (m := ds.length) (new := u8s ds) hs2 H rfl (by decide) (Slot.rdO' hsl H fun e he => List.mem_append_left _ (List.mem_append_left _ (List.mem_append_right _ he))) (by rw [u8s_length, Nat.mul_one]) (u8s_cells _) (by omega) fun D3 q3 c3 h4 hs3 H => ?_
  have el : (wrt [x, y, w, b, -hw - 1]).length + ds.length = (wrt [x, y, w, b, -hw - 1] ++ ds).length := (List.length_append).symm
  have eu : u8s (wrt [x, y, w, b, -hw - 1]) ++ u8s ds = u8s (wrt [x, y, w, b, -hw - 1] ++ ds) := by simp [u8s]
  rw [el, eu] at hs3
  rw [el]
  exact hk 0 _ D3 q3 c3 h4 (.inr ⟨hP, rfl, ds, henc, by rw [hhw]⟩) hs3 (by have := Hp.suf H; rw [List.append_nil] at this; exact this)
theorem mayRegion_ok (hr1 : rdO hB q1 (ws.length * 1) (u64s ws)) (hw1 : W64 ws) (hl1 : ws.length < 140737488351300) (hk : ∀ (bb : Bool) h', (bb = true ↔ RegP x y op t w b ws) → hext hB h' → K (.bool bb) h') :
    CP F_burinref15_MayRegion #[.agg #[.int .i64 x, .int .i64 y, .int .i64 op, .int .i64 t, .bool sk, .int .i64 w, .int .i64 b, .slice q1 ws.length c1]] hB K Kp := by
  refine call_burinref15_MayRegion ?_
  unfold burinref15_MayRegion
  have H := Hp.nil hB []
  refine newC_hp H fun r9 h H => ?_
  have bad : ∀ {h'}, ¬ RegP x y op t w b ws → hext hB h' → K (.bool false) h' := fun hn e => hk false _ ⟨fun hh => (by cases hh), fun hh => absurd hh hn⟩ e
  refine ldI_of (hpA H 0 rfl rfl) ?_
  refine bcase_dec (fun h1 => ?_) fun h1 => bad (fun hh => by have := hh.1; omega) H.hext
  refine ldI_of (hpA H 0 rfl rfl) ?_
  refine bcase_dec (fun h2 => ?_) fun h2 => bad (fun hh => by have := hh.2.1; omega) H.hext
  refine ldI_of (hpA H 0 rfl rfl) ?_
  refine bcase_dec (fun h3 => ?_) fun h3 => bad (fun hh => by have := hh.1; omega) H.hext
  refine ldI_of (hpA H 0 rfl rfl) ?_
  refine bcase_dec (fun h4 => ?_) fun h4 => bad (fun hh => by have := hh.2.1; omega) H.hext
  refine ldI_of (hpA H 0 rfl rfl) ?_
  refine mayOp_ok fun b3 hb3 => ?_
  refine ⟨_, rfl, ?_⟩
  refine bcase_of (fun h5 => ?_) fun h5 => bad (fun hh => by rw [hb3.2 hh.2.2.1] at h5; cases h5) H.hext
  refine ldI_of (hpA H 0 rfl rfl) ?_
  refine may6_ok fun b4 hb4 => ?_
  refine ⟨_, rfl, ?_⟩
  refine bcase_of (fun h6 => ?_) fun h6 => bad (fun hh => by rw [hb4.2 hh.2.2.2.1] at h6; cases h6) H.hext
  refine ldI_of (hpB H 0 rfl rfl) (ldI_of (hpB H 0 rfl rfl) (ldS_of (hpB H 0 rfl rfl) ?_))
  refine may_ok (H.rdO hr1) hw1 hl1 fun b5 h hb5 e => ?_
  refine ⟨_, rfl, ?_⟩
  exact hk b5 h ⟨fun hh => ⟨⟨by omega, by omega⟩, ⟨by omega, by omega⟩, hb3.1 h5, hb4.1 h6, hb5.1 hh⟩, fun hh => hb5.2 hh.2.2.2.2⟩ (H.hext.trans e)
set_option maxRecDepth 100000 in
set_option maxHeartbeats 4000000 in
theorem rencRegion_ok (hr1 : rdO hB q1 (ws.length * 1) (u64s ws)) (hw1 : W64 ws) (hl1 : ws.length < 140737488351300) (hk : ∀ e bs D qo co h', EncRg x y op t sk w b ws e bs → Slot T_uint8 1 D qo bs.length co (u8s bs) → Hp hB [] h' D → K (.tuple #[.slice qo bs.length co, .int .i64 e]) h') :
    CP F_burinref15_EncodeRegion #[.agg #[.int .i64 x, .int .i64 y, .int .i64 op, .int .i64 t, .bool sk, .int .i64 w, .int .i64 b, .slice q1 ws.length c1]] hB K Kp := by
  refine call_burinref15_EncodeRegion ?_
  unfold burinref15_EncodeRegion
  have H := Hp.nil hB []
  refine newC_hp H fun r9 h H => ?_
  obtain ⟨R, hR⟩ : ∃ R : Ent, R = ⟨r9, true, T_api_Region, [.int .i64 x, .int .i64 y, .int .i64 op, .int .i64 t, .bool sk, .int .i64 w, .int .i64 b, .slice q1 ws.length c1]⟩ := ⟨_, rfl⟩
  refine ldI_of (hpA H 0 rfl rfl) (ldI_of (hpA H 0 rfl rfl) (ldI_of (hpA H 0 rfl rfl) (ldI_of (hpA H 0 rfl rfl) (ldB_of (hpA H 0 rfl rfl) (ldI_of (hpA H 0 rfl rfl) (ldI_of (hpA H 0 rfl rfl) (ldS_of (hpA H 0 rfl rfl) ?_)))))))
  refine mayRegion_ok (H.rdO hr1) hw1 hl1 fun bb h hbb e => ?_
  have H := H.ext e
  clear e
  refine ⟨_, rfl, ?_⟩
  refine bcase_not (fun h1 => ?_) fun h1 => ?_
  · exact hk 150 [] [] none 0 h (.inl ⟨(fun hh => by rw [hbb.2 hh] at h1; cases h1), rfl, rfl⟩) (Slot.nil _ _) (H.take 0)
  have hP := hbb.1 h1
  obtain ⟨b1, b2, b3, b4, b5⟩ := reg_b (sk := sk) hP
  refine ldI_of (hpA H 0 rfl rfl) ?_
  refine bindI_of (((x.toNat : Nat) : Int)) (by exact u64_at _ _ (by omega) (by omega) (by omega)) ?_
  refine ldI_of (hpA H 0 rfl rfl) ?_
  refine bindI_of (((y.toNat : Nat) : Int)) (by exact u64_at _ _ (by omega) (by omega) (by omega)) ?_
  have l1 := grp_len x.toNat
  have l2 := grp_len y.toNat
  have l3 := grp_len w.toNat
  have l4 := grp_len b.toNat
  refine groups_ok (by omega) fun D1 p1 c1' h1' hs1 H' => ?_
  have e1 := H'.hext
  have H : Hp hB [] h1' ([R] ++ D1) := (H.join H' hs1.w).as (by rw [hR]; rfl)
  clear H'
  refine ⟨_, _, _, rfl, e1, ?_⟩
  refine groups_ok (by omega) fun D2 p2 c2 h2 hs2 H' => ?_
  have H : Hp hB [] h2 ([R] ++ (D1 ++ D2)) := (H.join H' hs2.w).as (by simp only [List.append_assoc])
  clear H' e1
  refine ⟨_, _, _, rfl, ?_⟩
  refine Slot.app (m := (grp y.toNat).length) (new := u8s (grp y.toNat)) hs1 H rfl (Slot.rdO' hs2 H fun e he => List.mem_append_right _ (List.mem_append_right _ he)) (by rw [u8s_length, Nat.mul_one]) (u8s_cells _) l2.1 (by omega) fun D3 p3 c3 h3 hs3 H => ?_
  have H : Hp hB [] h3 ([R] ++ D3) := Hp.pre (Y := D2) (H.as (by simp only [List.append_assoc]))
  rw [hR] at H
  refine ldI_of (hpB H 0 rfl rfl) ?_
  refine bindI_of (((w.toNat : Nat) : Int)) (by exact u64_at _ _ (by omega) (by omega) (by omega)) ?_
  refine groups_ok (by omega) fun D4 p4 c4 h4 hs4 H' => ?_
  have H : Hp hB [] h4 ([R] ++ (D3 ++ D4)) := (H.join H' hs4.w).as (by rw [hR]; simp only [List.append_assoc])
  clear H'
  refine ⟨_, _, _, rfl, ?_⟩
  refine Slot.app (m := (grp w.toNat).length) (new := u8s (grp w.toNat)) hs3 H rfl (Slot.rdO' hs4 H fun e he => List.mem_append_right _ (List.mem_append_right _ he)) (by rw [u8s_length, Nat.mul_one]) (u8s_cells _) l3.1 (by omega) fun D5 p5 c5 h5 hs5 H => ?_
  have H : Hp hB [] h5 ([R] ++ D5) := Hp.pre (Y := D4) (H.as (by simp only [List.append_assoc]))
  rw [hR] at H
  refine ldI_of (hpB H 0 rfl rfl) ?_
  refine bindI_of (((b.toNat : Nat) : Int)) (by exact u64_at _ _ (by omega) (by omega) (by omega)) ?_
  refine groups_ok (by omega) fun D6 p6 c6 h6 hs6 H' => ?_
  have H : Hp hB [] h6 ([R] ++ (D5 ++ D6)) := (H.join H' hs6.w).as (by rw [hR]; simp only [List.append_assoc])
  clear H'
  refine ⟨_, _, _, rfl, ?_⟩
  refine Slot.app (m := (grp b.toNat).length) (new := u8s (grp b.toNat)) hs5 H rfl (Slot.rdO' hs6 H fun e he => List.mem_append_right _ (List.mem_append_right _ he)) (by rw [u8s_length, Nat.mul_one]) (u8s_cells _) l4.1 (by omega) fun D7 p7 c7 h7 hs7 H => ?_
  have H : Hp hB [] h7 ([R] ++ D7) := Hp.pre (Y := D6) (H.as (by simp only [List.append_assoc]))
  rw [hR] at H
  refine ldI_of (hpA H 0 rfl rfl) (ldI_of (hpA H 0 rfl rfl) ?_)
  have p3' := hP.2.2.1
  have p4' := hP.2.2.2.1
  refine bindI_of ((8 * op)) (by exact i64_in _ (by omega) (by omega)) ?_
  refine bindI_of ((t + 8 * op)) (by exact i64_in _ (by omega) (by omega)) ?_
  refine ⟨fun vs h2 => vs = [.int .i64 (howR op t sk)] ∧ h2 = h7, ?_, ?_⟩
  · refine ldB_of (hpA H 0 rfl rfl) ?_
    refine bcase_of (fun h1 => ?_) fun h1 => ?_
    · refine bindI_of ((t + 8 * op + 4)) (by exact i64_in _ (by omega) (by omega)) ?_
      refine ⟨?_, rfl⟩
      unfold howR
      rw [if_pos h1]
    · refine ⟨?_, rfl⟩
      unfold howR
      rw [if_neg (by rw [h1]; decide), Int.add_zero]
  rintro hx u hw ⟨hh, rfl⟩
  injection hh with hh _
  injection hh with _ hh
  subst hh
  have e8 : wrt [x, y, w, b, -(howR op t sk) - 1] = grp x.toNat ++ grp y.toNat ++ grp w.toNat ++ grp b.toNat ++ [(howR op t sk).toNat] := by
    have ex : wrB x = grp x.toNat := by unfold wrB; rw [if_neg (by omega)]
    have ey : wrB y = grp y.toNat := by unfold wrB; rw [if_neg (by omega)]
    have ew : wrB w = grp w.toNat := by unfold wrB; rw [if_neg (by omega)]
    have eb : wrB b = grp b.toNat := by unfold wrB; rw [if_neg (by omega)]
    have eh : wrB (-(howR op t sk) - 1) = [(howR op t sk).toNat] := by unfold wrB; rw [if_pos (by omega), show -(-(howR op t sk) - 1) - 1 = howR op t sk by omega]
    unfold wrt
    simp only [List.flatMap_cons, List.flatMap_nil, ex, ey, ew, eb, eh, List.append_assoc, List.append_nil]
  obtain ⟨hw, hhw⟩ : ∃ hw, hw = howR op t sk := ⟨_, rfl⟩
  rw [← hhw] at b5 e8 ⊢
  refine bindI_of (((hw.toNat : Nat) : Int)) (by exact (wr8 _ (by omega) (by omega)).trans (by omega)) ?_
  refine newC_hp H fun r59 h H => ?_
  have H : Hp hB [] h ([R] ++ (D7 ++ [⟨r59, true, T_uint8, [.int .u8 (hw.toNat : Nat)]⟩])) := H.as (by rw [hR]; simp only [List.append_assoc])
  refine Slot.app (m := 1) (new := [.int .u8 (hw.toNat : Nat)]) hs7 H rfl (Hp.rdO_mem (rest := []) (cs := [.int .u8 (hw.toNat : Nat)]) H (List.mem_append_right _ (List.mem_append_right _ (List.mem_singleton.2 rfl))) rfl) rfl (fun v hv => by rw [List.mem_singleton.1 hv]; rfl) (by decide) (by omega) fun D8 p8 c8 h8 hs8 H => ?_
  have H : Hp hB [] h8 ([R] ++ D8) := Hp.pre (Y := [⟨r59, true, T_uint8, [.int .u8 (hw.toNat : Nat)]⟩]) (H.as (by simp only [List.append_assoc]))
  rw [hR] at H
  refine ldI_of (hpB H 0 rfl rfl) (ldI_of (hpB H 0 rfl rfl) (ldS_of (hpB H 0 rfl rfl) (ldI_of (hpA H 0 rfl rfl) (ldB_of (hpA H 0 rfl rfl) ?_))))
  refine rEnc7_ok (H.rdO hr1) hw1 hl1 fun e ds D9 p9 c9 h9 henc hs9 H' => ?_
  have H : Hp hB [] h9 ([R] ++ (D8 ++ D9)) := (H.join H' hs9.w).as (by rw [hR]; simp only [List.append_assoc])
  clear H'
  obtain rfl := henc.ok p4' hP.2.2.2.2
  have hdl := henc.len2
  refine ⟨_, _, _, _, rfl, ?_⟩
  refine Slot.appN (m := ds.length) (new := u8s ds) hs8 H rfl (by decide) (Slot.rdO' hs9 H fun e he => List.mem_append_right _ (List.mem_append_right _ he)) (by rw [u8s_length, Nat.mul_one]) (u8s_cells _) (by omega) fun D10 p10 c10 h10 hs10 H => ?_
  have el : (grp x.toNat).length + (grp y.toNat).length + (grp w.toNat).length + (grp b.toNat).length + 1 + ds.length = (wrt [x, y, w, b, -hw - 1] ++ ds).length := by
    rw [e8]
    simp only [List.length_append, List.length_singleton]
  have eu : u8s (grp x.toNat) ++ u8s (grp y.toNat) ++ u8s (grp w.toNat) ++ u8s (grp b.toNat) ++ [.int .u8 (hw.toNat : Nat)] ++ u8s ds = u8s (wrt [x, y, w, b, -hw - 1] ++ ds) := by
    rw [e8]
    simp [u8s]
  rw [el, eu] at hs10
  rw [el]
  exact hk 0 _ D10 p10 c10 h10 (.inr ⟨hP, rfl, ds, henc, by rw [hhw]⟩) hs10 (Hp.pre (Hp.suf H))
end
end Go.Bm

/- PbE: the law PageEncodes, said of memory. -/
set_option linter.unusedVariables false
set_option linter.unusedSimpArgs false
namespace Go.Bm
open Go Go.Den Go.Den.YtfaclehehhgpcaaGreat
-- (nothing of Go.Ar opened)

theorem ptr_atB {q : Option Addr} {a : Addr} {K : Addr → Prop} (h : q = some a) (H : K a) : ptr q K := by subst h; exact H
structure SheetC (h : Heap) (a : Addr) (w g d s : Int) : Prop where
  c0 : hcell h (a.add 0) = some (.int .i64 w)
  c1 : hcell h (a.add 1) = some (.int .i64 g)
  c2 : hcell h (a.add 2) = some (.int .i64 d)
  c3 : hcell h (a.add 3) = some (.int .i64 s)
def SheetsV (h : Heap) (q : Option Addr) (n : Nat) : Prop := ∀ i, i < n → ∃ a w g d s, q = some a ∧ SheetC h (a.add (i * 4)) w g d s
structure RegC (h : Heap) (a : Addr) (x y op t : Int) (sk : Bool) (w b : Int) (ws : List Nat) (q1 : Option Addr) (cc : Nat) : Prop where
  c0 : hcell h (a.add 0) = some (.int .i64 x)
  c1 : hcell h (a.add 1) = some (.int .i64 y)
  c2 : hcell h (a.add 2) = some (.int .i64 op)
  c3 : hcell h (a.add 3) = some (.int .i64 t)
  c4 : hcell h (a.add 4) = some (.bool sk)
  c5 : hcell h (a.add 5) = some (.int .i64 w)
  c6 : hcell h (a.add 6) = some (.int .i64 b)
  c7 : hcell h (a.add 7) = some (.slice q1 ws.length cc)
  r1 : rdO h q1 (ws.length * 1) (u64s ws)
  w1 : W64 ws
  l1 : ws.length < 140737488351300
def RegsV (h : Heap) (q : Option Addr) (n : Nat) : Prop := ∀ i, i < n → ∃ a x y op t sk w b ws q1 c1, q = some a ∧ RegC h (a.add (i * 8)) x y op t sk w b ws q1 c1

set_option maxRecDepth 100000 in
set_option maxHeartbeats 4000000 in
theorem pEncodes_law {hB : Heap} {sq rq fq : Option Addr} {sn sc rn rc fn fc : Nat} (hs : SheetsV hB sq sn) (hr : RegsV hB rq rn) {K : Value → Heap → Prop} {Kp : List PanicEntry → Heap → Prop} (hk : ∀ h', hext hB h' → K (.bool true) h') :
    CP F_burinlaw15_PageEncodes #[.agg #[.slice sq sn sc, .slice rq rn rc, .slice fq fn fc]] hB K Kp := by
  refine call_burinlaw15_PageEncodes ?_
  unfold burinlaw15_PageEncodes
  have fr : ∀ {h : Heap} {L : List Ent} {c : Addr} {v : Value}, Hp hB [] h L → hcell hB c = some v → hcell h c = some v := fun H hc => H.fr.cell (by simp) hc
  have H := Hp.nil hB []
  refine newC_hp H fun r4 h H => ?_
  have H : Hp hB [] h [⟨r4, true, T_burinlaw15_Forms, [.slice sq sn sc, .slice rq rn rc, .slice fq fn fc]⟩] := H
  refine ⟨fun _ h' => Hp hB [] h' [⟨r4, true, T_burinlaw15_Forms, [.slice sq sn sc, .slice rq rn rc, .slice fq fn fc]⟩], ?_, ?_⟩
  · refine ⟨fun m vs h' => ∃ i : Nat, i + m = 20 ∧ vs = [.int .i64 (i : Nat)] ∧ Hp hB [] h' [⟨r4, true, T_burinlaw15_Forms, [.slice sq sn sc, .slice rq rn rc, .slice fq fn fc]⟩], ⟨20, 0, rfl, rfl, H⟩, ?_⟩
    clear H
    rintro m h u xi ⟨i, him, hxx, H⟩
    injection hxx with hxx
    injection hxx with _ hxx
    subst xi
    refine ldS_of (hpA H 0 rfl rfl) ?_
    refine bcase_dec (fun h1 => ?_) fun h1 => H
    refine bcase_dec (fun h2 => ?_) fun h2 => H
    obtain ⟨a, w, g, d, s, hsq, hC⟩ := hs i (by omega)
    have hnd : 0 ≤ ((i : Nat) : Int) ∧ ((i : Nat) : Int) < ((sn : Nat) : Int) := by omega
    refine ldS_of (hpA H 0 rfl rfl) ?_
    refine needs_of hnd (ptr_atB hsq ?_)
    rw [Int.toNat_natCast]
    refine ldI_of (fr H hC.c0) (ldI_of (fr H hC.c1) (ldI_of (fr H hC.c2) (ldI_of (fr H hC.c3) ?_)))
    refine encSheet_ok fun e bs D qo co h' henc hsl H' => ?_
    replace H := H.join H' hsl.w
    clear H'
    refine ⟨_, _, _, _, rfl, ?_⟩
    refine ldS_of (hpA H 0 rfl rfl) ?_
    refine needs_of hnd (ptr_atB hsq ?_)
    refine ldI_of (fr H hC.c0) (ldI_of (fr H hC.c1) (ldI_of (fr H hC.c2) (ldI_of (fr H hC.c3) ?_)))
    refine rencSheet_ok fun e' bs' D2 qo2 co2 h' henc2 hsl2 H' => ?_
    replace H := H.join H' hsl2.w
    clear H'
    obtain ⟨rfl, rfl⟩ := henc.det henc2
    refine ⟨_, _, _, _, rfl, ?_⟩
    refine bcase_false (by simp) ?_
    have hlen := henc.len
    refine Go.Ar.eq_ok (xs := bs) (ys := bs) (Slot.rdO' hsl (Hp.pre (Y := D2) H) fun e he => List.mem_append_right _ he) (Slot.rdO' hsl2 H fun e he => List.mem_append_right _ he) (by omega) ?_
    refine ⟨_, rfl, ?_⟩
    refine bcase_false (by simp) ?_
    refine bindI_of (((i + 1 : Nat) : Int)) (by exact i64_at _ _ (by omega) (by omega) (by omega)) ?_
    exact ⟨m - 1, by omega, i + 1, by omega, rfl, H.take 1⟩
  clear H
  rintro h u H
  refine ⟨fun m vs h' => ∃ i : Nat, i + m = 4 ∧ vs = [.int .i64 (i : Nat)] ∧ Hp hB [] h' [⟨r4, true, T_burinlaw15_Forms, [.slice sq sn sc, .slice rq rn rc, .slice fq fn fc]⟩], ⟨4, 0, rfl, rfl, H⟩, ?_⟩
  clear H
  rintro m h u xi ⟨i, him, hxx, H⟩
  injection hxx with hxx
  injection hxx with _ hxx
  subst xi
  refine ldS_of (hpA H 0 rfl rfl) ?_
  refine bcase_dec (fun h1 => ?_) fun h1 => wakes15_ok fun h' e => ⟨_, rfl, hk _ (H.hext.trans e)⟩
  refine bcase_dec (fun h2 => ?_) fun h2 => wakes15_ok fun h' e => ⟨_, rfl, hk _ (H.hext.trans e)⟩
  obtain ⟨a, x, y, op, t, sk, w, b, ws, q1, c1, hrq, hC⟩ := hr i (by omega)
  have hnd : 0 ≤ ((i : Nat) : Int) ∧ ((i : Nat) : Int) < ((rn : Nat) : Int) := by omega
  refine ldS_of (hpA H 0 rfl rfl) ?_
  refine needs_of hnd (ptr_atB hrq ?_)
  rw [Int.toNat_natCast]
  refine ldI_of (fr H hC.c0) (ldI_of (fr H hC.c1) (ldI_of (fr H hC.c2) (ldI_of (fr H hC.c3) (ldB_of (fr H hC.c4) (ldI_of (fr H hC.c5) (ldI_of (fr H hC.c6) (ldS_of (fr H hC.c7) ?_)))))))
  refine newC_hp H fun r57 h H => ?_
  repeat first | with_reducible refine stA H 1 (by with_unfolding_all exact rfl) (by with_unfolding_all exact rfl) (by with_unfolding_all exact rfl) fun h H => ?_ | with_reducible refine st0 H 1 (by with_unfolding_all exact rfl) (by with_unfolding_all exact rfl) (by with_unfolding_all exact rfl) fun h H => ?_ | with_reducible refine stB H 1 (by with_unfolding_all exact rfl) (by with_unfolding_all exact rfl) (by with_unfolding_all exact rfl) fun h H => ?_
  obtain ⟨R4, hR4⟩ : ∃ R4 : Ent, R4 = ⟨r4, true, T_burinlaw15_Forms, [.slice sq sn sc, .slice rq rn rc, .slice fq fn fc]⟩ := ⟨_, rfl⟩
  have H : Hp hB [] h [R4, ⟨r57, true, T_api_Region, [.int .i64 x, .int .i64 y, .int .i64 op, .int .i64 t, .bool sk, .int .i64 w, .int .i64 b, .slice q1 ws.length c1]⟩] := H.as (by rw [hR4]; rfl)
  have next : ∀ {h' : Heap} {Y : List Ent}, Hp hB [] h' (R4 :: Y) → ∃ m', m' < m ∧ ∃ i' : Nat, i' + m' = 4 ∧ [Value.int .i64 ((i + 1 : Nat) : Int)] = [.int .i64 (i' : Nat)] ∧ Hp hB [] h' [⟨r4, true, T_burinlaw15_Forms, [.slice sq sn sc, .slice rq rn rc, .slice fq fn fc]⟩] := fun {h' Y} H => ⟨m - 1, by omega, i + 1, by omega, rfl, by have := H.take 1; rw [hR4] at this; exact this⟩
  refine ⟨fun _ h' => ws.length ≤ 375 ∧ Hp hB [] h' [R4, ⟨r57, true, T_api_Region, [.int .i64 x, .int .i64 y, .int .i64 op, .int .i64 t, .bool sk, .int .i64 w, .int .i64 b, .slice q1 ws.length c1]⟩], ?_, ?_⟩
  · refine ldS_of (hpB H 1 rfl rfl) ?_
    refine bcase_dec (fun h3 => ?_) fun h3 => ?_
    · refine bindI_of (((i + 1 : Nat) : Int)) (by exact i64_at _ _ (by omega) (by omega) (by omega)) ?_
      exact next H
    have h375 : ws.length ≤ 375 := by omega
    refine ldI_of (hpB H 1 rfl rfl) (ldI_of (hpB H 1 rfl rfl) (ldS_of (hpB H 1 rfl rfl) ?_))
    refine may_ok (H.rdO hC.r1) hC.w1 hC.l1 fun bb h hbb e => ?_
    have H := H.ext e
    refine ⟨_, rfl, ?_⟩
    refine bcase_of (fun h4 => ?_) fun h4 => ⟨h375, H⟩
    refine ldI_of (hpB H 1 rfl rfl) (ldI_of (hpB H 1 rfl rfl) ?_)
    refine bindI_gen fun z hz => ?_
    refine bcase_dec (fun h5 => ?_) fun h5 => ⟨h375, H⟩
    refine bindI_of (((i + 1 : Nat) : Int)) (by exact i64_at _ _ (by omega) (by omega) (by omega)) ?_
    exact next H
  clear H
  rintro h u ⟨h375, H⟩
  refine ldI_of (hpA H 1 rfl rfl) (ldI_of (hpA H 1 rfl rfl) (ldI_of (hpA H 1 rfl rfl) (ldI_of (hpA H 1 rfl rfl) (ldB_of (hpA H 1 rfl rfl) (ldI_of (hpA H 1 rfl rfl) (ldI_of (hpA H 1 rfl rfl) (ldS_of (hpA H 1 rfl rfl) ?_)))))))
  refine newC_hp H fun r90 h H => ?_
  repeat first | with_reducible refine stA H 2 (by with_unfolding_all exact rfl) (by with_unfolding_all exact rfl) (by with_unfolding_all exact rfl) fun h H => ?_ | with_reducible refine st0 H 2 (by with_unfolding_all exact rfl) (by with_unfolding_all exact rfl) (by with_unfolding_all exact rfl) fun h H => ?_ | with_reducible refine stB H 2 (by with_unfolding_all exact rfl) (by with_unfolding_all exact rfl) (by with_unfolding_all exact rfl) fun h H => ?_
  refine ldI_of (hpB H 1 rfl rfl) (ldI_of (hpB H 1 rfl rfl) (ldS_of (hpB H 1 rfl rfl) ?_))
  refine lendB_ok (H.rdO hC.r1) (by omega) fun o1 l1 kk1 h6 hk1 H' => ?_
  replace H := H.join H' rfl
  clear H'
  refine ⟨_, _, _, _, _, rfl, ?_⟩
  refine stB H 2 rfl rfl rfl fun h H => ?_
  refine stB H 2 rfl rfl rfl fun h H => ?_
  refine stB H 2 rfl rfl rfl fun h H => ?_
  have H : Hp hB [] h [R4, ⟨r57, true, T_api_Region, [.int .i64 x, .int .i64 y, .int .i64 op, .int .i64 t, .bool sk, .int .i64 w, .int .i64 b, .slice q1 ws.length c1]⟩, ⟨r90, true, T_api_Region, [.int .i64 x, .int .i64 y, .int .i64 op, .int .i64 t, .bool sk, .int .i64 w, .int .i64 b, .slice (at0 o1) ws.length kk1]⟩, ⟨o1, true, T_uint64, u64s ws ++ (u64s (List.replicate 7 42405) ++ l1)⟩] := H
  refine ldI_of (hpA H 2 rfl rfl) (ldI_of (hpA H 2 rfl rfl) (ldI_of (hpA H 2 rfl rfl) (ldI_of (hpA H 2 rfl rfl) (ldB_of (hpA H 2 rfl rfl) (ldI_of (hpA H 2 rfl rfl) (ldI_of (hpA H 2 rfl rfl) (ldS_of (hpA H 2 rfl rfl) ?_)))))))
  refine encRegion_ok (row_rdO H 3 rfl) hC.w1 hC.l1 fun e bs D qo co h' henc hsl H' => ?_
  replace H := H.join H' hsl.w
  clear H'
  refine ⟨_, _, _, _, rfl, ?_⟩
  refine ldI_of (hpA H 1 rfl rfl) (ldI_of (hpA H 1 rfl rfl) (ldI_of (hpA H 1 rfl rfl) (ldI_of (hpA H 1 rfl rfl) (ldB_of (hpA H 1 rfl rfl) (ldI_of (hpA H 1 rfl rfl) (ldI_of (hpA H 1 rfl rfl) (ldS_of (hpA H 1 rfl rfl) ?_)))))))
  refine rencRegion_ok (H.rdO hC.r1) hC.w1 hC.l1 fun e' bs' D2 qo2 co2 h' henc2 hsl2 H' => ?_
  replace H := H.join H' hsl2.w
  clear H'
  obtain ⟨rfl, rfl⟩ := henc.det henc2
  have hlen := henc.len
  refine ⟨_, _, _, _, rfl, ?_⟩
  refine ldI_of (hpB H 2 rfl rfl) (ldI_of (hpB H 2 rfl rfl) (ldS_of (hpB H 2 rfl rfl) (ldI_of (hpB H 1 rfl rfl) (ldI_of (hpB H 1 rfl rfl) (ldS_of (hpB H 1 rfl rfl) ?_)))))
  refine backB_ok (H.give [3] (by simp) rfl) (H.rdO hC.r1) (by omega) hk1 fun cs1 h' H' => ?_
  replace H := H.put [3] (by simp) rfl rfl H' rfl rfl
  clear H'
  refine ⟨_, rfl, ?_⟩
  refine bcase_false (by rfl) ?_
  refine bcase_false (by simp) ?_
  have H : Hp hB [] h' (([R4, ⟨r57, true, T_api_Region, [.int .i64 x, .int .i64 y, .int .i64 op, .int .i64 t, .bool sk, .int .i64 w, .int .i64 b, .slice q1 ws.length c1]⟩, ⟨r90, true, T_api_Region, [.int .i64 x, .int .i64 y, .int .i64 op, .int .i64 t, .bool sk, .int .i64 w, .int .i64 b, .slice (at0 o1) ws.length kk1]⟩, ⟨o1, true, T_uint64, cs1⟩] ++ D) ++ D2) := H
  refine Go.Ar.eq_ok (xs := bs) (ys := bs) (Slot.rdO' hsl (Hp.pre (Y := D2) H) fun e he => List.mem_append_right _ he) (Slot.rdO' hsl2 H fun e he => List.mem_append_right _ he) hlen ?_
  refine ⟨_, rfl, ?_⟩
  refine bcase_false (by simp) ?_
  refine bindI_of (((i + 1 : Nat) : Int)) (by exact i64_at _ _ (by omega) (by omega) (by omega)) ?_
  exact next H

set_option maxRecDepth 100000 in
/-- A region that comes in. -/
theorem wd_region {h : Heap} {cs : List Value} (H : WDx TP h T_api_Region cs) : ∃ x y op t sk w b q1 c1 ws, cs = [.int .i64 x, .int .i64 y, .int .i64 op, .int .i64 t, .bool sk, .int .i64 w, .int .i64 b, .slice q1 (List.length ws) c1] ∧ rdO h q1 (ws.length * 1) (u64s ws) ∧ W64 ws ∧ ws.length < 140737488351300 := by
  obtain ⟨hl, hf⟩ := wd_struct Go.Proofs.Tryz.underlying38 H
  have k : TP.cellsOf T_api_Region = 8 := by kernel_rfl
  rw [k] at hl
  obtain ⟨v0, v1, v2, v3, v4, v5, v6, v7, rfl⟩ : ∃ a b c d e f g i, cs = [a, b, c, d, e, f, g, i] := by
    match cs, hl with
    | [a, b, c, d, e, f, g, i], _ => exact ⟨a, b, c, d, e, f, g, i, rfl⟩
  have kb : TP.cellsOf T_api_Bitmap = 3 := by kernel_rfl
  have kB : TP.cellsOf T_bool = 1 := by kernel_rfl
  obtain ⟨x, e0, _⟩ := wd_int Go.Proofs.Tryz.underlying3 (one_of k_int (hf 0 _ rfl) (v := v0) rfl)
  obtain ⟨y, e1, _⟩ := wd_int Go.Proofs.Tryz.underlying3 (one_of k_int (hf 1 _ rfl) (v := v1) rfl)
  obtain ⟨op, e2, _⟩ := wd_int Go.Proofs.Tryz.underlying3 (one_of k_int (hf 2 _ rfl) (v := v2) rfl)
  obtain ⟨t, e3, _⟩ := wd_int Go.Proofs.Tryz.underlying3 (one_of k_int (hf 3 _ rfl) (v := v3) rfl)
  obtain ⟨sk, e4⟩ := wd_bool Go.Proofs.Tryz.underlying4 (one_of kB (hf 4 _ rfl) (v := v4) rfl)
  have f5 : WDx TP h T_api_Bitmap (([v0, v1, v2, v3, v4, v5, v6, v7].drop 5).take (TP.cellsOf T_api_Bitmap)) := hf 5 _ rfl
  rw [kb] at f5
  obtain ⟨w, b, q1, cap1, ws, e5, _, _, g1, g2, g3⟩ := wd_bitmap f5
  simp only [List.drop_succ_cons, List.drop_zero, List.take_succ_cons, List.take_zero, List.cons.injEq, and_true] at e0 e1 e2 e3 e4 e5
  obtain ⟨e50, e51, e52⟩ := e5
  subst e0 e1 e2 e3 e4 e50 e51 e52
  exact ⟨x, y, op, t, sk, w, b, q1, cap1, ws, rfl, g2, g3, g1⟩
theorem sheets_of {h : Heap} {cs : List Value} (H : WDx TP h T_s_api_Sheet cs) : ∃ q len cap, cs = [.slice q len cap] ∧ SheetsV h q len := by
  obtain ⟨q, len, cap, rfl, _, _, _, h4⟩ := wd_slice Go.Proofs.Tryz.underlying22 H
  refine ⟨q, len, cap, rfl, fun i hi => ?_⟩
  obtain ⟨a, cs', ha, hr, hd⟩ := h4 i hi
  have k : TP.cellsOf T_api_Sheet = 4 := by kernel_rfl
  rw [k] at hr
  obtain ⟨w, g, d, s, rfl, _⟩ := wd_sheet hd
  have c := fun j v hj => hr.2 j v hj
  exact ⟨a, w, g, d, s, ha, ⟨c 0 _ rfl, c 1 _ rfl, c 2 _ rfl, c 3 _ rfl⟩⟩
theorem regs_of {h : Heap} {cs : List Value} (H : WDx TP h T_s_api_Region cs) : ∃ q len cap, cs = [.slice q len cap] ∧ RegsV h q len := by
  obtain ⟨q, len, cap, rfl, _, _, _, h4⟩ := wd_slice Go.Proofs.Tryz.underlying23 H
  refine ⟨q, len, cap, rfl, fun i hi => ?_⟩
  obtain ⟨a, cs', ha, hr, hd⟩ := h4 i hi
  have k : TP.cellsOf T_api_Region = 8 := by kernel_rfl
  rw [k] at hr
  obtain ⟨x, y, op, t, sk, w, b, q1, c1, ws, rfl, g1, g2, g3⟩ := wd_region hd
  have c := fun j v hj => hr.2 j v hj
  exact ⟨a, x, y, op, t, sk, w, b, ws, q1, c1, ha, ⟨c 0 _ rfl, c 1 _ rfl, c 2 _ rfl, c 3 _ rfl, c 4 _ rfl, c 5 _ rfl, c 6 _ rfl, c 7 _ rfl, g1, g2, g3⟩⟩
theorem pEncodes_arg {h : Heap} {cs : Array Value} (hsz : cs.size = TP.cellsOf T_burinlaw15_Forms) (hw : WDx TP h T_burinlaw15_Forms cs.toList) {K : Value → Heap → Prop} {Kp : List PanicEntry → Heap → Prop} (hk : ∀ h', hext h h' → K (.bool true) h') :
    CP F_burinlaw15_PageEncodes #[.agg cs] h K Kp := by
  obtain ⟨hl, hf⟩ := wd_struct Go.Proofs.Tryz.underlying26 hw
  have k : TP.cellsOf T_burinlaw15_Forms = 3 := by kernel_rfl
  rw [k] at hl
  obtain ⟨v0, v1, v2, hcs⟩ := list3 hl
  rw [hcs] at hf
  have k0 : TP.cellsOf T_s_api_Sheet = 1 := by kernel_rfl
  have k1 : TP.cellsOf T_s_api_Region = 1 := by kernel_rfl
  have k2 : TP.cellsOf T_s_s_uint8 = 1 := by kernel_rfl
  obtain ⟨q0, n0, c0, e0, g0⟩ := sheets_of (one_of k0 (hf 0 _ rfl) (v := v0) rfl)
  obtain ⟨q1, n1, c1, e1, g1⟩ := regs_of (one_of k1 (hf 1 _ rfl) (v := v1) rfl)
  obtain ⟨q2, n2, c2, e2, _⟩ := wd_slice Go.Proofs.Tryz.underlying24 (one_of k2 (hf 2 _ rfl) (v := v2) rfl)
  simp only [List.cons.injEq, and_true] at e0 e1 e2
  subst e0 e1 e2
  obtain rfl : cs = #[.slice q0 n0 c0, .slice q1 n1 c1, .slice q2 n2 c2] := by
    apply Array.toList_inj.1
    rw [hcs]
  exact pEncodes_law g0 g1 hk
end Go.Bm

/- ArLink2: what a law's walk hands on. -/
namespace Go.Proofs.YtfaclehehhgpcaaGreat
open Go.ChangeShapes Go.WideShapes Go.ChangeAt Go.RowKit
set_option linter.unusedVariables false

theorem own : ownKnob Tryz.prog.godebug = none := by kernel_rfl
theorem laidOut : laidOutB Tryz.prog = true := by kernel_rfl

/-- What a call that keeps all old rows leaves, as a row's statement asks it. -/
theorem below_of {W W' : World} (hk : Go.Den.keeps W W') (h : Go.Den.hext W.heap W'.heap) : Below W.heap.size W W' :=
  ⟨hk.1, hk.2.1, hk.2.2, h.1, fun k hlt => h.2 k hlt⟩

theorem walk_of {f : FuncId} {args : Array Value} {W : World}
    (h : Calls Tryz.prog f args W fun e w' => Go.Den.keeps W w' ∧ match e with
      | .returned v => v = .bool true ∧ Go.Den.hext W.heap w'.heap
      | .panicked c => False
      | .outgrown => False) : Calls Tryz.prog f args W fun e W' => e = .returned (.bool true) ∧ Below W.heap.size W W' := by
  refine h.mono fun e W' he => ?_
  obtain ⟨hk, he⟩ := he
  cases e with
  | returned v => exact ⟨by rw [he.1], below_of hk he.2⟩
  | panicked c => exact he.elim
  | outgrown => exact he.elim

end Go.Proofs.YtfaclehehhgpcaaGreat

/- PbEncodes: the given statement PageEncodesSaid. -/
namespace Go.Proofs.YtfaclehehhgpcaaGreat
open Go.ChangeShapes Go.WideShapes Go.ChangeAt Go.RowKit
set_option linter.unusedVariables false

theorem pageEncodes_walk (W : World) {cs : Array Value} (hsz : cs.size = Tryz.prog.cellsOf 26) (hw : Go.Den.WDx Tryz.prog W.heap 26 cs.toList) : Calls Tryz.prog 3 #[.agg cs] W fun e W' => e = .returned (.bool true) ∧ Below W.heap.size W W' :=
  walk_of ((Go.Bm.pEncodes_arg (h := W.heap) (K := fun v h' => v = .bool true ∧ Go.Den.hext W.heap h') (Kp := fun _ _ => False) hsz hw fun h' e => ⟨rfl, e⟩).2 W rfl)

set_option maxRecDepth 100000 in
theorem pageEncodes_lifted (os : Os) (started : os.Started) (H : Type) (enc : TypeId × Value → H) :
    ReturnsInHanded {} Tryz.checked os 3 .any (Rows.pageEncodesSpec.pre6 enc Tryz.prog Tryz.f3 Rows.pageEncodesRow.domain false) (Rows.pageEncodesSpec.post enc Tryz.prog Tryz.f3 false true false false) := by
  refine returnsInHanded_of_change_sized (C := Tryz.checked) own started (by kernel_rfl) Tryz.func3
    (ChangeSpec.witness6 (enc := enc) (C := Tryz.checked) false ⟨#[], #[.agg #[.slice none 0 0, .slice none 0 0, .slice none 0 0]], []⟩ 8 (by kernel_rfl) (by kernel_rfl) (by kernel_rfl) (by kernel_rfl)) ?_
  intro W base args ds gs before hval0 hW hcnd hz _
  have hval : ∀ (j : Nat) t v, Tryz.f3.params[j]? = some t → args[j]? = some v → Value.okWide Tryz.prog W .any base t v := hval0
  have hz : ∀ n ∈ DataW.weightsEach Tryz.prog (Tryz.f3.params.toList ++ Rows.pageEncodesSpec.plain.varTypes Tryz.prog) (ds ++ gs), n ≤ reachBytes := fun n hn => by simpa using List.all_eq_true.1 hz n hn
  have hW' := hW
  obtain ⟨p, q, hA0, hV, rfl, hfz, hnd⟩ := hW
  have hA : DataW.TrodAll enc Tryz.prog W 0 (fun _ => true) true Tryz.f3.params.toList args.toList ds p := hA0
  rw [Tryz.params3] at hA hval hz
  obtain ⟨v0, vs0, d0, ds0, p0, q0, hargs, rfl, rfl, h0, r0⟩ := trodAll_cons hA
  obtain ⟨rfl, rfl, rfl⟩ := trodAll_nil r0
  obtain rfl : args = #[v0] := by cases args; simp_all
  obtain ⟨rfl, rfl⟩ := trodVars_none hV
  obtain ⟨cs, rfl, hsz⟩ := okWide_struct Tryz.underlying26 (hval 0 26 v0 rfl rfl)
  have hwd : Go.Den.WDx Tryz.prog W.heap 26 cs.toList := by
    obtain ⟨f, hf⟩ := h0
    exact ⟨f, Go.Den.wd_of hf fun n hn => hz n (DataW.weights_mem_each (j := 0) rfl rfl n hn)⟩
  clear hA0 hval0
  simp only [List.append_nil] at hW'
  refine (pageEncodes_walk W hsz hwd).mono fun e W' ⟨he, hb⟩ => ?_
  subst he
  refine ⟨_, rfl, [d0], [], _, [], p0, [], hW', ?_, ?_, ?_, hb.frame _, fun h => Bool.noConfusion h⟩
  · exact trodAll_cons_mk (shut_bool Go.Proofs.Tryz.underlying4 _) trodAll_mk0
  · exact ⟨p0, [], Below.trod laidOut (by kernel_rfl) (of_decide_eq_true (by kernel_rfl)) h0 hb (fun x hx => by simpa using hW'.lt x hx), rfl, (List.append_nil p0).symm⟩
  · rfl

theorem pageEncodes_over : Rows.pageEncodesRow.holds Tryz.pinned (OpenSpec.ofChange Rows.pageEncodesSpec) :=
  OpenClaim.holds_of_wide 3 Tryz.f3 rfl rfl rfl rfl rfl rfl rfl ⟨rfl, rfl, rfl, rfl, rfl⟩ rfl rfl rfl rfl rfl (by kernel_rfl) Tryz.func3 (by kernel_rfl)
    (of_decide_eq_true (by kernel_rfl)) (by unfold Func.isWrapper; first | (rw [if_pos (by decide +kernel)]; kernel_rfl) | (rw [if_neg (by decide +kernel)]; exact ⟨rfl, rfl⟩))
    (fun os started H enc _ => pageEncodes_lifted os started H enc)

theorem pageEncodes_proved : Rows.PageEncodesSaid := pageEncodes_over

#print axioms pageEncodes_proved
end Go.Proofs.YtfaclehehhgpcaaGreat
