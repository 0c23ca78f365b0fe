/- ArE: runs of a coder and of a decoder; 'Eq', 'Within', 'known' and 'wakes'. -/
import Derived.Test.YtlmopdohgipbeaaArD
import Derived.Test.YtlmopdohgipbeaaArK
import Derived.Test.YtlmopdohgipbeaaBlaw4x
import Derived.Test.YtlmopdohgipbeaaBburinkit
import Derived.Test.YtlmopdohgipbeaaBburinref0
set_option linter.unusedVariables false
set_option linter.unusedSimpArgs false
namespace Go.Ar
open Go Go.Den Go.Den.Ytlmopdohgipbeaa

/-! ### what stays true of a run -/
structure CodOk (m n : Nat) (s : Cod) : Prop where
  wf : Wf s
  n : s.n = n
  len : s.st.length = m
  done : s.done = false
theorem newC_ok (m : Nat) : CodOk m 0 (newC m) := ⟨newC_wf m, rfl, by simp [newC], rfl⟩
theorem putM_ok {m n : Nat} {s : Cod} (h : CodOk m n s) (k b : Nat) (hn : n < 16777216) : CodOk m (n + 1) (putM s k b) := by
  obtain ⟨h1, h2, h3⟩ := putM_n s k b
  exact ⟨putM_wf h.wf k b (by rw [h.n]; exact hn), by rw [h1, h.n], by rw [h2, h.len], by rw [h3, h.done]⟩
theorem codN_ok (k b : Nat → Nat) (m : Nat) : ∀ n, n ≤ 16777216 → CodOk m n (codN k b m n)
  | 0, _ => newC_ok m
  | n + 1, h => putM_ok (codN_ok k b m n (by omega)) _ _ (by omega)

theorem renewD_st : ∀ (k : Nat) (s : Dec), (renewD k s).st = s.st ∧ (renewD k s).n = s.n ∧ (renewD k s).b = s.b := by
  have hi : ∀ s : Dec, (inD s).st = s.st ∧ (inD s).n = s.n ∧ (inD s).b = s.b := fun s => by
    unfold inD
    split
    · exact ⟨rfl, rfl, rfl⟩
    · split <;> exact ⟨rfl, rfl, rfl⟩
  have hs : ∀ s : Dec, (shiftD s).st = s.st ∧ (shiftD s).n = s.n ∧ (shiftD s).b = s.b := fun s => by
    rw [shiftD_eq]
    split
    · exact hi s
    · exact ⟨rfl, rfl, rfl⟩
  intro k
  induction k with
  | zero => intro s; exact ⟨rfl, rfl, rfl⟩
  | succ k ih =>
    intro s
    obtain ⟨h1, h2, h3⟩ := hs s
    rw [renewD_succ]
    split
    · exact ⟨h1, h2, h3⟩
    · obtain ⟨g1, g2, g3⟩ := ih (shiftD s)
      exact ⟨g1.trans h1, g2.trans h2, g3.trans h3⟩
theorem getD_n (s : Dec) (k : Nat) : (getD s k).1.n = s.n + 1 ∧ (getD s k).1.st.length = s.st.length ∧ (getD s k).1.b = s.b := by
  have hr : ∀ S : Dec, S.n = s.n + 1 → S.st.length = s.st.length → S.b = s.b → (renewD 17 S).n = s.n + 1 ∧ (renewD 17 S).st.length = s.st.length ∧ (renewD 17 S).b = s.b := fun S e1 e2 e3 => by
    obtain ⟨h1, h2, h3⟩ := renewD_st 17 S
    exact ⟨h2.trans e1, by rw [h1, e2], h3.trans e3⟩
  unfold getD
  simp only []
  split
  · split
    · exact hr _ rfl (List.length_set ..) rfl
    · exact hr _ rfl (List.length_set ..) rfl
  · split
    · exact ⟨rfl, rfl, rfl⟩
    · split
      · exact hr _ rfl (List.length_set ..) rfl
      · exact hr _ rfl (List.length_set ..) rfl
theorem getD_bit {s : Dec} (k : Nat) : (getD s k).2 ≤ 1 := by
  have : s.st.getD k 0 % 2 < 2 := Nat.mod_lt _ (by omega)
  unfold getD
  simp only []
  split
  · split
    · show s.st.getD k 0 % 2 ≤ 1; omega
    · show 1 - s.st.getD k 0 % 2 ≤ 1; omega
  · split
    · show s.st.getD k 0 % 2 ≤ 1; omega
    · split
      · show 1 - s.st.getD k 0 % 2 ≤ 1; omega
      · show s.st.getD k 0 % 2 ≤ 1; omega
theorem newD_wf {b : List Nat} (hb : ∀ x ∈ b, x < 256) (n : Nat) : WfD (newD b n) ∧ (newD b n).n = 0 ∧ (newD b n).st.length = n ∧ (newD b n).b = b := by
  have hm : MidD { dec0 b n with c := byteD (dec0 b n) 0 * 65536 } := ⟨Nat.zero_le _, by
    show byteD (dec0 b n) 0 * 65536 < 4294967296
    have := byteD_lt (s := dec0 b n) hb 0
    omega, hb, fun x hx => by simp only [dec0, List.mem_replicate] at hx; omega, Nat.zero_le _⟩
  obtain ⟨i1, i2, i3, i4, i5, i6⟩ := inD_mid hm
  have hn : newD b n = { inD { dec0 b n with c := byteD (dec0 b n) 0 * 65536 } with c := (inD { dec0 b n with c := byteD (dec0 b n) 0 * 65536 }).c * 128 % M32, t := (inD { dec0 b n with c := byteD (dec0 b n) 0 * 65536 }).t - 7 } := rfl
  generalize inD { dec0 b n with c := byteD (dec0 b n) 0 * 65536 } = S at hn i1 i2 i3 i4 i5
  rw [hn]
  have e2 : S.a = 0x8000 := i2
  have e3 : S.n = 0 := i3
  have e4 : S.st = List.replicate n 0 := i4
  have e5 : S.b = b := i5
  refine ⟨⟨⟨by show S.t - 7 ≤ 8; have := i1.t8; omega, Nat.mod_lt _ (by decide), i1.b, i1.st, i1.i⟩, by show S.n ≤ _; omega, by show _ ≤ S.a; omega, by show S.a < _; omega⟩, e3, ?_, e5⟩
  show S.st.length = n
  rw [e4]
  simp
structure DecOk (bytes : List Nat) (m n : Nat) (s : Dec) : Prop where
  wf : WfD s
  n : s.n = n
  len : s.st.length = m
  b : s.b = bytes
theorem newD_ok {b : List Nat} (hb : ∀ x ∈ b, x < 256) (m : Nat) : DecOk b m 0 (newD b m) := by
  obtain ⟨h1, h2, h3, h4⟩ := newD_wf hb m
  exact ⟨h1, h2, h3, h4⟩
theorem getD_ok {b : List Nat} {m n : Nat} {s : Dec} (h : DecOk b m n s) (k : Nat) (hn : n < 16777216) : DecOk b m (n + 1) (getD s k).1 := by
  obtain ⟨h1, h2, h3⟩ := getD_n s k
  exact ⟨getD_wf h.wf k (by rw [h.n]; exact hn), by rw [h1, h.n], by rw [h2, h.len], by rw [h3, h.b]⟩
theorem decN_ok (k : Nat → Nat) {bytes : List Nat} (hb : ∀ x ∈ bytes, x < 256) (m : Nat) : ∀ n, n ≤ 16777216 → DecOk bytes m n (decN k bytes m n)
  | 0, _ => newD_ok hb m
  | n + 1, h => getD_ok (decN_ok k hb m n (by omega)) _ (by omega)

/-- What a coder hands out are bytes. -/
theorem outM_lt {s : Cod} (hl : s.l < 256) (hb : ∀ x ∈ s.bs, x < 256) : (outM s).l < 256 ∧ ∀ x ∈ (outM s).bs, x < 256 := by
  have hm : ∀ (l c : Nat), l < 256 → (outTail s l c).l < 256 ∧ ∀ x ∈ (outTail s l c).bs, x < 256 := fun l c h => by
    have h2 : ∀ x ∈ s.bs ++ [l], x < 256 := fun x hx => by
      rcases List.mem_append.1 hx with h3 | h3
      · exact hb x h3
      · rw [List.mem_singleton.1 h3]; exact h
    unfold outTail
    split
    · exact ⟨Nat.mod_lt _ (by omega), h2⟩
    · exact ⟨Nat.mod_lt _ (by omega), h2⟩
  unfold outM
  split
  · exact hm _ _ (by omega)
  · exact hm _ _ hl
theorem flushM_lt {s : Cod} (h : Wf s) : ∀ x ∈ bytesM (flushM s), x < 256 := by
  have h1 : (flushS { s with c := flushC s, done := true }).l < 256 ∧ ∀ x ∈ (flushS { s with c := flushC s, done := true }).bs, x < 256 := outM_lt (s := { s with c := flushC s * 2 ^ s.t, done := true }) h.l h.bs
  have h2 : (flushM s).l < 256 ∧ ∀ x ∈ (flushM s).bs, x < 256 := outM_lt (s := { flushS { s with c := flushC s, done := true } with c := (flushS { s with c := flushC s, done := true }).c * 2 ^ (flushS { s with c := flushC s, done := true }).t }) h1.1 h1.2
  have h3 : ∀ x ∈ (flushM s).bs ++ [(flushM s).l], x < 256 := fun x hx => by
    rcases List.mem_append.1 hx with h4 | h4
    · exact h2.2 x h4
    · rw [List.mem_singleton.1 h4]; exact h2.1
  intro x hx
  unfold bytesM at hx
  simp only [] at hx
  split at hx
  · exact h3 x (List.mem_of_mem_drop ((List.dropLast_sublist _).subset hx))
  · exact h3 x (List.mem_of_mem_drop hx)
theorem flushM_len (s : Cod) : (bytesM (flushM s)).length ≤ s.bs.length + 3 := by
  have h1 : (flushS { s with c := flushC s, done := true }).bs.length = s.bs.length + 1 := (outM_same _).2.2.2.2
  have h2 : (flushM s).bs.length = (flushS { s with c := flushC s, done := true }).bs.length + 1 := (outM_same _).2.2.2.2
  unfold bytesM
  simp only []
  split
  · simp; omega
  · simp; omega
theorem flushM_keep (s : Cod) : (flushM s).st = s.st ∧ (flushM s).n = s.n := by
  have h1 : (flushS { s with c := flushC s, done := true }).st = s.st ∧ (flushS { s with c := flushC s, done := true }).n = s.n := ⟨(outM_same _).2.2.1, (outM_same _).2.1⟩
  have h2 : (flushM s).st = (flushS { s with c := flushC s, done := true }).st ∧ (flushM s).n = (flushS { s with c := flushC s, done := true }).n := ⟨(outM_same _).2.2.1, (outM_same _).2.1⟩
  exact ⟨h2.1.trans h1.1, h2.2.trans h1.2⟩

/-! ### small functions -/
theorem rdO_cell {h : Heap} {a : Option Addr} {n : Nat} {cs : List Value} (hr : rdO h a n cs) {i : Nat} {v : Value} (hi : cs[i]? = some v) : ∃ ad, a = some ad ∧ hcell h (ad.add i) = some v := by
  cases a with
  | none => rw [show cs = [] from hr] at hi; simp at hi
  | some ad => exact ⟨ad, rfl, hr.2 i v hi⟩
theorem rdO_len {h : Heap} {a : Option Addr} {n : Nat} {cs : List Value} (hr : rdO h a n cs) (hn : a = none → n = 0) : cs.length = n := by
  cases a with
  | none => rw [show cs = [] from hr, hn rfl]; rfl
  | some ad => exact hr.1

theorem eq_ok {h : Heap} {a b : Option Addr} {ac bc : Nat} {xs ys : List Nat} (ha : rdO h a (xs.length * 1) (u8s xs)) (hb : rdO h b (ys.length * 1) (u8s ys)) (hlen : xs.length < 140737488351300)
    {K : Value → Heap → Prop} {Kp : List PanicEntry → Heap → Prop} (hk : K (.bool (decide (xs = ys))) h) : CP F_burinref0_Eq #[.slice a xs.length ac, .slice b ys.length bc] h K Kp := by
  refine call_burinref0_Eq ?_
  unfold burinref0_Eq
  refine bcase_of (fun h1 => ?_) fun h1 => ?_
  · have h1 : xs.length ≠ ys.length := by simp at h1; omega
    rw [decide_eq_false (fun e => h1 (congrArg List.length e))] at hk
    exact hk
  · have h1 : xs.length = ys.length := by simp at h1; omega
    refine ⟨fun n vs h' => ∃ i : Nat, h' = h ∧ vs = [.int .i64 (i : Int)] ∧ i + n = xs.length ∧ xs.take i = ys.take i, ⟨xs.length, 0, rfl, rfl, by omega, rfl⟩, ?_⟩
    rintro n h' u x ⟨i, rfl, hx, hin, hti⟩
    injection hx with hx
    injection hx with _ hx
    subst hx
    refine bcase_of (fun h2 => ?_) fun h2 => ?_
    · have h2 : i < xs.length := by simp at h2; omega
      have h3 : i < ys.length := by omega
      refine needs_of (by omega) ?_
      have hxi : xs[i]? = some xs[i] := List.getElem?_eq_getElem h2
      have hyi : ys[i]? = some ys[i] := List.getElem?_eq_getElem h3
      obtain ⟨aa, rfl, hca⟩ := rdO_cell ha (u8s_get hxi)
      obtain ⟨ba, rfl, hcb⟩ := rdO_cell hb (u8s_get hyi)
      simp only [ptr_some_eq, Int.toNat_natCast, Nat.mul_one]
      refine needs_of (by omega) ?_
      refine ldI_of hca (ldI_of hcb ?_)
      refine bcase_of (fun h4 => ?_) fun h4 => ?_
      · have h4 : xs[i] ≠ ys[i] := by simp at h4; omega
        rw [decide_eq_false (fun e => h4 (by subst e; rfl))] at hk
        exact hk
      · have h4 : xs[i] = ys[i] := by simp at h4; omega
        refine bindI_of (((i + 1 : Nat) : Int)) (by exact i64_at _ _ (by omega) (by omega) (by omega)) ?_
        refine ⟨n - 1, by omega, i + 1, by first | rfl | trivial, rfl, by omega, ?_⟩
        rw [List.take_succ_eq_append_getElem h2, List.take_succ_eq_append_getElem h3, hti, h4]
    · have h2 : i = xs.length := by simp at h2; omega
      subst h2
      have e : xs = ys := by rwa [List.take_of_length_le (Nat.le_refl _), h1, List.take_of_length_le (Nat.le_refl _)] at hti
      rw [decide_eq_true e] at hk
      exact hk

theorem within_ok {h : Heap} {i : Int} {n : Nat} (hn : 1 ≤ n) (hn2 : n < 1000000000) {K : Value → Heap → Prop} {Kp : List PanicEntry → Heap → Prop} (hk : K (.int .i64 (idx i n : Nat)) h) : CP F_burinkit_Within #[.int .i64 i, .int .i64 (n : Nat)] h K Kp := by
  refine call_burinkit_Within ?_
  unfold burinkit_Within
  have habs := tmod_abs i hn
  have h0 := Int.emod_nonneg i (b := (n : Int)) (by omega)
  have hlt := Int.emod_lt_of_pos i (b := (n : Int)) (by omega)
  have e1 : ((idx i n : Nat) : Int) = i % n := by unfold idx; omega
  have e2 := Int.tmod_eq_emod (a := i) (b := (n : Int))
  refine needs_of (by exact ⟨rfl, by omega⟩) ?_
  refine bindI_gen fun z ez => ?_
  subst ez
  refine bcase_of (fun h2 => ?_) fun h2 => ?_
  · have h2 : i.tmod n < 0 := of_decide_eq_true h2
    refine bindI_of ((idx i n : Nat)) (by exact i64_at _ _ (by split at e2 <;> omega) (by omega) (by omega)) ?_
    exact hk
  · have h2 : ¬ i.tmod n < 0 := of_decide_eq_false h2
    have e3 : i.tmod n = ((idx i n : Nat) : Int) := by split at e2 <;> omega
    rw [e3]
    exact hk

theorem idx_nat {x n : Nat} (h : x < n) : idx (x : Int) n = x := by
  unfold idx
  have : ((x : Int) % (n : Int)) = ((x % n : Nat) : Int) := by simp
  rw [this, Nat.mod_eq_of_lt h]
  rfl

/-! ### wakes -/
set_option maxRecDepth 100000 in
theorem wakes_ok {hB : Heap} {K : Value → Heap → Prop} {Kp : List PanicEntry → Heap → Prop} (hk : ∀ h', hext hB h' → K (.bool true) h') : CP F_burinlaw4_wakes #[] hB K Kp := by
  refine call_burinlaw4_wakes ?_
  unfold burinlaw4_wakes
  refine new_ok (n := 2) (by decide) (by decide) fun p q r h H => ?_
  refine ⟨_, _, rfl, ?_⟩
  refine bcase_false (by rfl) ?_
  refine bcase_false (by rfl) ?_
  refine ⟨fun n vs h' => ∃ (i r' : Nat) (rest' : List Value), i + n = 40 ∧ vs = [.int .i64 (i : Int)] ∧ Hp hB [] h' (codL p q r' (codN wakeK wakeB 2 i) rest'), ⟨40, 0, r, [], rfl, rfl, H⟩, ?_⟩
  clear H
  rintro n h u x ⟨i, r', rest', hin, hx, H⟩
  injection hx with hx
  injection hx with _ hx
  subst hx
  have hok := codN_ok wakeK wakeB 2 i (by omega)
  refine bcase_of (fun h1 => ?_) fun h1 => ?_
  · have h1 : i < 40 := by simp at h1; omega
    refine bindI_of (((wakeK i : Nat) : Int)) (by exact tmod_nat i 2) ?_
    refine bindI_of (((i / 3 : Nat) : Int)) (by exact i64_at _ _ (tdiv_nat i 3) (by omega) (by omega)) ?_
    refine bindI_of (((wakeB i : Nat) : Int)) (by exact tmod_nat (i / 3) 2) ?_
    have hki : wakeK i < 2 := Nat.mod_lt _ (by omega)
    have hbi : wakeB i < 2 := Nat.mod_lt _ (by omega)
    refine put_ok H hok.wf hok.done (by rw [hok.n]; omega) (by rw [hok.len]; omega) (by rw [hok.len]; omega) (by omega) fun r2 rest2 h H => ?_
    rw [hok.len, idx_nat hki] at H
    refine ⟨_, rfl, ?_⟩
    refine bcase_false (by rfl) ?_
    refine bindI_of (((i + 1 : Nat) : Int)) (by exact i64_at _ _ (by omega) (by omega) (by omega)) ?_
    exact ⟨n - 1, by omega, i + 1, r2, rest2, by omega, rfl, H⟩
  · have h1 : i = 40 := by simp at h1; omega
    subst h1
    refine flush_ok H hok.wf hok.done fun r2 rest2 o orest h H => ?_
    refine ⟨_, _, _, _, rfl, ?_⟩
    have hb8 : ∀ x ∈ wakeBytes, x < 256 := flushM_lt hok.wf
    have hlen : wakeBytes.length < 140737488351300 := by
      have h2 : wakeBytes.length ≤ _ := flushM_len _
      have h3 := hok.wf.len
      have h4 := hok.n
      omega
    have hr : rdO h (at0 o) (wakeBytes.length * 1) (u8s wakeBytes) := by
      have h2 := rdO_hp H 3 (o := 0) (n := wakeBytes.length * 1) rfl (by show _ ≤ (u8s wakeBytes ++ orest).length; rw [List.length_append, u8s_length]; omega)
      rw [List.drop_zero, show (u8s (bytesM (flushM (codN wakeK wakeB 2 40))) ++ orest) = u8s wakeBytes ++ orest from rfl, List.take_append_of_le_length (by rw [u8s_length]; omega), List.take_of_length_le (by rw [u8s_length]; omega)] at h2
      exact h2
    refine newDecoder_ok (n := 2) (by decide) (by decide) hb8 hlen hr fun p' q' e bp bc h' hbo H' => ?_
    refine ⟨_, _, rfl, ?_⟩
    refine bcase_false (by rfl) ?_
    refine bcase_false (by rfl) ?_
    refine bcase_false (by rfl) ?_
    refine bcase_false ?_ ?_
    · have h2 := Nat.ne_of_beq_eq_false wake_ne
      show ((wakeBytes.length : Int) == 0) = false
      simp; exact fun e => h2 (by rw [e]; rfl)
    have H2 := H.join H' (by simp [decL, decE, hbo.1])
    clear H H'
    have H3 : Hp hB [] h' (decL p' q' e bp bc (newD wakeBytes 2)) := H2.pick [4, 5, 6] (by decide) rfl
    clear H2
    refine ⟨fun n vs h' => ∃ i : Nat, i + n = 40 ∧ vs = [.int .i64 (i : Int)] ∧ Hp hB [] h' (decL p' q' e bp bc (decN wakeK wakeBytes 2 i)), ⟨40, 0, rfl, rfl, H3⟩, ?_⟩
    clear H3
    rintro n h u x ⟨i, hin, hx, H⟩
    injection hx with hx
    injection hx with _ hx
    subst hx
    have hok := decN_ok wakeK hb8 2 i (by omega)
    refine bcase_of (fun h1 => ?_) fun h1 => ?_
    · have h1 : i < 40 := by simp at h1; omega
      have hki : wakeK i < 2 := Nat.mod_lt _ (by omega)
      refine bindI_of (((wakeK i : Nat) : Int)) (by exact tmod_nat i 2) ?_
      refine get_ok H (by rw [hok.b]; exact hbo) hok.wf (by rw [hok.b]; exact hlen) (by rw [hok.n]; omega) (by rw [hok.len]; omega) (by rw [hok.len]; omega) fun h H => ?_
      rw [hok.len, idx_nat hki] at H ⊢
      refine ⟨_, _, rfl, ?_⟩
      refine bcase_false (by rfl) ?_
      refine bindI_of (((i / 3 : Nat) : Int)) (by exact i64_at _ _ (tdiv_nat i 3) (by omega) (by omega)) ?_
      refine bindI_of (((wakeB i : Nat) : Int)) (by exact tmod_nat (i / 3) 2) ?_
      have hg : (getD (decN wakeK wakeBytes 2 i) (wakeK i)).2 = wakeB i := Nat.eq_of_beq_eq_true (allB_of wake_all i h1)
      refine bcase_false (by rw [hg]; simp) ?_
      refine bindI_of (((i + 1 : Nat) : Int)) (by exact i64_at _ _ (by omega) (by omega) (by omega)) ?_
      exact ⟨n - 1, by omega, i + 1, by omega, rfl, H⟩
    · exact hk _ H.hext

end Go.Ar
