/- The given statement RefineEncodesSaid is proved of the given program; there are no further conditions. W5: put together by wip/tools/bundle.py: BkC BkD RfL BkE RfM Mlaw8x Blaw8x RfN RfO Mlaw8RefineEncodes Blaw8RefineEncodes RfP RfQ ArLink2 RfEncodes. -/
import Derived.Test.YtcicfilkdhhnmaaW1
import Derived.Test.YtcicfilkdhhnmaaW2
import Derived.Test.YtcicfilkdhhnmaaW3
import Derived.Test.YtcicfilkdhhnmaaW4
import Derived.Test.YtcicfilkdhhnmaaProg
import Derived.WalkKit
import Derived.ProofKit
import Derived.OpenShut
import Derived.Carry
import Derived.Deep.SlicePairs
import Derived.Lib.SmallJoins
import Derived.Test.YtcicfilkdhhnmaaRows

/- BkC: coder and decoder in step: what is decoded are the decisions. No Go, no memory. -/
set_option linter.unusedVariables false
set_option linter.unusedSimpArgs false
namespace Go.Ar

/-- Where a decoder stands in the code 'E', of which it has 'k' bytes. -/
structure Pos (E : List Nat) (d : Dec) (k : Nat) : Prop where
  by_ : ∀ j, byteD d j = fE E (j + 1)
  at_ : k = d.i + 1 ∨ d.i + 1 ≤ k ∧ E.length ≤ d.i + 2 ∧ fE E (d.i + 1) = 255
/-- No byte above 8f stands behind an ff. -/
def Stuffed (E : List Nat) : Prop := ∀ j, fE E j = 255 → j + 1 < E.length → fE E (j + 1) ≤ 143
theorem fE_end (E : List Nat) {k : Nat} (h : E.length ≤ k) : fE E k = 255 := by unfold fE; rw [List.getD_eq_getElem?_getD, List.getElem?_eq_none h]; rfl

/-- A byte comes in. -/
theorem inD_pos {E : List Nat} {d : Dec} {k : Nat} (hE : Stuffed E) (h : Pos E d k) :
    Pos E (inD d) (k + 1) ∧ (inD d).t = lenE E (k + 1) ∧ (inD d).c = (d.c + fE E (k + 1) * 2 ^ (16 - lenE E (k + 1))) % M32 := by
  have hb0 := h.by_ d.i
  have hb1 := h.by_ (d.i + 1)
  have hb : ∀ d' : Dec, d'.b = d.b → ∀ j, byteD d' j = fE E (j + 1) := fun d' e j => by rw [← h.by_ j]; unfold byteD; rw [e]
  unfold inD
  split
  · rename_i h1
    rw [hb0] at h1
    have hlt : d.i + 1 < E.length := by
      rcases Nat.lt_or_ge (d.i + 1) E.length with h2 | h2
      · exact h2
      · exact absurd (fE_end E h2) h1
    have hk : k = d.i + 1 := by
      rcases h.at_ with h2 | ⟨_, h2, h3⟩
      · exact h2
      · exact absurd h3 h1
    have hl : lenE E (k + 1) = 8 := by
      unfold lenE
      rw [Nat.add_sub_cancel, if_neg]
      rintro ⟨_, h3⟩
      rw [hk] at h3
      exact h1 h3
    refine ⟨⟨hb _ rfl, .inl (by rw [hk])⟩, by rw [hl], ?_⟩
    rw [hb1, hl, hk]
  · rename_i h1
    rw [hb0] at h1
    have h1 : fE E (d.i + 1) = 255 := by simpa using h1
    split
    · rename_i h2
      rw [hb1] at h2
      have hge : E.length ≤ d.i + 2 := by
        rcases Nat.lt_or_ge (d.i + 1 + 1) E.length with h3 | h3
        · have := hE _ h1 h3; omega
        · exact h3
      have hkge : d.i + 1 ≤ k := by rcases h.at_ with h3 | ⟨h3, _⟩ <;> omega
      have hl : lenE E (k + 1) = 8 := by unfold lenE; rw [if_neg (by omega)]
      have hf : fE E (k + 1) = 255 := fE_end E (by omega)
      exact ⟨⟨hb _ rfl, .inr ⟨by show d.i + 1 ≤ k + 1; omega, hge, h1⟩⟩, by rw [hl], by rw [hl, hf]⟩
    · rename_i h2
      rw [hb1] at h2
      have hlt : d.i + 2 < E.length := by
        rcases Nat.lt_or_ge (d.i + 2) E.length with h3 | h3
        · exact h3
        · have := fE_end E h3
          rw [show d.i + 1 + 1 = d.i + 2 from rfl] at h2
          omega
      have hk : k = d.i + 1 := by
        rcases h.at_ with h3 | ⟨_, h3, _⟩
        · exact h3
        · omega
      have hl : lenE E (k + 1) = 7 := by
        unfold lenE
        rw [Nat.add_sub_cancel, if_pos ⟨by omega, by rw [hk]; exact h1⟩]
      refine ⟨⟨hb _ rfl, .inl (by rw [hk])⟩, by rw [hl], ?_⟩
      rw [hb1, hl, hk]

/-- The decoder's number: what it has of the code, above the coder's lower end. -/
structure Num (E : List Nat) (s : Cod) (d : Dec) (k : Nat) : Prop extends Pos E d k where
  pos : BE E k = BE E s.bs.length + (27 - s.t) + d.t
  num : d.c + lowC s * 65536 = XE E k * 2 ^ (16 - d.t)
structure Sync (E : List Nat) (s : Cod) (d : Dec) : Prop where
  a : d.a = s.a
  st : d.st = s.st
  n : d.n = s.n
  num : ∃ k, Num E s d k

section
variable {E : List Nat} {s : Cod} {d : Dec} {k A t : Nat}
theorem XE_split (x : Nat) (h : t ≤ 16) : x * 2 ^ (16 - t) * 2 ^ t = x * 65536 := by
  rw [Nat.mul_assoc, ← Nat.pow_add]
  congr 1
  have : 16 - t + t = 16 := by omega
  rw [this]
/-- The number lies in the interval. -/
theorem Fut.lt (h : Fut E s A) (hp : BE E k = BE E s.bs.length + (27 - s.t) + t) (ht : t ≤ 16) : XE E k * 2 ^ (16 - t) < (lowC s + A) * 65536 := by
  have h1 := h.hi k
  rw [hp, Nat.pow_add _ _ t, ← Nat.mul_assoc, Nat.mul_right_comm (lowC s + A)] at h1
  have h2 : XE E k < (lowC s + A) * 2 ^ t := Nat.lt_of_mul_lt_mul_right h1
  refine Nat.lt_of_mul_lt_mul_right (a := 2 ^ t) ?_
  rw [XE_split _ ht, Nat.mul_right_comm]
  exact Nat.mul_lt_mul_of_pos_right h2 (by decide)
theorem Fut.ge (h : Fut E s A) (hp : BE E k = BE E s.bs.length + (27 - s.t) + t) (ht : t ≤ 16) (hk : s.bs.length < k) : lowC s * 65536 ≤ XE E k * 2 ^ (16 - t) := by
  have h1 := h.lo k hk
  rw [hp, Nat.pow_add _ _ t, ← Nat.mul_assoc, Nat.mul_right_comm] at h1
  have h2 : lowC s * 2 ^ t < XE E k + 1 := Nat.lt_of_mul_lt_mul_right h1
  refine Nat.le_of_mul_le_mul_right (c := 2 ^ t) ?_ (Nat.two_pow_pos t)
  rw [XE_split _ ht, Nat.mul_right_comm]
  exact Nat.mul_le_mul_right _ (by omega)
theorem ahead (hp : BE E k = BE E s.bs.length + (27 - s.t) + t) (ht : s.t ≤ 12) : s.bs.length < k := by
  rcases Nat.lt_or_ge s.bs.length k with h1 | h1
  · exact h1
  · have := BE_mono E h1; omega

theorem shiftM_pos (h : Fut E (shiftM s) A) (ht1 : 1 ≤ s.t) (ht2 : s.t ≤ 12) (hc : s.c < 2 ^ (28 - s.t)) : lowC (shiftM s) = 2 * lowC s ∧ BE E (shiftM s).bs.length + (27 - (shiftM s).t) = BE E s.bs.length + (27 - s.t) + 1 := by
  have e0 : lowC { s with a := 2 * s.a, c := 2 * s.c, t := s.t - 1 } = 2 * lowC s := by
    show valL (s.bs ++ [s.l]) * 2 ^ (27 - (s.t - 1)) + 2 * s.c = 2 * (valL (s.bs ++ [s.l]) * 2 ^ (27 - s.t) + s.c)
    rw [show 27 - (s.t - 1) = (27 - s.t) + 1 by omega, Nat.pow_succ, ← Nat.mul_assoc]
    omega
  unfold shiftM at h ⊢
  simp only [] at h ⊢
  split
  · rename_i h1
    rw [if_pos h1] at h
    have h1 : s.t - 1 = 0 := h1
    have ht : s.t = 1 := by omega
    rw [ht] at hc
    have tail : ∀ {l c : Nat}, Fut E (outTail { s with a := 2 * s.a, c := 2 * s.c, t := s.t - 1 } l c) A → c < 2 ^ 28 → (l ≠ 255 → c < 2 ^ 27) → (l = s.l ∧ c = 2 * s.c ∨ l = s.l + 1 ∧ s.l ≠ 255 ∧ c + 2 ^ 27 = 2 * s.c) →
        lowC (outTail { s with a := 2 * s.a, c := 2 * s.c, t := s.t - 1 } l c) = 2 * lowC s ∧ BE E (outTail { s with a := 2 * s.a, c := 2 * s.c, t := s.t - 1 } l c).bs.length + (27 - (outTail { s with a := 2 * s.a, c := 2 * s.c, t := s.t - 1 } l c).t) = BE E s.bs.length + (27 - s.t) + 1 := by
      intro l c hF hc hc2 hl
      constructor
      · rw [outTail_low _ l c hc hc2, ← e0]
        unfold lowC
        show valL (s.bs ++ [l]) * 2 ^ 27 + c = valL (s.bs ++ [s.l]) * 2 ^ (27 - (s.t - 1)) + 2 * s.c
        rw [h1, valL_snoc, valL_snoc]
        rcases hl with ⟨rfl, rfl⟩ | ⟨rfl, _, h2⟩
        · rfl
        · generalize (valL s.bs * if s.bs.getLast? = some 255 then 128 else 256) = v
          omega
      · have hbs : (outTail { s with a := 2 * s.a, c := 2 * s.c, t := s.t - 1 } l c).bs = s.bs ++ [l] := by unfold outTail; split <;> rfl
        have hpre := hF.pre
        have hlen := hF.len
        rw [hbs] at hpre hlen
        have hfl : fE E s.bs.length = l := hpre s.bs.length l (by simp)
        have hlen' : s.bs.length + 1 < E.length := by simpa using hlen
        rw [hbs, List.length_append, List.length_singleton]
        show BE E s.bs.length + lenE E (s.bs.length + 1) + _ = _
        have : lenE E (s.bs.length + 1) + (27 - (outTail { s with a := 2 * s.a, c := 2 * s.c, t := s.t - 1 } l c).t) = 27 := by
          unfold lenE outTail
          rw [Nat.add_sub_cancel, hfl]
          by_cases h3 : l = 255
          · simp only [if_pos h3]; rw [if_pos ⟨hlen', h3⟩]
          · simp only [if_neg h3]; rw [if_neg (by simp [h3])]
        omega
    unfold outM at h ⊢
    split
    · rename_i h2
      rw [if_pos h2] at h
      exact tail h (by show 2 * s.c % 134217728 < _; omega) (fun _ => by show 2 * s.c % 134217728 < _; omega) (.inr ⟨rfl, h2.1, by
        have : 134217728 ≤ 2 * s.c := h2.2
        show 2 * s.c % 134217728 + _ = _
        omega⟩)
    · rename_i h2
      rw [if_neg h2] at h
      exact tail h (by show 2 * s.c < _; omega) (fun h3 => by
        rcases Nat.lt_or_ge (2 * s.c) 134217728 with h4 | h4
        · exact h4
        · exact absurd ⟨h3, h4⟩ h2) (.inl ⟨rfl, rfl⟩)
  · exact ⟨e0, by show BE E s.bs.length + (27 - (s.t - 1)) = _; omega⟩

/-- One doubling. -/
theorem sync_shift (hE : Stuffed E) (hm : Mid s) (hd : MidD d) (S : Sync E s d) (ha : s.a < 0x8000) (F : Fut E (shiftM s) (shiftM s).a) : Sync E (shiftM s) (shiftD d) := by
  obtain ⟨hm1, hma, hmn, hmst, _, _⟩ := shiftM_mid hm ha
  have hc := hm.ca
  rw [hma] at F
  have hF : Fut E s s.a := F.shift hm.t1 hm.t12 (by omega)
  obtain ⟨p1, p2⟩ := shiftM_pos F hm.t1 hm.t12 (by omega)
  obtain ⟨k, hN⟩ := S.num
  have key : ∃ (k : Nat) (d1 : Dec), (if d.t = 0 then inD d else d) = d1 ∧ Num E s d1 k ∧ 1 ≤ d1.t ∧ d1.t ≤ 8 ∧ d1.a = d.a ∧ d1.st = d.st ∧ d1.n = d.n := by
    by_cases h0 : d.t = 0
    · obtain ⟨q1, q2, q3⟩ := inD_pos hE hN.toPos
      obtain ⟨i1, i2, i3, i4, i5, i6⟩ := inD_mid hd
      obtain ⟨l1, l2⟩ := lenE_le E (k + 1)
      rw [if_pos h0]
      have hpos : BE E (k + 1) = BE E s.bs.length + (27 - s.t) + lenE E (k + 1) := by
        have := hN.pos
        show BE E k + lenE E (k + 1) = _
        omega
      have hlt := hF.lt hpos (by omega)
      have e1 : XE E (k + 1) * 2 ^ (16 - lenE E (k + 1)) = XE E k * 65536 + fE E (k + 1) * 2 ^ (16 - lenE E (k + 1)) := by
        show (XE E k * 2 ^ lenE E (k + 1) + fE E (k + 1)) * _ = _
        rw [Nat.add_mul, ← XE_split (t := lenE E (k + 1)) (XE E k) (by omega), Nat.mul_right_comm]
      have e2 := hN.num
      rw [h0, Nat.sub_zero] at e2
      have hcl : (inD d).c + lowC s * 65536 = XE E (k + 1) * 2 ^ (16 - lenE E (k + 1)) := by
        rw [q3, Nat.mod_eq_of_lt]
        · omega
        · show _ < 4294967296
          rw [Nat.add_mul] at hlt
          have e3 : XE E k * 2 ^ 16 = XE E k * 65536 := rfl
          omega
      exact ⟨k + 1, _, rfl, ⟨q1, by rw [q2]; exact hpos, by rw [q2]; exact hcl⟩, by omega, by omega, i2, i4, i3⟩
    · rw [if_neg h0]
      exact ⟨k, d, rfl, hN, by omega, hd.t8, rfl, rfl, rfl⟩
  obtain ⟨k1, d1, hd1, hN1, t1, t8, ea, est, en⟩ := key
  have hlt := hF.lt hN1.pos (by omega)
  rw [← hN1.num] at hlt
  rw [Nat.add_mul] at hlt
  have hsd : shiftD d = { d1 with a := 2 * d1.a, c := 2 * d1.c % M32, t := d1.t - 1 } := by rw [← hd1]; rfl
  rw [hsd]
  have hc2 : 2 * d1.c % M32 = 2 * d1.c := Nat.mod_eq_of_lt (by show 2 * d1.c < 4294967296; omega)
  rw [hc2]
  refine ⟨by show 2 * d1.a = _; rw [hma, ea, S.a], by show d1.st = _; rw [hmst, est, S.st], by show d1.n = _; rw [hmn, en, S.n], k1, ⟨⟨hN1.by_, hN1.at_⟩, ?_, ?_⟩⟩
  · show BE E k1 = _ + (d1.t - 1)
    have := hN1.pos
    omega
  · show 2 * d1.c + lowC (shiftM s) * 65536 = XE E k1 * 2 ^ (16 - (d1.t - 1))
    have := hN1.num
    rw [p1, show 16 - (d1.t - 1) = (16 - d1.t) + 1 by omega, Nat.pow_succ, ← Nat.mul_assoc]
    omega
end

theorem sync_renew {E : List Nat} (hE : Stuffed E) : ∀ (k : Nat) {s : Cod} {d : Dec}, Mid s → MidD d → Sync E s d → s.a < 0x8000 → 0x8000 ≤ s.a * 2 ^ k → Fut E (renewM k s) (renewM k s).a → Sync E (renewM k s) (renewD k d)
  | 0, s, d, h, _, _, ha, hk, _ => by simp at hk; omega
  | k + 1, s, d, h, hd, S, ha, hk, hF => by
    obtain ⟨h1, h2, h3, h4, h5, h6⟩ := shiftM_mid h ha
    obtain ⟨g1, g2, g3, g4, g5⟩ := shiftD_mid hd
    have ea : (shiftD d).a = (shiftM s).a := by rw [g2, h2, S.a]
    unfold renewM at hF ⊢
    unfold renewD
    simp only [] at hF ⊢
    rw [ea]
    by_cases hge : 0x8000 ≤ (shiftM s).a
    · rw [if_pos hge] at hF ⊢
      rw [if_pos hge]
      exact sync_shift hE h hd S ha hF
    · rw [if_neg hge] at hF ⊢
      rw [if_neg hge]
      have hk' : 0x8000 ≤ (shiftM s).a * 2 ^ k := by
        rw [h2]
        rw [Nat.pow_succ] at hk
        have : s.a * (2 ^ k * 2) = 2 * s.a * 2 ^ k := by rw [Nat.mul_comm (2 ^ k) 2, ← Nat.mul_assoc, Nat.mul_comm s.a 2]
        omega
      exact sync_renew hE k h1 g1 (sync_shift hE h hd S ha (Fut.renew k h1 (by omega) hk' hF)) (by omega) hk' hF

/-- One decision. -/
theorem sync_put {E : List Nat} (hE : Stuffed E) {s : Cod} {d : Dec} (hs : Wf s) (hd : WfD d) (S : Sync E s d) {k bit : Nat} (hb : bit ≤ 1) (hF : Fut E (putM s k bit) (putM s k bit).a) :
    Sync E (putM s k bit) (getD d k).1 ∧ (getD d k).2 = bit ∧ Fut E s s.a := by
  have hx := getD_lt hs.st k
  have hr : s.st.getD k 0 / 2 < 47 := by omega
  have hq1 := qOf_pos hr
  have hq2 := qOf_le hr
  have hM := set_lt hs.st (k := k) (upM_lt hx)
  have hL := set_lt hs.st (k := k) (upL_lt hx)
  have hlo := hs.lo
  have hhi := hs.hi
  have hca := hs.ca
  have ht1 := hs.t1
  have ht2 := hs.t12
  have hdc := hd.c
  have h17 : (2 : Nat) ^ 17 = 131072 := rfl
  obtain ⟨kk, hN⟩ := S.num
  have hdt := hd.t8
  -- the lower part, the upper part
  have up : ∀ {a' n' : Nat} {st' : List Nat}, Fut E { s with a := a', c := s.c + qOf (s.st.getD k 0 / 2), n := n', st := st' } (s.a - qOf (s.st.getD k 0 / 2)) → ¬ d.c / 65536 < qOf (s.st.getD k 0 / 2) ∧ Fut E s s.a := by
    intro a' n' st' h
    have hl : lowC { s with a := a', c := s.c + qOf (s.st.getD k 0 / 2), n := n', st := st' } = lowC s + qOf (s.st.getD k 0 / 2) := (Nat.add_assoc _ _ _).symm
    have h1 := h.ge (k := kk) (t := d.t) hN.pos (by omega) (ahead (s := s) hN.pos ht2)
    rw [hl, ← hN.num, Nat.add_mul] at h1
    refine ⟨by omega, Fut.part (s := s) (d' := s.done) h (by omega) (by omega)⟩
  have lw : ∀ {a' n' : Nat} {st' : List Nat}, Fut E { s with a := a', n := n', st := st' } (qOf (s.st.getD k 0 / 2)) → d.c / 65536 < qOf (s.st.getD k 0 / 2) ∧ Fut E s s.a := by
    intro a' n' st' h
    have h1 := h.lt (k := kk) (t := d.t) hN.pos (by omega)
    rw [← hN.num] at h1
    have hl : lowC { s with a := a', n := n', st := st' } = lowC s := rfl
    rw [hl, Nat.add_mul] at h1
    refine ⟨by omega, Fut.part (s := s) (c' := s.c) (d' := s.done) h (by omega) (by omega)⟩
  have hbit : s.st.getD k 0 % 2 < 2 := Nat.mod_lt _ (by omega)
  -- the numbers behind a step
  have nup : ¬ d.c / 65536 < qOf (s.st.getD k 0 / 2) → ∀ {a' n' : Nat} {st' : List Nat}, Sync E { s with a := a', c := s.c + qOf (s.st.getD k 0 / 2), n := n', st := st' } { d with a := a', c := d.c - qOf (s.st.getD k 0 / 2) * 65536, n := n', st := st' } := by
    intro h a' n' st'
    refine ⟨rfl, rfl, rfl, kk, ⟨hN.by_, hN.at_⟩, hN.pos, ?_⟩
    have := hN.num
    have hl : lowC { s with a := a', c := s.c + qOf (s.st.getD k 0 / 2), n := n', st := st' } = lowC s + qOf (s.st.getD k 0 / 2) := (Nat.add_assoc _ _ _).symm
    show d.c - qOf (s.st.getD k 0 / 2) * 65536 + lowC { s with a := a', c := s.c + qOf (s.st.getD k 0 / 2), n := n', st := st' } * 65536 = XE E kk * 2 ^ (16 - d.t)
    rw [hl, Nat.add_mul]
    omega
  have nlw : ∀ {a' n' : Nat} {st' : List Nat}, Sync E { s with a := a', n := n', st := st' } { d with a := a', n := n', st := st' } := by
    intro a' n' st'
    exact ⟨rfl, rfl, rfl, kk, ⟨hN.by_, hN.at_⟩, hN.pos, hN.num⟩
  have hget : getD d k = (if d.c / 65536 < qOf (s.st.getD k 0 / 2) then
    if s.a - qOf (s.st.getD k 0 / 2) < qOf (s.st.getD k 0 / 2) then (renewD 17 { d with a := qOf (s.st.getD k 0 / 2), n := s.n + 1, st := s.st.set k (upM (s.st.getD k 0)) }, s.st.getD k 0 % 2)
    else (renewD 17 { d with a := qOf (s.st.getD k 0 / 2), n := s.n + 1, st := s.st.set k (upL (s.st.getD k 0)) }, 1 - s.st.getD k 0 % 2)
  else
    if 0x8000 ≤ s.a - qOf (s.st.getD k 0 / 2) then ({ d with a := s.a - qOf (s.st.getD k 0 / 2), c := d.c - qOf (s.st.getD k 0 / 2) * 65536, n := s.n + 1, st := s.st }, s.st.getD k 0 % 2)
    else if s.a - qOf (s.st.getD k 0 / 2) < qOf (s.st.getD k 0 / 2) then (renewD 17 { d with a := s.a - qOf (s.st.getD k 0 / 2), c := d.c - qOf (s.st.getD k 0 / 2) * 65536, n := s.n + 1, st := s.st.set k (upL (s.st.getD k 0)) }, 1 - s.st.getD k 0 % 2)
    else (renewD 17 { d with a := s.a - qOf (s.st.getD k 0 / 2), c := d.c - qOf (s.st.getD k 0 / 2) * 65536, n := s.n + 1, st := s.st.set k (upM (s.st.getD k 0)) }, s.st.getD k 0 % 2)) := by
    have e1 := S.a
    have e2 := S.st
    have e3 := S.n
    obtain ⟨da, dc, dt, dn, dst, db, di⟩ := d
    simp only at e1 e2 e3
    subst e1 e2 e3
    rfl
  have hdm : ∀ {a' c' n' : Nat} {st' : List Nat}, c' ≤ d.c → (∀ x ∈ st', x < 94) → MidD { d with a := a', c := c', n := n', st := st' } := fun hc hst => ⟨hd.t8, Nat.lt_of_le_of_lt hc hdc, hd.b, hst, hd.i⟩
  rw [hget]
  unfold putM at hF ⊢
  simp only [] at hF ⊢
  generalize s.st.getD k 0 = x at *
  generalize qOf (x / 2) = q at *
  have mlw : ∀ {n' : Nat} {st' : List Nat}, (∀ x ∈ st', x < 94) → Mid { s with a := q, n := n', st := st' } := fun hst => ⟨ht1, ht2, by show s.c + q < 2 ^ (28 - s.t); omega, hs.l, hs.bs, hst⟩
  have mup : ∀ {n' : Nat} {st' : List Nat}, (∀ x ∈ st', x < 94) → Mid { s with a := s.a - q, c := s.c + q, n := n', st := st' } := fun hst => ⟨ht1, ht2, by show s.c + q + (s.a - q) < 2 ^ (28 - s.t); omega, hs.l, hs.bs, hst⟩
  have flw : ∀ {n' : Nat} {st' : List Nat}, (∀ x ∈ st', x < 94) → Fut E (renewM 17 { s with a := q, n := n', st := st' }) (renewM 17 { s with a := q, n := n', st := st' }).a →
      d.c / 65536 < q ∧ Fut E s s.a ∧ Sync E (renewM 17 { s with a := q, n := n', st := st' }) (renewD 17 { d with a := q, n := n', st := st' }) := by
    intro n' st' hst h
    have h0 := Fut.renew 17 (mlw (n' := n') hst) (by show q < _; omega) (by show _ ≤ q * _; omega) h
    obtain ⟨h1, h2⟩ := lw h0
    exact ⟨h1, h2, sync_renew hE 17 (mlw hst) (hdm (Nat.le_refl _) hst) nlw (by show q < _; omega) (by show _ ≤ q * _; omega) h⟩
  have fup : ∀ {n' : Nat} {st' : List Nat}, s.a - q < 0x8000 → 1 ≤ s.a - q → (∀ x ∈ st', x < 94) → Fut E (renewM 17 { s with a := s.a - q, c := s.c + q, n := n', st := st' }) (renewM 17 { s with a := s.a - q, c := s.c + q, n := n', st := st' }).a →
      ¬ d.c / 65536 < q ∧ Fut E s s.a ∧ Sync E (renewM 17 { s with a := s.a - q, c := s.c + q, n := n', st := st' }) (renewD 17 { d with a := s.a - q, c := d.c - q * 65536, n := n', st := st' }) := by
    intro n' st' h3 h4 hst h
    have h0 := Fut.renew 17 (mup (n' := n') hst) h3 (by show _ ≤ (s.a - q) * _; omega) h
    obtain ⟨h1, h2⟩ := up h0
    exact ⟨h1, h2, sync_renew hE 17 (mup hst) (hdm (Nat.sub_le _ _) hst) (nup h1) h3 (by show _ ≤ (s.a - q) * _; omega) h⟩
  by_cases hbx : bit = x % 2
  · rw [if_pos hbx] at hF ⊢
    by_cases h8 : 0x8000 ≤ s.a - q
    · rw [if_pos h8] at hF ⊢
      obtain ⟨h1, h2⟩ := up (a' := s.a - q) (n' := s.n + 1) (st' := s.st) hF
      rw [if_neg h1, if_pos h8]
      exact ⟨nup h1, hbx.symm, h2⟩
    · rw [if_neg h8] at hF ⊢
      by_cases hq : s.a - q < q
      · rw [if_pos hq] at hF ⊢
        obtain ⟨h1, h2, h3⟩ := flw hM hF
        rw [if_pos h1, if_pos hq]
        exact ⟨h3, hbx.symm, h2⟩
      · rw [if_neg hq] at hF ⊢
        obtain ⟨h1, h2, h3⟩ := fup (by omega) (by omega) hM hF
        rw [if_neg h1, if_neg h8, if_neg hq]
        exact ⟨h3, hbx.symm, h2⟩
  · rw [if_neg hbx] at hF ⊢
    by_cases hq : s.a - q < q
    · rw [if_pos hq] at hF ⊢
      obtain ⟨h1, h2, h3⟩ := fup (by omega) (by omega) hL hF
      rw [if_neg h1, if_neg (by omega), if_pos hq]
      exact ⟨h3, by show 1 - x % 2 = bit; omega, h2⟩
    · rw [if_neg hq] at hF ⊢
      obtain ⟨h1, h2, h3⟩ := flw hL hF
      rw [if_pos h1, if_neg hq]
      exact ⟨h3, by show 1 - x % 2 = bit; omega, h2⟩

end Go.Ar

/- BkD: no byte above 8f behind an ff; the whole run of a coder and the decoder of its bytes. No Go, no memory. -/
set_option linter.unusedVariables false
set_option linter.unusedSimpArgs false
namespace Go.Ar

structure Stf0 (s : Cod) (A : Nat) : Prop where
  bs : ∀ j, s.bs[j]? = some 255 → ∀ y, s.bs[j + 1]? = some y → y ≤ 143
  last : s.bs.getLast? = some 255 → s.l * 2 ^ (27 - s.t) + s.c + A ≤ 144 * 2 ^ (27 - s.t)
structure Stf (s : Cod) (A : Nat) : Prop extends Stf0 s A where
  ff : s.l = 255 → s.t ≤ 8 ∧ s.c + A ≤ 589824 * 2 ^ (8 - s.t)

section
variable {s : Cod} {A : Nat}
theorem Stf.part (h : Stf s A) {A' a' c' n' : Nat} {st' : List Nat} {d' : Bool} (hc : c' + A' ≤ s.c + A) : Stf { s with a := a', c := c', n := n', st := st', done := d' } A' := by
  refine ⟨⟨h.bs, fun hl => ?_⟩, fun hl => ?_⟩
  · have := h.last hl
    show s.l * 2 ^ (27 - s.t) + c' + A' ≤ 144 * 2 ^ (27 - s.t)
    omega
  · have := h.ff hl
    exact ⟨this.1, Nat.le_trans hc this.2⟩
theorem Stf.near (h : Stf s A) {j a' : Nat} (hj : j ≤ s.t) (ht : s.t ≤ 27) : Stf { s with a := a', c := s.c * 2 ^ j, t := s.t - j } (A * 2 ^ j) := by
  refine ⟨⟨h.bs, fun hl => ?_⟩, fun hl => ?_⟩
  · have h1 := Nat.mul_le_mul_right (2 ^ j) (h.last hl)
    show s.l * 2 ^ (27 - (s.t - j)) + s.c * 2 ^ j + A * 2 ^ j ≤ 144 * 2 ^ (27 - (s.t - j))
    have e : 27 - (s.t - j) = 27 - s.t + j := by omega
    rw [e, Nat.pow_add, ← Nat.mul_assoc, ← Nat.mul_assoc]
    rw [Nat.add_mul, Nat.add_mul] at h1
    exact h1
  · obtain ⟨h1, h2⟩ := h.ff hl
    have h3 := Nat.mul_le_mul_right (2 ^ j) h2
    refine ⟨by show s.t - j ≤ 8; omega, ?_⟩
    show s.c * 2 ^ j + A * 2 ^ j ≤ 589824 * 2 ^ (8 - (s.t - j))
    have e : 8 - (s.t - j) = 8 - s.t + j := by omega
    rw [e, Nat.pow_add, ← Nat.mul_assoc, ← Nat.add_mul]
    exact h3
theorem Stf.out (h : Stf s A) (ht : s.t = 0) (hc : s.c + A ≤ 2 ^ 28) (hA : 1 ≤ A) : Stf0 (outM s) A ∧ (A ≤ 65536 → Stf (outM s) A) := by
  have key : ∀ l c, (l = s.l ∧ c = s.c ∧ (l ≠ 255 → c < 2 ^ 27) ∨ l = s.l + 1 ∧ s.l ≠ 255 ∧ c + 2 ^ 27 = s.c) → Stf0 (outTail s l c) A ∧ (A ≤ 65536 → Stf (outTail s l c) A) := by
    intro l c hl
    have hbs : (outTail s l c).bs = s.bs ++ [l] := by unfold outTail; split <;> rfl
    have hchain : ∀ j, (s.bs ++ [l])[j]? = some 255 → ∀ y, (s.bs ++ [l])[j + 1]? = some y → y ≤ 143 := by
      intro j hj y hy
      have hlt := (List.getElem?_eq_some_iff.1 hy).1
      rw [List.length_append, List.length_singleton] at hlt
      rw [List.getElem?_append_left (by omega)] at hj
      rcases Nat.lt_or_ge (j + 1) s.bs.length with h1 | h1
      · rw [List.getElem?_append_left h1] at hy
        exact h.bs j hj y hy
      · have e : j + 1 = s.bs.length := by omega
        rw [e] at hy
        simp at hy
        subst hy
        have hg : s.bs.getLast? = some 255 := by rw [List.getLast?_eq_getElem?, ← e, Nat.add_sub_cancel]; exact hj
        have := h.last hg
        rw [ht] at this
        omega
    have hlast : (s.bs ++ [l]).getLast? = some 255 → l = 255 ∧ c + A ≤ 144 * 2 ^ 20 := by
      intro hg
      rw [List.getLast?_concat] at hg
      have hl2 : l = 255 := Option.some.inj hg
      refine ⟨hl2, ?_⟩
      rcases hl with ⟨h1, h2, _⟩ | ⟨h1, h2, h3⟩
      · have := (h.ff (by omega)).2
        rw [ht] at this
        omega
      · omega
    have hclt : c < 2 ^ 28 := by omega
    have h0 : Stf0 (outTail s l c) A := by
      refine ⟨by rw [hbs]; exact hchain, fun hg => ?_⟩
      rw [hbs] at hg
      obtain ⟨h1, h2⟩ := hlast hg
      unfold outTail
      rw [if_pos h1]
      show c / 1048576 % 256 * 2 ^ 20 + c % 1048576 + A ≤ 144 * 2 ^ 20
      omega
    refine ⟨h0, fun hA2 => ⟨h0, fun hl2 => ?_⟩⟩
    by_cases h3 : l = 255
    · have := h0.last (by rw [hbs, List.getLast?_concat, h3])
      rw [hl2] at this
      omega
    · unfold outTail
      rw [if_neg h3]
      refine ⟨Nat.le_refl _, ?_⟩
      show c % 524288 + A ≤ 589824
      omega
  unfold outM
  split
  · rename_i h1
    exact key _ _ (.inr ⟨rfl, h1.1, by omega⟩)
  · rename_i h1
    exact key _ _ (.inl ⟨rfl, rfl, fun h2 => by
      rcases Nat.lt_or_ge s.c 134217728 with h3 | h3
      · exact h3
      · exact absurd ⟨h2, h3⟩ h1⟩)

theorem stf_shift (h : Stf s s.a) (hm : Mid s) (ha : s.a < 0x8000) (ha1 : 1 ≤ s.a) : Stf (shiftM s) (shiftM s).a := by
  have ht1 := hm.t1
  have ht2 := hm.t12
  have hca := hm.ca
  have h1 := h.near (j := 1) (a' := 2 * s.a) ht1 (by omega)
  rw [Nat.pow_one, Nat.mul_comm s.c 2, Nat.mul_comm s.a 2] at h1
  unfold shiftM
  simp only []
  split
  · rename_i h0
    have h0 : s.t - 1 = 0 := h0
    have ht : s.t = 1 := by omega
    rw [ht] at hca
    rw [(outM_same _).1]
    exact (h1.out h0 (by show 2 * s.c + 2 * s.a ≤ _; omega) (by omega)).2 (by omega)
  · exact h1
theorem stf_renew : ∀ (k : Nat) {s : Cod}, Stf s s.a → Mid s → s.a < 0x8000 → 1 ≤ s.a → Stf (renewM k s) (renewM k s).a
  | 0, s, h, _, _, _ => h
  | k + 1, s, h, hm, ha, ha1 => by
    obtain ⟨g1, g2, _⟩ := shiftM_mid hm ha
    unfold renewM
    simp only []
    split
    · exact stf_shift h hm ha ha1
    · exact stf_renew k (stf_shift h hm ha ha1) g1 (by omega) (by omega)
theorem stf_put (h : Stf s s.a) (hs : Wf s) (k bit : Nat) : Stf (putM s k bit) (putM s k bit).a := by
  have hx := getD_lt hs.st k
  have hr : s.st.getD k 0 / 2 < 47 := by omega
  have hq1 := qOf_pos hr
  have hq2 := qOf_le hr
  have hM := set_lt hs.st (k := k) (upM_lt hx)
  have hL := set_lt hs.st (k := k) (upL_lt hx)
  have hlo := hs.lo
  have hhi := hs.hi
  have hca := hs.ca
  unfold putM
  simp only []
  generalize s.st.getD k 0 = x at *
  generalize qOf (x / 2) = q at *
  have lw : ∀ {n' : Nat} {st' : List Nat}, (∀ x ∈ st', x < 94) → Stf (renewM 17 { s with a := q, n := n', st := st' }) (renewM 17 { s with a := q, n := n', st := st' }).a := fun {n' st'} hst =>
    stf_renew 17 (h.part (c' := s.c) (A' := q) (d' := s.done) (by omega)) ⟨hs.t1, hs.t12, by show s.c + q < 2 ^ (28 - s.t); omega, hs.l, hs.bs, hst⟩ (by show q < _; omega) hq1
  have up : ∀ {n' : Nat} {st' : List Nat}, s.a - q < 0x8000 → 1 ≤ s.a - q → (∀ x ∈ st', x < 94) → Stf (renewM 17 { s with a := s.a - q, c := s.c + q, n := n', st := st' }) (renewM 17 { s with a := s.a - q, c := s.c + q, n := n', st := st' }).a := fun {n' st'} h1 h2 hst =>
    stf_renew 17 (h.part (c' := s.c + q) (A' := s.a - q) (d' := s.done) (by omega)) ⟨hs.t1, hs.t12, by show s.c + q + (s.a - q) < 2 ^ (28 - s.t); omega, hs.l, hs.bs, hst⟩ h1 h2
  split
  · split
    · exact h.part (a' := s.a - q) (c' := s.c + q) (A' := s.a - q) (n' := s.n + 1) (st' := s.st) (d' := s.done) (by omega)
    · split
      · exact lw hM
      · exact up (by omega) (by omega) hM
  · split
    · exact up (by omega) (by omega) hL
    · exact lw hL
theorem stf_new (m : Nat) : Stf (newC m) (newC m).a := ⟨⟨fun j hj => by simp [newC] at hj, fun hl => by simp [newC] at hl⟩, fun hl => by simp [newC] at hl⟩

theorem stf_flush (h : Stf s s.a) (hs : Wf s) : Stf0 (flushM s) 1 := by
  have hca := hs.ca
  have ht1 := hs.t1
  have ht2 := hs.t12
  have hlo := hs.lo
  have hf1 : s.c ≤ flushC s ∧ flushC s + 1 ≤ s.c + s.a := by
    unfold flushC
    simp only []
    split <;> omega
  have h0 : Stf { s with c := flushC s, done := true } 1 := h.part (a' := s.a) (n' := s.n) (st' := s.st) (by omega)
  have hS : flushM s = flushS (flushS { s with c := flushC s, done := true }) := rfl
  rw [hS]
  generalize hS0 : ({ s with c := flushC s, done := true } : Cod) = S0 at h0
  have hS0t : S0.t = s.t := by rw [← hS0]
  have hS0c : S0.c = flushC s := by rw [← hS0]
  have h1 := h0.near (j := S0.t) (a' := S0.a) (Nat.le_refl _) (by omega)
  have hp : (2 : Nat) ^ (28 - s.t) * 2 ^ s.t = 2 ^ 28 := by rw [← Nat.pow_add]; congr 1; omega
  have hp12 : (2 : Nat) ^ s.t ≤ 2 ^ 12 := Nat.pow_le_pow_right (by omega) ht2
  have h2 := (h1.out (Nat.sub_self _) (by
    show S0.c * 2 ^ S0.t + 1 * 2 ^ S0.t ≤ 2 ^ 28
    rw [← Nat.add_mul, hS0c, hS0t, ← hp]
    exact Nat.mul_le_mul_right _ (by omega)) (by have := Nat.two_pow_pos S0.t; omega)).2 (by rw [hS0t]; omega)
  have e1 : outM { S0 with c := S0.c * 2 ^ S0.t, t := S0.t - S0.t } = flushS S0 := outM_t { S0 with c := S0.c * 2 ^ S0.t } _
  rw [e1] at h2
  obtain ⟨hc1, ht1'⟩ := outM_ct { S0 with c := S0.c * 2 ^ S0.t, t := S0.t - S0.t }
  rw [e1] at hc1 ht1'
  generalize flushS S0 = S1 at *
  rw [hS0t, Nat.one_mul] at h2
  have h3 := h2.near (j := S1.t) (a' := S1.a) (Nat.le_refl _) (by omega)
  have hp1 : (2 : Nat) ^ (27 - S1.t) * 2 ^ S1.t = 2 ^ 27 := by rw [← Nat.pow_add]; congr 1; omega
  have hc1lt : S1.c < 2 ^ (27 - S1.t) := by rw [hc1]; exact Nat.mod_lt _ (Nat.two_pow_pos _)
  have hp8 : (2 : Nat) ^ S1.t ≤ 2 ^ 8 := Nat.pow_le_pow_right (by omega) (by omega)
  have hpp : 2 ^ s.t * 2 ^ S1.t ≤ 2 ^ 12 * 2 ^ 8 := Nat.mul_le_mul hp12 hp8
  have hpz : 0 < 2 ^ s.t * 2 ^ S1.t := Nat.mul_pos (Nat.two_pow_pos _) (Nat.two_pow_pos _)
  have h4 := (h3.out (Nat.sub_self _) (by
    show S1.c * 2 ^ S1.t + 2 ^ s.t * 2 ^ S1.t ≤ 2 ^ 28
    have := Nat.mul_lt_mul_of_pos_right hc1lt (Nat.two_pow_pos S1.t)
    omega) hpz).1
  have e2 : outM { S1 with c := S1.c * 2 ^ S1.t, t := S1.t - S1.t } = flushS S1 := outM_t { S1 with c := S1.c * 2 ^ S1.t } _
  rw [e2] at h4
  exact ⟨h4.bs, fun hl => by have := h4.last hl; omega⟩
end

theorem codeE_get {F : Cod} (j : Nat) (h : j < F.bs.length) : fE (codeE F) j = F.bs.getD j 0 ∧ F.bs[j]? = some (fE (codeE F) j) := by
  unfold fE codeE
  rw [List.getD_eq_getElem?_getD, List.getD_eq_getElem?_getD, List.getElem?_append_left h, List.getElem?_eq_getElem h]
  exact ⟨rfl, rfl⟩
theorem codeE_last {F : Cod} : fE (codeE F) F.bs.length = F.l := by
  unfold fE codeE
  rw [List.getD_eq_getElem?_getD]; simp
theorem codeE_len {F : Cod} : (codeE F).length = F.bs.length + 1 := by simp [codeE]
theorem Stf0.prev {F : Cod} (h : Stf0 F 1) (hl : F.bs.getLast? = some 255) : F.l ≤ 143 := by
  have h1 := h.last hl
  have h2 := Nat.two_pow_pos (27 - F.t)
  have h3 : F.l * 2 ^ (27 - F.t) < 144 * 2 ^ (27 - F.t) := by omega
  have := Nat.lt_of_mul_lt_mul_right h3
  omega
theorem Stf0.stuffed {F : Cod} (h : Stf0 F 1) : Stuffed (codeE F) := by
  intro j hj hlt
  rw [codeE_len] at hlt
  have hjl : j < F.bs.length := by omega
  have h1 := (codeE_get j hjl).2
  rw [hj] at h1
  rcases Nat.lt_or_ge (j + 1) F.bs.length with h2 | h2
  · exact h.bs j h1 _ (codeE_get (j + 1) h2).2
  · have e : j + 1 = F.bs.length := by omega
    rw [e, codeE_last]
    refine h.prev ?_
    rw [List.getLast?_eq_getElem?, ← e, Nat.add_sub_cancel]
    exact h1

/-- The bytes: the code without its first byte, and without an ff at its end. -/
theorem bytes_code {F : Cod} (j : Nat) : (bytesM F).getD j 255 = fE (codeE F) (j + 1) := by
  have hc : bytesM F = if F.l = 255 then ((codeE F).drop 1).dropLast else (codeE F).drop 1 := rfl
  have hd : ((codeE F).drop 1).getD j 255 = fE (codeE F) (j + 1) := by
    unfold fE
    rw [List.getD_eq_getElem?_getD, List.getD_eq_getElem?_getD, List.getElem?_drop, Nat.add_comm 1 j]
  rw [hc]
  split
  · rename_i hl
    have hlen := codeE_len (F := F)
    have hdl : ((codeE F).drop 1).length = F.bs.length := by rw [List.length_drop, hlen]; omega
    rcases Nat.lt_trichotomy (j + 1) F.bs.length with h1 | h1 | h1
    · rw [← hd, List.getD_eq_getElem?_getD, List.getD_eq_getElem?_getD, List.dropLast_eq_take, List.getElem?_take_of_lt (by omega)]
    · have e : fE (codeE F) (j + 1) = 255 := by rw [h1, codeE_last, hl]
      rw [e, List.getD_eq_getElem?_getD, List.getElem?_eq_none (by rw [List.length_dropLast]; omega)]
      rfl
    · rw [fE_end _ (by omega), List.getD_eq_getElem?_getD, List.getElem?_eq_none (by rw [List.length_dropLast]; omega)]
      rfl
  · exact hd
theorem bytes_ff {F : Cod} (h : Stf0 F 1) {i : Nat} (hi : (bytesM F)[i]? = some 255) : i + 1 < (bytesM F).length ∧ ∀ y, (bytesM F)[i + 1]? = some y → y ≤ 143 := by
  have hlen := codeE_len (F := F)
  have h0 := h.stuffed
  have hil := (List.getElem?_eq_some_iff.1 hi).1
  have e0 := bytes_code (F := F) i
  rw [List.getD_eq_getElem?_getD, hi] at e0
  have e0 : fE (codeE F) (i + 1) = 255 := e0.symm
  have hbl : (bytesM F).length = if F.l = 255 then F.bs.length - 1 else F.bs.length := by
    have hc : bytesM F = if F.l = 255 then ((codeE F).drop 1).dropLast else (codeE F).drop 1 := rfl
    rw [hc]
    split
    · rw [List.length_dropLast, List.length_drop, hlen]; omega
    · rw [List.length_drop, hlen]; omega
  have hlt : i + 1 < (bytesM F).length := by
    rcases Nat.lt_or_ge (i + 1) (bytesM F).length with h1 | h1
    · exact h1
    · exfalso
      by_cases hl : F.l = 255
      · rw [if_pos hl] at hbl
        have h2 := h0 (i + 1) e0 (by omega)
        have h3 : i + 1 + 1 = F.bs.length := by omega
        rw [h3, codeE_last] at h2
        omega
      · rw [if_neg hl] at hbl
        have h3 : i + 1 = F.bs.length := by omega
        rw [h3, codeE_last] at e0
        exact hl e0
  refine ⟨hlt, fun y hy => ?_⟩
  have e1 := bytes_code (F := F) (i + 1)
  rw [List.getD_eq_getElem?_getD, hy] at e1
  have e1 : y = fE (codeE F) (i + 1 + 1) := e1
  rw [e1]
  refine h0 (i + 1) e0 ?_
  have : (bytesM F).length ≤ F.bs.length := by rw [hbl]; split <;> omega
  omega

/-- Backwards over a decision. -/
theorem fut_put {E : List Nat} {s : Cod} (hs : Wf s) {k bit : Nat} (hF : Fut E (putM s k bit) (putM s k bit).a) : Fut E s s.a := by
  have hx := getD_lt hs.st k
  have hr : s.st.getD k 0 / 2 < 47 := by omega
  have hq1 := qOf_pos hr
  have hq2 := qOf_le hr
  have hM := set_lt hs.st (k := k) (upM_lt hx)
  have hL := set_lt hs.st (k := k) (upL_lt hx)
  have hlo := hs.lo
  have hhi := hs.hi
  have hca := hs.ca
  have h17 : (2 : Nat) ^ 17 = 131072 := rfl
  unfold putM at hF
  simp only [] at hF
  generalize s.st.getD k 0 = x at *
  generalize qOf (x / 2) = q at *
  have lw : ∀ {n' : Nat} {st' : List Nat}, (∀ x ∈ st', x < 94) → Fut E (renewM 17 { s with a := q, n := n', st := st' }) (renewM 17 { s with a := q, n := n', st := st' }).a → Fut E s s.a := fun {n' st'} hst h =>
    Fut.part (s := s) (c' := s.c) (d' := s.done) (Fut.renew 17 (s := { s with a := q, n := n', st := st' }) ⟨hs.t1, hs.t12, by show s.c + q < 2 ^ (28 - s.t); omega, hs.l, hs.bs, hst⟩ (by show q < _; omega) (by show _ ≤ q * _; omega) h) (by omega) (by show s.c + q ≤ _; omega)
  have up : ∀ {n' : Nat} {st' : List Nat}, s.a - q < 0x8000 → 1 ≤ s.a - q → (∀ x ∈ st', x < 94) → Fut E (renewM 17 { s with a := s.a - q, c := s.c + q, n := n', st := st' }) (renewM 17 { s with a := s.a - q, c := s.c + q, n := n', st := st' }).a → Fut E s s.a := fun {n' st'} h1 h2 hst h =>
    Fut.part (s := s) (d' := s.done) (Fut.renew 17 (s := { s with a := s.a - q, c := s.c + q, n := n', st := st' }) ⟨hs.t1, hs.t12, by show s.c + q + (s.a - q) < 2 ^ (28 - s.t); omega, hs.l, hs.bs, hst⟩ h1 (by show _ ≤ (s.a - q) * _; omega) h) (by omega) (by show s.c + q + (s.a - q) ≤ _; omega)
  split at hF
  · split at hF
    · exact Fut.part (s := s) (A := s.a - q) (d' := s.done) hF (by omega) (by omega)
    · split at hF
      · exact lw hM hF
      · exact up (by omega) (by omega) hM hF
  · split at hF
    · exact up (by omega) (by omega) hL hF
    · exact lw hL hF

/-- At the beginning. -/
theorem sync_new {E : List Nat} {m : Nat} {b : List Nat} (hE : Stuffed E) (hb : ∀ j, b.getD j 255 = fE E (j + 1)) (hlt : ∀ x ∈ b, x < 256) (hF : Fut E (newC m) (newC m).a) : Sync E (newC m) (newD b m) := by
  have hX0 : fE E 0 = 0 := by
    have := hF.hi 0
    have e : lowC (newC m) = 0 := by simp [lowC, newC, valL, valR]
    rw [e] at this
    have e2 : XE E 0 = fE E 0 := rfl
    rw [e2] at this
    simp [newC, BE] at this
    omega
  have hb0 : ∀ d : Dec, d.b = b → ∀ j, byteD d j = fE E (j + 1) := fun d e j => by unfold byteD; rw [e]; exact hb j
  have hl1 : lenE E 1 = 8 := by
    unfold lenE
    rw [if_neg]
    rintro ⟨_, h⟩
    rw [show 1 - 1 = 0 from rfl, hX0] at h
    omega
  have hX1 : XE E 1 = fE E 1 := by
    show XE E 0 * 2 ^ lenE E 1 + fE E 1 = _
    have : XE E 0 = 0 := hX0
    rw [this]; omega
  have hf1 : fE E 1 < 256 := by rw [← hb0 { a := 0, c := 0, t := 0, n := 0, st := [], b := b, i := 0 } rfl 0]; exact byteD_lt (s := { a := 0, c := 0, t := 0, n := 0, st := [], b := b, i := 0 }) hlt 0
  have hf2 : fE E 2 < 256 := by rw [← hb0 { a := 0, c := 0, t := 0, n := 0, st := [], b := b, i := 0 } rfl 1]; exact byteD_lt (s := { a := 0, c := 0, t := 0, n := 0, st := [], b := b, i := 0 }) hlt 1
  have hc0 : b.getD 0 255 = fE E 1 := hb 0
  generalize hd : ({ a := 0x8000, c := b.getD 0 255 * 65536, t := 0, n := 0, st := List.replicate m 0, b := b, i := 0 } : Dec) = d
  have hdc : d.c = fE E 1 * 65536 := by rw [← hd]; show b.getD 0 255 * 65536 = _; rw [hc0]
  have hP : Pos E d 1 := ⟨hb0 d (by rw [← hd]), .inl (by rw [← hd])⟩
  obtain ⟨q1, q2, q3⟩ := inD_pos hE hP
  have hnew : newD b m = { inD d with c := (inD d).c * 128 % M32, t := (inD d).t - 7 } := by rw [← hd]; rfl
  have hst : (inD d).a = 0x8000 ∧ (inD d).n = 0 ∧ (inD d).st = List.replicate m 0 := by
    rw [← hd]; unfold inD; split
    · exact ⟨rfl, rfl, rfl⟩
    · split <;> exact ⟨rfl, rfl, rfl⟩
  obtain ⟨l1, l2⟩ := lenE_le E 2
  have hXX : XE E 2 = fE E 1 * 2 ^ lenE E 2 + fE E 2 := by show XE E 1 * _ + _ = _; rw [hX1]
  have hBB : BE E 2 = 8 + lenE E 2 := by show 0 + lenE E 1 + lenE E 2 = _; rw [hl1]
  have q2 : (inD d).t = lenE E 2 := q2
  have q3 : (inD d).c = (d.c + fE E 2 * 2 ^ (16 - lenE E 2)) % M32 := q3
  rw [hnew]
  refine ⟨hst.1, hst.2.2, hst.2.1, 2, ⟨⟨q1.by_, q1.at_⟩, ?_, ?_⟩⟩
  · show BE E 2 = 0 + (27 - 12) + ((inD d).t - 7)
    omega
  · have e : lowC (newC m) = 0 := by simp [lowC, newC, valL, valR]
    show (inD d).c * 128 % M32 + lowC (newC m) * 65536 = XE E 2 * 2 ^ (16 - ((inD d).t - 7))
    have hM : M32 = 4294967296 := rfl
    rw [e, q3, q2, hXX, hdc, hM]
    rcases (show lenE E 2 = 7 ∨ lenE E 2 = 8 by omega) with h | h <;> rw [h] <;> simp only [show (16 - 7) = 9 from rfl, show 16 - 8 = 8 from rfl, show 16 - (7 - 7) = 16 from rfl, show 16 - (8 - 7) = 15 from rfl] <;> omega

/-! ### the whole run -/
section
variable (k b : Nat → Nat) (m cnt : Nat)
theorem codN_wf (h : ∀ i, i < cnt → b i ≤ 1) : ∀ i, i ≤ cnt → i ≤ 16777216 → Wf (codN k b m i) ∧ (codN k b m i).n = i
  | 0, _, _ => ⟨newC_wf m, rfl⟩
  | i + 1, hi, h2 => by
    obtain ⟨g1, g2⟩ := codN_wf h i (by omega) (by omega)
    exact ⟨putM_wf g1 _ _ (by omega), by show (putM _ _ _).n = _; rw [(putM_n _ _ _).1, g2]⟩
theorem codN_stf (h : ∀ i, i < cnt → b i ≤ 1) : ∀ i, i ≤ cnt → i ≤ 16777216 → Stf (codN k b m i) (codN k b m i).a
  | 0, _, _ => stf_new m
  | i + 1, hi, h2 => stf_put (codN_stf h i (by omega) (by omega)) (codN_wf k b m cnt h i (by omega) (by omega)).1 _ _
theorem fut_run (h : ∀ i, i < cnt → b i ≤ 1) (hc : cnt ≤ 16777216) : ∀ d, d ≤ cnt → Fut (codeE (flushM (codN k b m cnt))) (codN k b m (cnt - d)) (codN k b m (cnt - d)).a
  | 0, _ => fut_flush (codN_wf k b m cnt h cnt (Nat.le_refl _) hc).1
  | d + 1, hd => by
    have h1 := fut_run h hc d (by omega)
    have e : cnt - d = (cnt - (d + 1)) + 1 := by omega
    rw [e] at h1
    exact fut_put (codN_wf k b m cnt h _ (by omega) (by omega)).1 h1
theorem decN_wfD {bytes : List Nat} (hb : ∀ x ∈ bytes, x < 256) : ∀ i, i ≤ 16777216 → WfD (decN k bytes m i) ∧ (decN k bytes m i).n = i
  | 0, _ => by
    have hnew : ∀ d : Dec, MidD d → d.a = 0x8000 → d.n = 0 → WfD { inD d with c := (inD d).c * 128 % M32, t := (inD d).t - 7 } ∧ ({ inD d with c := (inD d).c * 128 % M32, t := (inD d).t - 7 } : Dec).n = 0 := fun d hd ha hn => by
      obtain ⟨i1, i2, i3, i4, i5, i6⟩ := inD_mid hd
      have := i1.t8
      exact ⟨⟨⟨by show (inD d).t - 7 ≤ 8; omega, Nat.mod_lt _ (by decide), i1.b, i1.st, i1.i⟩, by show (inD d).n ≤ _; omega, by show _ ≤ (inD d).a; omega, by show (inD d).a < _; omega⟩, by show (inD d).n = 0; omega⟩
    refine hnew { a := 0x8000, c := bytes.getD 0 255 * 65536, t := 0, n := 0, st := List.replicate m 0, b := bytes, i := 0 } ⟨Nat.zero_le _, ?_, hb, fun x hx => by simp only [List.mem_replicate] at hx; omega, Nat.zero_le _⟩ rfl rfl
    have := byteD_lt (s := { a := 0, c := 0, t := 0, n := 0, st := [], b := bytes, i := 0 }) hb 0
    have e : byteD { a := 0, c := 0, t := 0, n := 0, st := [], b := bytes, i := 0 } 0 = bytes.getD 0 255 := rfl
    show bytes.getD 0 255 * 65536 < 4294967296
    omega
  | i + 1, h => by
    obtain ⟨g1, g2⟩ := decN_wfD hb i (by omega)
    refine ⟨getD_wf g1 _ (by omega), ?_⟩
    have hrn : ∀ (j : Nat) (s : Dec), (renewD j s).n = s.n := by
      have hi : ∀ s : Dec, (inD s).n = s.n := fun s => by unfold inD; split; rfl; split <;> rfl
      have hs : ∀ s : Dec, (shiftD s).n = s.n := fun s => by unfold shiftD; simp only []; split; exact hi s; rfl
      intro j
      induction j with
      | zero => intro s; rfl
      | succ j ih => intro s; unfold renewD; simp only []; split; exact hs s; exact (ih _).trans (hs s)
    show (getD (decN k bytes m i) (k i)).1.n = i + 1
    unfold getD
    simp only []
    split
    · split <;> (rw [hrn]; exact congrArg (· + 1) g2)
    · split
      · exact congrArg (· + 1) g2
      · split <;> (rw [hrn]; exact congrArg (· + 1) g2)
theorem back_run (h : ∀ i, i < cnt → b i ≤ 1) (hc : cnt ≤ 16777216) (hlt : ∀ x ∈ bytesM (flushM (codN k b m cnt)), x < 256) : ∀ i, i ≤ cnt →
    Sync (codeE (flushM (codN k b m cnt))) (codN k b m i) (decN k (bytesM (flushM (codN k b m cnt))) m i)
  | 0, _ => by
    have hE := (stf_flush (codN_stf k b m cnt h cnt (Nat.le_refl _) hc) (codN_wf k b m cnt h cnt (Nat.le_refl _) hc).1).stuffed
    have hF := fut_run k b m cnt h hc cnt (Nat.le_refl _)
    rw [Nat.sub_self] at hF
    exact sync_new hE bytes_code hlt hF
  | i + 1, hi => by
    have hE := (stf_flush (codN_stf k b m cnt h cnt (Nat.le_refl _) hc) (codN_wf k b m cnt h cnt (Nat.le_refl _) hc).1).stuffed
    have hF := fut_run k b m cnt h hc (cnt - (i + 1)) (by omega)
    rw [show cnt - (cnt - (i + 1)) = i + 1 by omega] at hF
    exact (sync_put hE (codN_wf k b m cnt h i (by omega) (by omega)).1 (decN_wfD k m hlt i (by omega)).1 (back_run h hc hlt i (by omega)) (h i (by omega)) hF).1
theorem back_bit (h : ∀ i, i < cnt → b i ≤ 1) (hc : cnt ≤ 16777216) (hlt : ∀ x ∈ bytesM (flushM (codN k b m cnt)), x < 256) {i : Nat} (hi : i < cnt) :
    (getD (decN k (bytesM (flushM (codN k b m cnt))) m i) (k i)).2 = b i := by
  have hE := (stf_flush (codN_stf k b m cnt h cnt (Nat.le_refl _) hc) (codN_wf k b m cnt h cnt (Nat.le_refl _) hc).1).stuffed
  have hF := fut_run k b m cnt h hc (cnt - (i + 1)) (by omega)
  rw [show cnt - (cnt - (i + 1)) = i + 1 by omega] at hF
  exact (sync_put hE (codN_wf k b m cnt h i (by omega) (by omega)).1 (decN_wfD k m hlt i (by omega)).1 (back_run k b m cnt h hc hlt i (by omega)) (h i hi) hF).2.1
end

end Go.Ar

/- RfL: refinement, plain law: what is coded is decoded as the same bitmap. -/
set_option linter.unusedVariables false
set_option linter.unusedSimpArgs false
namespace Go.Bm
open Go Go.Den Go.Den.Ytcicfilkdhhnmaa
open Go.Ar (Cod Dec codN decN newC newD idx bytesM flushM)

section
variable (G R : Int → Int → Bool) (W m : Nat) (dx dy base : Int)
def kf (i : Nat) : Nat := idx (base + ((ctxN G R dx dy ((i % W : Nat) : Int) ((i / W : Nat) : Int) : Nat) : Int)) m
def bf (i : Nat) : Nat := (G ((i % W : Nat) : Int) ((i / W : Nat) : Int)).toNat
theorem enc_run : ∀ k, runN W R dx dy (stepP m base) k (G, newC m) = .inl (G, codN (kf G R W m dx dy base) (bf G W) m k)
  | 0 => rfl
  | k + 1 => by
    unfold runN
    rw [enc_run k]
    simp only [stepP, upd_self]
    rfl
/-- What is decoded of it so far. -/
def partG (i : Nat) : Int → Int → Bool := fun x y => decide (0 ≤ x ∧ x < W ∧ 0 ≤ y ∧ y.toNat * W + x.toNat < i) && G x y
variable (hG : ∀ x y : Int, ¬ (0 ≤ x ∧ x < W ∧ 0 ≤ y) → G x y = false)
include hG
theorem partG_eq {i : Nat} {x y : Int} (h : 0 ≤ x → x < W → 0 ≤ y → y.toNat * W + x.toNat < i) : partG G W i x y = G x y := by
  unfold partG
  by_cases h1 : 0 ≤ x ∧ x < W ∧ 0 ≤ y
  · rw [decide_eq_true ⟨h1.1, h1.2.1, h1.2.2, h h1.1 h1.2.1 h1.2.2⟩, Bool.true_and]
  · rw [hG _ _ h1, Bool.and_false]
theorem part_ctx {x y : Nat} (hx : x < W) : ctxN (partG G W (y * W + x)) R dx dy x y = ctxN G R dx dy x y := by
  have up : ∀ a : Int, a ≤ x + 1 → partG G W (y * W + x) a ((y : Int) + -1) = G a ((y : Int) + -1) := fun a ha => partG_eq G W hG fun h1 h2 h3 => by
    obtain ⟨yy, rfl⟩ : ∃ yy, y = yy + 1 := ⟨y - 1, by omega⟩
    have e : (((yy + 1 : Nat) : Int) + -1).toNat = yy := by omega
    rw [e, Nat.add_mul, Nat.one_mul]
    omega
  have e1 := up ((x : Int) - 1) (by omega)
  have e2 := up (x : Int) (by omega)
  have e3 := up ((x : Int) + 1) (by omega)
  have e4 : partG G W (y * W + x) ((x : Int) - 1) ((y : Int) + 0) = G ((x : Int) - 1) ((y : Int) + 0) := partG_eq G W hG fun h1 h2 h3 => by
    have e : ((y : Int) + 0).toNat = y := by omega
    rw [e]
    omega
  unfold ctxN ownB
  rw [e1, e2, e3, e4]
theorem partG_next {x y : Nat} (hx : x < W) : upd (partG G W (y * W + x)) (x : Int) (y : Int) (G (x : Int) (y : Int)) = partG G W (y * W + x + 1) := by
  have _ := hG
  funext a b
  unfold upd
  by_cases h1 : a = x ∧ b = y
  · obtain ⟨rfl, rfl⟩ := h1
    rw [if_pos ⟨rfl, rfl⟩]
    unfold partG
    rw [decide_eq_true ⟨by omega, by omega, by omega, by simp⟩, Bool.true_and]
  · rw [if_neg h1]
    unfold partG
    congr 1
    rw [decide_eq_decide]
    constructor
    · rintro ⟨h2, h3, h4, h5⟩; exact ⟨h2, h3, h4, by omega⟩
    · rintro ⟨h2, h3, h4, h5⟩
      refine ⟨h2, h3, h4, ?_⟩
      rcases Nat.lt_or_ge (b.toNat * W + a.toNat) (y * W + x) with h6 | h6
      · exact h6
      · exfalso
        have h7 : b.toNat * W + a.toNat = y * W + x := by omega
        have := idx_inj (wd := W) (c := a.toNat) (c' := x) (y := b.toNat) (y' := y) (by omega) hx h7
        exact h1 ⟨by omega, by omega⟩
theorem dec_run {cnt : Nat} (hW : 1 ≤ W) (hc : cnt ≤ 16777216) (hlt : ∀ x ∈ bytesM (flushM (codN (kf G R W m dx dy base) (bf G W) m cnt)), x < 256) : ∀ i, i ≤ cnt →
    runN W R dx dy (stepG m base) i (fun _ _ => false, newD (bytesM (flushM (codN (kf G R W m dx dy base) (bf G W) m cnt))) m) = .inl (partG G W i, decN (kf G R W m dx dy base) (bytesM (flushM (codN (kf G R W m dx dy base) (bf G W) m cnt))) m i)
  | 0, _ => by
    have : partG G W 0 = fun _ _ => false := by
      funext x y
      unfold partG
      rw [decide_eq_false (by omega), Bool.false_and]
    rw [this]
    rfl
  | i + 1, hi => by
    have hb := Go.Ar.back_bit (kf G R W m dx dy base) (bf G W) m cnt (fun j _ => toNat_le _) hc hlt (i := i) (by omega)
    have hx : i % W < W := Nat.mod_lt _ (by omega)
    have hi2 : i / W * W + i % W = i := by rw [Nat.mul_comm]; exact Nat.div_add_mod i W
    have h1 := part_ctx G R W dx dy hG (x := i % W) (y := i / W) hx
    have h2 := partG_next G W hG (x := i % W) (y := i / W) hx
    rw [hi2] at h1 h2
    unfold runN
    rw [dec_run hW hc hlt i (by omega)]
    simp only [stepG]
    rw [h1]
    have hk : idx (base + ((ctxN G R dx dy ((i % W : Nat) : Int) ((i / W : Nat) : Int) : Nat) : Int)) m = kf G R W m dx dy base i := rfl
    rw [hk, hb]
    have hbit : decide (bf G W i = 1) = G ((i % W : Nat) : Int) ((i / W : Nat) : Int) := by
      unfold bf
      cases G ((i % W : Nat) : Int) ((i / W : Nat) : Int) <;> rfl
    rw [hbit, h2]
    rfl
end
end Go.Bm

/- BkE: the law ArithBack, said of memory. -/
set_option linter.unusedVariables false
set_option linter.unusedSimpArgs false
namespace Go.Ar
open Go Go.Den Go.Den.Ytcicfilkdhhnmaa

theorem eq_ok' {h : Heap} {a b : Option Addr} {ac bc nx ny : Nat} {xs ys : List Nat} (ex : xs.length = nx) (ey : ys.length = ny) (ha : rdO h a (nx * 1) (u8s xs)) (hb : rdO h b (ny * 1) (u8s ys)) (hlen : nx < 140737488351300)
    {K : Value → Heap → Prop} {Kp : List PanicEntry → Heap → Prop} (hk : K (.bool (decide (xs = ys))) h) : CP F_burinref0_Eq #[.slice a nx ac, .slice b ny bc] h K Kp := by
  subst ex ey
  exact eq_ok ha hb hlen hk
/-- The decisions that are kept. -/
def decs (C : Nat → Int) (b : Nat → Nat) : Nat → List Value
  | 0 => []
  | n + 1 => decs C b n ++ [.int .i64 (C n), .int .i64 (b n : Nat)]
theorem decs_length (C : Nat → Int) (b : Nat → Nat) : ∀ n, (decs C b n).length = n * 2
  | 0 => rfl
  | n + 1 => by rw [decs, List.length_append, decs_length C b n]; show n * 2 + 2 = _; omega
theorem decs_get (C : Nat → Int) (b : Nat → Nat) : ∀ {n i : Nat}, i < n → (decs C b n)[i * 2]? = some (.int .i64 (C i)) ∧ (decs C b n)[i * 2 + 1]? = some (.int .i64 (b i : Nat))
  | 0, i, h => by omega
  | n + 1, i, h => by
    rw [decs]
    have hl := decs_length C b n
    rcases Nat.lt_or_ge i n with h1 | h1
    · obtain ⟨g1, g2⟩ := decs_get C b h1
      exact ⟨get_app g1, get_app g2⟩
    · have : i = n := by omega
      subst this
      exact ⟨app_get (m := i * 2) hl 0 rfl, app_get (m := i * 2) hl 1 rfl⟩

/-- The rows of the states that are kept, and their slices. -/
structure Kept (m cnt : Nat) (st : Nat → List Nat) (vs : List Value) (R : List Ent) : Prop where
  row : ∀ j, j < cnt → ∃ b rest, (⟨b, true, T_uint8, u8s (st (j + 1)) ++ rest⟩ : Ent) ∈ R ∧ vs[j]? = some (.slice (some ⟨b, 0, none⟩) m (m + rest.length))
  w : R.all Ent.w = true

end Go.Ar

/- RfM: what refine.Encode answers, refine.Decode answers with the same bitmap. -/
set_option linter.unusedVariables false
set_option linter.unusedSimpArgs false
namespace Go.Bm
open Go Go.Den Go.Den.Ytcicfilkdhhnmaa
open Go.Ar (Cod Dec codN decN newC newD idx bytesM flushM)

theorem getP_out (ws : List Nat) (W X : Nat) (x y : Int) (h : ¬ (0 ≤ x ∧ x < W ∧ 0 ≤ y)) : getP ws W X x y = false := by
  unfold getP
  rw [decide_eq_false (by omega), Bool.false_and]
theorem getP_ext {W X : Nat} {a b : List Nat} (ha : a.length = X * wds W) (hb : b.length = X * wds W) (wa : W64 a) (wb : W64 b) (za : PadZ W X a) (zb : PadZ W X b) (h : getP a W X = getP b W X) : a = b := by
  refine pix_ext ha hb wa wb fun y hy x hx => ?_
  rcases Nat.lt_or_ge x W with h1 | h1
  · have := congrFun (congrFun h (x : Int)) (y : Int)
    unfold getP at this
    rw [decide_eq_true (by omega), Bool.true_and, Bool.true_and, Int.toNat_natCast, Int.toNat_natCast] at this
    exact this
  · rw [za y hy x h1 hx, zb y hy x h1 hx]
theorem part_all (ws : List Nat) (W X : Nat) : partG (getP ws W X) W (X * W) = getP ws W X := by
  funext x y
  unfold partG
  by_cases h : 0 ≤ x ∧ 0 ≤ y ∧ x < W ∧ y < X
  · have h2 : y.toNat * W + x.toNat < X * W := by
      have : (y.toNat + 1) * W ≤ X * W := Nat.mul_le_mul_right _ (by omega)
      rw [Nat.add_mul, Nat.one_mul] at this
      omega
    rw [decide_eq_true ⟨h.1, h.2.2.1, h.2.1, h2⟩, Bool.true_and]
  · unfold getP
    rw [decide_eq_false h, Bool.false_and, Bool.and_false]
theorem rf_back {W X : Nat} {w2 b2 : Int} {ws ws2 : List Nat} {dx dy e e' w' b' : Int} {bs bs' : List Nat} {s' : Dec} (hm : MayP (W : Int) (X : Int) ws) (hw : W64 ws) (hm2 : MayP w2 b2 ws2) (hsh : ShiftP dx dy)
    (henc : EncR (W : Int) (X : Int) w2 b2 ws ws2 dx dy e bs) (hget : GetR bs 8192 0 0 (W : Int) (X : Int) w2 b2 ws2 dx dy (newD bs 8192) e' w' b' bs' s') : e = 0 ∧ e' = 0 ∧ w' = (W : Int) ∧ b' = (X : Int) ∧ bs' = ws := by
  have hpx := may_px hm
  simp only [Int.toNat_natCast, Nat.zero_add] at hpx
  obtain ⟨W', X', e1, e2, hW1, hW2, hX1, hX2, hWX⟩ := size_nat hm.1
  obtain rfl : W = W' := by omega
  rcases henc with ⟨a, _⟩ | ⟨_, a, _⟩ | ⟨_, _, rfl, Gz, sz, hrun, hok, rfl⟩
  · exact absurd ⟨hm, hm2⟩ a
  · exact absurd hsh a
  rcases hget with ⟨a, _⟩ | ⟨_, a, _⟩ | ⟨_, _, a, _⟩ | ⟨_, _, _, a, _⟩ | ⟨_, _, _, _, rfl, rfl, rfl, hrun2, hlen, hww, hz, _⟩
  · exact absurd hm2 a
  · exact absurd hm.1 a
  · exact absurd hsh a
  · exact absurd ⟨by omega, by omega⟩ a
  refine ⟨rfl, rfl, rfl, rfl, ?_⟩
  simp only [Int.toNat_natCast] at hrun hrun2 hlen hz
  rw [enc_run] at hrun
  injection hrun with hrun
  injection hrun with _ hrun
  subst hrun
  have hlt := Go.Ar.flushM_lt hok.wf
  rw [dec_run (getP ws W X) (getP ws2 w2.toNat b2.toNat) W 8192 dx dy 0 (getP_out ws W X) hW1 hpx hlt _ (Nat.le_refl _), part_all] at hrun2
  injection hrun2 with hrun2
  injection hrun2 with hrun2 _
  exact getP_ext hlen (may_len hm) hww hw hz (fun y hy x h1 h2 => pix_of_may hm hy h1 h2) hrun2.symm

end Go.Bm

/- Written by gen.py: the conditions of the functions of law8x. -/
set_option linter.unusedVariables false
set_option linter.unusedSimpArgs false
namespace Go.Den.Ytcicfilkdhhnmaa
open Go Go.Den

/- burin/burinlaw8.light -/
set_option maxRecDepth 100000 in
def burinlaw8_light (C : CallP) (b_1 : Int) (b_2 : Int) (b_3 : Option Addr) (b_3n : Nat) (b_3c : Nat) (h : Heap) (K : Value → Heap → Prop) (Kp : List PanicEntry → Heap → Prop) : Prop :=
newC h [.int .i64 b_1, .int .i64 b_2, .slice b_3 b_3n b_3c] T_api_Bitmap fun r_4 h_5 =>
ldS h_5 ((⟨r_4, 0, none⟩ : Addr).add 2) fun x_6 x_6n x_6c =>
bcase (decide ((x_6n : Int) ≤ (1000 : Int))) (
ldI h_5 ((⟨r_4, 0, none⟩ : Addr).add 0) .i64 fun x_7 =>
ldI h_5 ((⟨r_4, 0, none⟩ : Addr).add 1) .i64 fun x_8 =>
ldS h_5 ((⟨r_4, 0, none⟩ : Addr).add 2) fun x_9 x_9n x_9c =>
C F_burinref0_May #[.agg #[.int .i64 x_7, .int .i64 x_8, .slice x_9 x_9n x_9c]] h_5 (fun v_10 h_11 =>
∃ (r_12 : Bool), v_10 = .bool r_12 ∧ (
bcase (!r_12) (
K (.bool true) h_11) <|
ldI h_11 ((⟨r_4, 0, none⟩ : Addr).add 0) .i64 fun x_13 =>
ldI h_11 ((⟨r_4, 0, none⟩ : Addr).add 1) .i64 fun x_14 =>
bindI (IntKind.i64.wrap (x_13 * x_14)) fun z_15 =>
K (.bool (decide (z_15 ≤ (4000 : Int)))) h_11)) (Kp)) <|
K (.bool false) h_5

/- burin/burinlaw8.wakes -/
set_option maxRecDepth 100000 in
def burinlaw8_wakes (C : CallP)  (h : Heap) (K : Value → Heap → Prop) (Kp : List PanicEntry → Heap → Prop) : Prop :=
newC h [.int .u64 4611686018427387904] T_uint64 fun r_1 h_2 =>
newC h_2 [.int .i64 0, .int .i64 0, .slice none 0 0] T_api_Bitmap fun r_3 h_4 =>
stV h_4 ((⟨r_3, 0, none⟩ : Addr).add 0) (.int .i64 3) fun h_5 =>
stV h_5 ((⟨r_3, 0, none⟩ : Addr).add 1) (.int .i64 1) fun h_6 =>
stV h_6 ((⟨r_3, 0, none⟩ : Addr).add 2) (.slice (some ⟨r_1, 0, none⟩) 1 1) fun h_7 =>
newC h_7 [.int .u64 6917529027641081856] T_uint64 fun r_8 h_9 =>
newC h_9 [.int .i64 0, .int .i64 0, .slice none 0 0] T_api_Bitmap fun r_10 h_11 =>
stV h_11 ((⟨r_10, 0, none⟩ : Addr).add 0) (.int .i64 3) fun h_12 =>
stV h_12 ((⟨r_10, 0, none⟩ : Addr).add 1) (.int .i64 1) fun h_13 =>
stV h_13 ((⟨r_10, 0, none⟩ : Addr).add 2) (.slice (some ⟨r_8, 0, none⟩) 1 1) fun h_14 =>
ldI h_14 ((⟨r_3, 0, none⟩ : Addr).add 0) .i64 fun x_15 =>
ldI h_14 ((⟨r_3, 0, none⟩ : Addr).add 1) .i64 fun x_16 =>
ldS h_14 ((⟨r_3, 0, none⟩ : Addr).add 2) fun x_17 x_17n x_17c =>
ldI h_14 ((⟨r_10, 0, none⟩ : Addr).add 0) .i64 fun x_18 =>
ldI h_14 ((⟨r_10, 0, none⟩ : Addr).add 1) .i64 fun x_19 =>
ldS h_14 ((⟨r_10, 0, none⟩ : Addr).add 2) fun x_20 x_20n x_20c =>
C F_refine_Encode #[.agg #[.int .i64 x_15, .int .i64 x_16, .slice x_17 x_17n x_17c], .agg #[.int .i64 x_18, .int .i64 x_19, .slice x_20 x_20n x_20c], .int .i64 0, .int .i64 0] h_14 (fun v_21 h_22 =>
∃ (r_23 : Option Addr) (r_23n : Nat) (r_23c : Nat), ∃ (r_24 : Int), v_21 = .tuple #[.slice r_23 r_23n r_23c, .int .i64 r_24] ∧ (
ldI h_22 ((⟨r_10, 0, none⟩ : Addr).add 0) .i64 fun x_25 =>
ldI h_22 ((⟨r_10, 0, none⟩ : Addr).add 1) .i64 fun x_26 =>
ldS h_22 ((⟨r_10, 0, none⟩ : Addr).add 2) fun x_27 x_27n x_27c =>
C F_refine_Decode #[.slice r_23 r_23n r_23c, .int .i64 3, .int .i64 1, .agg #[.int .i64 x_25, .int .i64 x_26, .slice x_27 x_27n x_27c], .int .i64 0, .int .i64 0] h_22 (fun v_28 h_29 =>
∃ (r_30 : Int) (r_31 : Int) (r_32 : Option Addr) (r_32n : Nat) (r_32c : Nat), ∃ (r_33 : Int), v_28 = .tuple #[.agg #[.int .i64 r_30, .int .i64 r_31, .slice r_32 r_32n r_32c], .int .i64 r_33] ∧ (
newC h_29 [.int .i64 0, .int .i64 0, .slice none 0 0] T_api_Bitmap fun r_34 h_35 =>
stV h_35 ((⟨r_34, 0, none⟩ : Addr).add 0) (.int .i64 r_30) fun h_36 =>
stV h_36 ((⟨r_34, 0, none⟩ : Addr).add 1) (.int .i64 r_31) fun h_37 =>
stV h_37 ((⟨r_34, 0, none⟩ : Addr).add 2) (.slice r_32 r_32n r_32c) fun h_38 =>
bcase (r_24 == (0 : Int)) (
bcase (r_33 == (0 : Int)) (
bcase (decide ((r_23n : Int) > (0 : Int))) (
ldI h_38 ((⟨r_3, 0, none⟩ : Addr).add 0) .i64 fun x_39 =>
ldI h_38 ((⟨r_3, 0, none⟩ : Addr).add 1) .i64 fun x_40 =>
ldS h_38 ((⟨r_3, 0, none⟩ : Addr).add 2) fun x_41 x_41n x_41c =>
ldI h_38 ((⟨r_34, 0, none⟩ : Addr).add 0) .i64 fun x_42 =>
ldI h_38 ((⟨r_34, 0, none⟩ : Addr).add 1) .i64 fun x_43 =>
ldS h_38 ((⟨r_34, 0, none⟩ : Addr).add 2) fun x_44 x_44n x_44c =>
C F_burinref0_EqBitmap #[.agg #[.int .i64 x_39, .int .i64 x_40, .slice x_41 x_41n x_41c], .agg #[.int .i64 x_42, .int .i64 x_43, .slice x_44 x_44n x_44c]] h_38 (fun v_45 h_46 =>
∃ (r_47 : Bool), v_45 = .bool r_47 ∧ (
K (.bool r_47) h_46)) (Kp)) <|
K (.bool false) h_38) <|
K (.bool false) h_38) <|
K (.bool false) h_38)) (Kp))) (Kp)

end Go.Den.Ytcicfilkdhhnmaa

/- Written by gen.py: each condition of the functions of law8x is the one of its body; so it is enough for its call. -/
set_option linter.unusedVariables false
set_option linter.unusedSimpArgs false
namespace Go.Den.Ytcicfilkdhhnmaa
open Go Go.Den

noncomputable def hints_burinlaw8_light : Hints := Hints.mk (fun i => none)
  (fun i => none)
  (fun i => none) []
set_option maxRecDepth 100000 in
theorem eq_burinlaw8_light (C : CallP) (b_1 : Int) (b_2 : Int) (b_3 : Option Addr) (b_3n : Nat) (b_3c : Nat) (h : Heap) (K : Value → Heap → Prop) (Kp : List PanicEntry → Heap → Prop) :
    fnD Go.Proofs.Try.prog C hints_burinlaw8_light Go.Proofs.Try.f25 [.agg #[.int .i64 b_1, .int .i64 b_2, .slice b_3 b_3n b_3c]] h K Kp = burinlaw8_light C b_1 b_2 b_3 b_3n b_3c h K Kp := by kernel_rfl

theorem call_burinlaw8_light {b_1 : Int} {b_2 : Int} {b_3 : Option Addr} {b_3n : Nat} {b_3c : Nat} {h : Heap} {K : Value → Heap → Prop} {Kp : List PanicEntry → Heap → Prop} (H : burinlaw8_light (CallsHP Go.Proofs.Try.prog) b_1 b_2 b_3 b_3n b_3c h K Kp) : CallsHP Go.Proofs.Try.prog F_burinlaw8_light #[.agg #[.int .i64 b_1, .int .i64 b_2, .slice b_3 b_3n b_3c]] h K Kp :=
  callsHP_of hints_burinlaw8_light (by kernel_rfl) Go.Proofs.Try.func25 (by kernel_rfl) (by rw [eq_burinlaw8_light]; exact H)

noncomputable def hints_burinlaw8_wakes : Hints := Hints.mk (fun i => none)
  (fun i => none)
  (fun i => none) []
set_option maxRecDepth 100000 in
theorem eq_burinlaw8_wakes (C : CallP)  (h : Heap) (K : Value → Heap → Prop) (Kp : List PanicEntry → Heap → Prop) :
    fnD Go.Proofs.Try.prog C hints_burinlaw8_wakes Go.Proofs.Try.f30 [] h K Kp = burinlaw8_wakes C  h K Kp := by kernel_rfl

theorem call_burinlaw8_wakes  {h : Heap} {K : Value → Heap → Prop} {Kp : List PanicEntry → Heap → Prop} (H : burinlaw8_wakes (CallsHP Go.Proofs.Try.prog)  h K Kp) : CallsHP Go.Proofs.Try.prog F_burinlaw8_wakes #[] h K Kp :=
  callsHP_of hints_burinlaw8_wakes (by kernel_rfl) Go.Proofs.Try.func30 (by kernel_rfl) (by rw [eq_burinlaw8_wakes]; exact H)

end Go.Den.Ytcicfilkdhhnmaa

/- RfN: burinlaw8.wakes. -/
set_option linter.unusedVariables false
set_option linter.unusedSimpArgs false
namespace Go.Bm
open Go Go.Den Go.Den.Ytcicfilkdhhnmaa
open Go.Ar (Cod Dec codN decN newC newD idx bytesM flushM)

theorem EncR.bytes {w b w2 b2 : Int} {ws ws2 : List Nat} {dx dy e : Int} {bs : List Nat} (h : EncR w b w2 b2 ws ws2 dx dy e bs) : (∀ x ∈ bs, x < 256) ∧ bs.length < 140737488351300 := by
  rcases h with ⟨_, _, rfl⟩ | ⟨_, _, _, rfl⟩ | ⟨_, _, _, G, s', _, hok, rfl⟩
  · exact ⟨(fun x hx => by cases hx), by decide⟩
  · exact ⟨(fun x hx => by cases hx), by decide⟩
  · refine ⟨Go.Ar.flushM_lt hok.wf, ?_⟩
    have h1 := Go.Ar.flushM_len s'
    have h2 := hok.wf.len
    have h3 := hok.wf.n
    omega
theorem wakes8_len : Nat.blt 0 (bytesM (flushM (codN (kf (getP [4611686018427387904] 3 1) (getP [6917529027641081856] 3 1) 3 8192 0 0 0) (bf (getP [4611686018427387904] 3 1) 3) 8192 3))).length = true := by kernel_rfl

set_option maxRecDepth 100000 in
theorem wakes8_ok {hB : Heap} {K : Value → Heap → Prop} {Kp : List PanicEntry → Heap → Prop} (hk : ∀ h', hext hB h' → K (.bool true) h') : CP F_burinlaw8_wakes #[] hB K Kp := by
  refine call_burinlaw8_wakes ?_
  unfold burinlaw8_wakes
  have H := Hp.nil hB []
  refine newC_hp H fun r1 h H => ?_
  refine newC_hp H fun r3 h H => ?_
  rw [add_mk, add_mk, add_mk]
  refine stV_hp H 1 rfl (Nat.le_of_ble_eq_true rfl) rfl fun h hs2 H => ?_
  refine stV_hp H 1 rfl (Nat.le_of_ble_eq_true rfl) rfl fun h hs2 H => ?_
  refine stV_hp H 1 rfl (Nat.le_of_ble_eq_true rfl) rfl fun h hs2 H => ?_
  refine newC_hp H fun r8 h H => ?_
  refine newC_hp H fun r10 h H => ?_
  rw [add_mk, add_mk, add_mk]
  refine stV_hp H 3 rfl (Nat.le_of_ble_eq_true rfl) rfl fun h hs2 H => ?_
  refine stV_hp H 3 rfl (Nat.le_of_ble_eq_true rfl) rfl fun h hs2 H => ?_
  refine stV_hp H 3 rfl (Nat.le_of_ble_eq_true rfl) rfl fun h hs2 H => ?_
  have H : Hp hB [] h [⟨r1, true, T_uint64, u64s [4611686018427387904] ++ []⟩, ⟨r3, true, T_api_Bitmap, [.int .i64 3, .int .i64 1, .slice (some ⟨r1, 0, none⟩) 1 1]⟩, ⟨r8, true, T_uint64, u64s [6917529027641081856] ++ []⟩, ⟨r10, true, T_api_Bitmap, [.int .i64 3, .int .i64 1, .slice (some ⟨r8, 0, none⟩) 1 1]⟩] := H
  refine ldI_of (Hp.cellA H 1 rfl (i := 0) rfl) ?_
  refine ldI_of (Hp.cellA H 1 rfl (i := 1) rfl) ?_
  refine ldS_of (Hp.cellA H 1 rfl (i := 2) rfl) ?_
  refine ldI_of (Hp.cellA H 3 rfl (i := 0) rfl) ?_
  refine ldI_of (Hp.cellA H 3 rfl (i := 1) rfl) ?_
  refine ldS_of (Hp.cellA H 3 rfl (i := 2) rfl) ?_
  refine rfEnc_ok (ws := [4611686018427387904]) (ws2 := [6917529027641081856]) (row_rdO H 0 rfl) (fun v hv => by simp at hv; rw [hv]; decide) (by decide) (row_rdO H 2 rfl) (fun v hv => by simp at hv; rw [hv]; decide) (by decide) fun e bs D qo c h' henc hsl H' => ?_
  replace H := H.join H' hsl.w
  clear H'
  refine ⟨_, _, _, _, rfl, ?_⟩
  refine ldI_of (Hp.cellA H 3 rfl (i := 0) rfl) ?_
  refine ldI_of (Hp.cellA H 3 rfl (i := 1) rfl) ?_
  refine ldS_of (Hp.cellA H 3 rfl (i := 2) rfl) ?_
  refine rfDec_ok (bytes := bs) henc.bytes.1 henc.bytes.2 (Slot.rdO' hsl H fun e he => List.mem_append_right _ he) (ws2 := [6917529027641081856]) (row_rdO H 2 rfl) (fun v hv => by simp at hv; rw [hv]; decide) (by decide) fun e' w' b' bs' s' D2 qo2 c2 h' hget hsl2 H' => ?_
  replace H := H.join H' hsl2.w
  clear H'
  have hm1 : MayP ((3 : Nat) : Int) ((1 : Nat) : Int) [4611686018427387904] := ⟨by unfold SizeP; omega, by decide, fun y hy => by simp at hy; subst hy; decide⟩
  have hm2 : MayP 3 1 [6917529027641081856] := ⟨by unfold SizeP; omega, by decide, fun y hy => by simp at hy; subst hy; decide⟩
  have hpos : 0 < bs.length := by
    rcases henc with ⟨a, _⟩ | ⟨_, a, _⟩ | ⟨_, _, _, Gz, sz, hrun, hok, rfl⟩
    · exact absurd ⟨hm1, hm2⟩ a
    · exact absurd ⟨⟨by omega, by omega⟩, by omega, by omega⟩ a
    · have hrun : runN 3 (getP [6917529027641081856] 3 1) 0 0 (stepP 8192 0) 3 (getP [4611686018427387904] 3 1, newC 8192) = .inl (Gz, sz) := hrun
      rw [enc_run] at hrun
      injection hrun with hrun
      injection hrun with _ hrun
      subst hrun
      exact Nat.le_of_ble_eq_true wakes8_len
  obtain ⟨rfl, rfl, rfl, rfl, rfl⟩ := rf_back (W := 3) (X := 1) hm1 (fun v hv => by simp at hv; rw [hv]; decide) hm2 ⟨⟨by omega, by omega⟩, by omega, by omega⟩ henc hget
  refine ⟨_, _, _, _, _, _, rfl, ?_⟩
  refine newC_hp H fun r34 h H => ?_
  have H := H.rot
  rw [add_mk, add_mk, add_mk]
  refine stV_hp H 0 rfl (Nat.le_of_ble_eq_true rfl) rfl fun h hs2 H => ?_
  refine stV_hp H 0 rfl (Nat.le_of_ble_eq_true rfl) rfl fun h hs2 H => ?_
  refine stV_hp H 0 rfl (Nat.le_of_ble_eq_true rfl) rfl fun h hs2 H => ?_
  have H : Hp hB [] h ([⟨r34, true, T_api_Bitmap, [.int .i64 3, .int .i64 1, .slice qo2 1 c2]⟩] ++ ([⟨r1, true, T_uint64, u64s [4611686018427387904] ++ []⟩, ⟨r3, true, T_api_Bitmap, [.int .i64 3, .int .i64 1, .slice (some ⟨r1, 0, none⟩) 1 1]⟩, ⟨r8, true, T_uint64, u64s [6917529027641081856] ++ []⟩, ⟨r10, true, T_api_Bitmap, [.int .i64 3, .int .i64 1, .slice (some ⟨r8, 0, none⟩) 1 1]⟩] ++ D ++ D2)) := H
  refine bcase_true (by rfl) ?_
  refine bcase_true (by rfl) ?_
  refine bcase_dec (fun h1 => ?_) fun h1 => absurd (by omega) h1
  refine ldI_of (Hp.cellA H 2 rfl (i := 0) rfl) ?_
  refine ldI_of (Hp.cellA H 2 rfl (i := 1) rfl) ?_
  refine ldS_of (Hp.cellA H 2 rfl (i := 2) rfl) ?_
  refine ldI_of (H.cell 0 rfl (i := 0) rfl) ?_
  refine ldI_of (H.cell 0 rfl (i := 1) rfl) ?_
  refine ldS_of (H.cell 0 rfl (i := 2) rfl) ?_
  refine eqB_ok (xs := [4611686018427387904]) (ys := [4611686018427387904]) (row_rdO H 1 rfl) (Slot.rdO' hsl2 H fun e he => List.mem_append_right _ (List.mem_append_right _ he)) (by decide) fun h' e => ?_
  refine ⟨_, rfl, ?_⟩
  have := hk h' (H.hext.trans e)
  simpa using this
end Go.Bm

/- RfO: burinlaw8.light. -/
set_option linter.unusedVariables false
set_option linter.unusedSimpArgs false
namespace Go.Bm
open Go Go.Den Go.Den.Ytcicfilkdhhnmaa

theorem light_ok {hB : Heap} {w b : Int} {q : Option Addr} {c : Nat} {ws : List Nat} (hr : rdO hB q (ws.length * 1) (u64s ws)) (hw : W64 ws) (hl : ws.length < 140737488351300) {K : Value → Heap → Prop} {Kp : List PanicEntry → Heap → Prop}
    (hk : ∀ (bb : Bool) h', (bb = true → ws.length ≤ 1000 ∧ (MayP w b ws → w * b ≤ 4000)) → hext hB h' → K (.bool bb) h') : CP F_burinlaw8_light #[.agg #[.int .i64 w, .int .i64 b, .slice q ws.length c]] hB K Kp := by
  refine call_burinlaw8_light ?_
  unfold burinlaw8_light
  have H := Hp.nil hB []
  refine newC_hp H fun r h H => ?_
  refine ldS_of (Hp.cellA H 0 rfl (i := 2) rfl) ?_
  refine bcase_dec (fun h1 => ?_) fun h1 => hk false _ (fun h => by cases h) H.hext
  refine ldI_of (Hp.cellA H 0 rfl (i := 0) rfl) ?_
  refine ldI_of (Hp.cellA H 0 rfl (i := 1) rfl) ?_
  refine ldS_of (Hp.cellA H 0 rfl (i := 2) rfl) ?_
  refine may_ok (H.rdO hr) hw hl fun bm h2 hbm e2 => ?_
  have H := H.ext e2
  refine ⟨_, rfl, ?_⟩
  refine bcase_not (fun h3 => ?_) fun h3 => ?_
  · exact hk true _ (fun _ => ⟨by omega, fun hm => by rw [hbm.2 hm] at h3; cases h3⟩) H.hext
  · have hm := hbm.1 h3
    obtain ⟨W, X, rfl, rfl, hW1, hW2, hX1, hX2, hWX⟩ := size_nat hm.1
    refine ldI_of (Hp.cellA H 0 rfl (i := 0) rfl) ?_
    refine ldI_of (Hp.cellA H 0 rfl (i := 1) rfl) ?_
    refine bindI_of (((W * X : Nat) : Int)) (by exact i64_at _ _ mul_cast (by omega) (by omega)) ?_
    exact hk _ _ (fun h => ⟨by omega, fun _ => by rw [mul_cast]; exact of_decide_eq_true h⟩) H.hext
end Go.Bm

/- Written by gen.py: the conditions of the functions of law8RefineEncodes. -/
set_option linter.unusedVariables false
set_option linter.unusedSimpArgs false
namespace Go.Den.Ytcicfilkdhhnmaa
open Go Go.Den

/- burin/burinlaw8.RefineEncodes -/
set_option maxRecDepth 100000 in
def burinlaw8_RefineEncodes (C : CallP) (a0 : Option Addr) (a0n : Nat) (a0c : Nat) (h : Heap) (K : Value → Heap → Prop) (Kp : List PanicEntry → Heap → Prop) : Prop :=
∃ J_1 : Nat → List Value → Heap → Prop, (∃ n_3, J_1 n_3 [.int .i64 0] h) ∧ ∀ (n_3 : Nat) (h_4 : Heap) (u_5 : Nat → Value) (x_6 : Int), J_1 n_3 [.int .i64 x_6] h_4 → (
bcase (decide (x_6 < (a0n : Int))) (
bcase (decide (x_6 < (6 : Int))) (
needs (0 ≤ x_6 ∧ x_6 < (a0n : Int)) <|
ptr a0 fun a_7 =>
ldI h_4 (((a_7.add (x_6.toNat * 8)).add 0).add 0) .i64 fun x_8 =>
ldI h_4 (((a_7.add (x_6.toNat * 8)).add 0).add 1) .i64 fun x_9 =>
ldS h_4 (((a_7.add (x_6.toNat * 8)).add 0).add 2) fun x_10 x_10n x_10c =>
C F_burinlaw8_light #[.agg #[.int .i64 x_8, .int .i64 x_9, .slice x_10 x_10n x_10c]] h_4 (fun v_11 h_12 =>
∃ (r_13 : Bool), v_11 = .bool r_13 ∧ (
bcase (!r_13) (
bindI (IntKind.i64.wrap (x_6 + (1 : Int))) fun z_14 =>
∃ m_2, m_2 < n_3 ∧ J_1 m_2 [.int .i64 z_14] h_12) <|
needs (0 ≤ x_6 ∧ x_6 < (a0n : Int)) <|
ptr a0 fun a_15 =>
ldI h_12 (((a_15.add (x_6.toNat * 8)).add 3).add 0) .i64 fun x_16 =>
ldI h_12 (((a_15.add (x_6.toNat * 8)).add 3).add 1) .i64 fun x_17 =>
ldS h_12 (((a_15.add (x_6.toNat * 8)).add 3).add 2) fun x_18 x_18n x_18c =>
C F_burinlaw8_light #[.agg #[.int .i64 x_16, .int .i64 x_17, .slice x_18 x_18n x_18c]] h_12 (fun v_19 h_20 =>
∃ (r_21 : Bool), v_19 = .bool r_21 ∧ (
bcase (!r_21) (
bindI (IntKind.i64.wrap (x_6 + (1 : Int))) fun z_22 =>
∃ m_2, m_2 < n_3 ∧ J_1 m_2 [.int .i64 z_22] h_20) <|
needs (0 ≤ x_6 ∧ x_6 < (a0n : Int)) <|
ptr a0 fun a_23 =>
ldI h_20 (((a_23.add (x_6.toNat * 8)).add 0).add 0) .i64 fun x_24 =>
ldI h_20 (((a_23.add (x_6.toNat * 8)).add 0).add 1) .i64 fun x_25 =>
ldS h_20 (((a_23.add (x_6.toNat * 8)).add 0).add 2) fun x_26 x_26n x_26c =>
C F_burinkit_LendBitmap #[.agg #[.int .i64 x_24, .int .i64 x_25, .slice x_26 x_26n x_26c]] h_20 (fun v_27 h_28 =>
∃ (r_29 : Int) (r_30 : Int) (r_31 : Option Addr) (r_31n : Nat) (r_31c : Nat), v_27 = .agg #[.int .i64 r_29, .int .i64 r_30, .slice r_31 r_31n r_31c] ∧ (
newC h_28 [.int .i64 0, .int .i64 0, .slice none 0 0] T_api_Bitmap fun r_32 h_33 =>
stV h_33 ((⟨r_32, 0, none⟩ : Addr).add 0) (.int .i64 r_29) fun h_34 =>
stV h_34 ((⟨r_32, 0, none⟩ : Addr).add 1) (.int .i64 r_30) fun h_35 =>
stV h_35 ((⟨r_32, 0, none⟩ : Addr).add 2) (.slice r_31 r_31n r_31c) fun h_36 =>
needs (0 ≤ x_6 ∧ x_6 < (a0n : Int)) <|
ptr a0 fun a_37 =>
ldI h_36 (((a_37.add (x_6.toNat * 8)).add 3).add 0) .i64 fun x_38 =>
ldI h_36 (((a_37.add (x_6.toNat * 8)).add 3).add 1) .i64 fun x_39 =>
ldS h_36 (((a_37.add (x_6.toNat * 8)).add 3).add 2) fun x_40 x_40n x_40c =>
C F_burinkit_LendBitmap #[.agg #[.int .i64 x_38, .int .i64 x_39, .slice x_40 x_40n x_40c]] h_36 (fun v_41 h_42 =>
∃ (r_43 : Int) (r_44 : Int) (r_45 : Option Addr) (r_45n : Nat) (r_45c : Nat), v_41 = .agg #[.int .i64 r_43, .int .i64 r_44, .slice r_45 r_45n r_45c] ∧ (
newC h_42 [.int .i64 0, .int .i64 0, .slice none 0 0] T_api_Bitmap fun r_46 h_47 =>
stV h_47 ((⟨r_46, 0, none⟩ : Addr).add 0) (.int .i64 r_43) fun h_48 =>
stV h_48 ((⟨r_46, 0, none⟩ : Addr).add 1) (.int .i64 r_44) fun h_49 =>
stV h_49 ((⟨r_46, 0, none⟩ : Addr).add 2) (.slice r_45 r_45n r_45c) fun h_50 =>
needs (0 ≤ x_6 ∧ x_6 < (a0n : Int)) <|
ptr a0 fun a_51 =>
needs (0 ≤ x_6 ∧ x_6 < (a0n : Int)) <|
ptr a0 fun a_52 =>
ldI h_50 ((⟨r_32, 0, none⟩ : Addr).add 0) .i64 fun x_53 =>
ldI h_50 ((⟨r_32, 0, none⟩ : Addr).add 1) .i64 fun x_54 =>
ldS h_50 ((⟨r_32, 0, none⟩ : Addr).add 2) fun x_55 x_55n x_55c =>
ldI h_50 ((⟨r_46, 0, none⟩ : Addr).add 0) .i64 fun x_56 =>
ldI h_50 ((⟨r_46, 0, none⟩ : Addr).add 1) .i64 fun x_57 =>
ldS h_50 ((⟨r_46, 0, none⟩ : Addr).add 2) fun x_58 x_58n x_58c =>
ldI h_50 ((a_51.add (x_6.toNat * 8)).add 6) .i64 fun x_59 =>
ldI h_50 ((a_52.add (x_6.toNat * 8)).add 7) .i64 fun x_60 =>
C F_refine_Encode #[.agg #[.int .i64 x_53, .int .i64 x_54, .slice x_55 x_55n x_55c], .agg #[.int .i64 x_56, .int .i64 x_57, .slice x_58 x_58n x_58c], .int .i64 x_59, .int .i64 x_60] h_50 (fun v_61 h_62 =>
∃ (r_63 : Option Addr) (r_63n : Nat) (r_63c : Nat), ∃ (r_64 : Int), v_61 = .tuple #[.slice r_63 r_63n r_63c, .int .i64 r_64] ∧ (
needs (0 ≤ x_6 ∧ x_6 < (a0n : Int)) <|
ptr a0 fun a_65 =>
needs (0 ≤ x_6 ∧ x_6 < (a0n : Int)) <|
ptr a0 fun a_66 =>
needs (0 ≤ x_6 ∧ x_6 < (a0n : Int)) <|
ptr a0 fun a_67 =>
needs (0 ≤ x_6 ∧ x_6 < (a0n : Int)) <|
ptr a0 fun a_68 =>
ldI h_62 (((a_65.add (x_6.toNat * 8)).add 0).add 0) .i64 fun x_69 =>
ldI h_62 (((a_65.add (x_6.toNat * 8)).add 0).add 1) .i64 fun x_70 =>
ldS h_62 (((a_65.add (x_6.toNat * 8)).add 0).add 2) fun x_71 x_71n x_71c =>
ldI h_62 (((a_66.add (x_6.toNat * 8)).add 3).add 0) .i64 fun x_72 =>
ldI h_62 (((a_66.add (x_6.toNat * 8)).add 3).add 1) .i64 fun x_73 =>
ldS h_62 (((a_66.add (x_6.toNat * 8)).add 3).add 2) fun x_74 x_74n x_74c =>
ldI h_62 ((a_67.add (x_6.toNat * 8)).add 6) .i64 fun x_75 =>
ldI h_62 ((a_68.add (x_6.toNat * 8)).add 7) .i64 fun x_76 =>
C F_burinref8_Encode #[.agg #[.int .i64 x_69, .int .i64 x_70, .slice x_71 x_71n x_71c], .agg #[.int .i64 x_72, .int .i64 x_73, .slice x_74 x_74n x_74c], .int .i64 x_75, .int .i64 x_76] h_62 (fun v_77 h_78 =>
∃ (r_79 : Option Addr) (r_79n : Nat) (r_79c : Nat), ∃ (r_80 : Int), v_77 = .tuple #[.slice r_79 r_79n r_79c, .int .i64 r_80] ∧ (
needs (0 ≤ x_6 ∧ x_6 < (a0n : Int)) <|
ptr a0 fun a_81 =>
ldI h_78 ((⟨r_32, 0, none⟩ : Addr).add 0) .i64 fun x_82 =>
ldI h_78 ((⟨r_32, 0, none⟩ : Addr).add 1) .i64 fun x_83 =>
ldS h_78 ((⟨r_32, 0, none⟩ : Addr).add 2) fun x_84 x_84n x_84c =>
ldI h_78 (((a_81.add (x_6.toNat * 8)).add 0).add 0) .i64 fun x_85 =>
ldI h_78 (((a_81.add (x_6.toNat * 8)).add 0).add 1) .i64 fun x_86 =>
ldS h_78 (((a_81.add (x_6.toNat * 8)).add 0).add 2) fun x_87 x_87n x_87c =>
C F_burinkit_BackBitmap #[.agg #[.int .i64 x_82, .int .i64 x_83, .slice x_84 x_84n x_84c], .agg #[.int .i64 x_85, .int .i64 x_86, .slice x_87 x_87n x_87c]] h_78 (fun v_88 h_89 =>
∃ (r_90 : Bool), v_88 = .bool r_90 ∧ (
bcase (!r_90) (
K (.bool false) h_89) <|
needs (0 ≤ x_6 ∧ x_6 < (a0n : Int)) <|
ptr a0 fun a_91 =>
ldI h_89 ((⟨r_46, 0, none⟩ : Addr).add 0) .i64 fun x_92 =>
ldI h_89 ((⟨r_46, 0, none⟩ : Addr).add 1) .i64 fun x_93 =>
ldS h_89 ((⟨r_46, 0, none⟩ : Addr).add 2) fun x_94 x_94n x_94c =>
ldI h_89 (((a_91.add (x_6.toNat * 8)).add 3).add 0) .i64 fun x_95 =>
ldI h_89 (((a_91.add (x_6.toNat * 8)).add 3).add 1) .i64 fun x_96 =>
ldS h_89 (((a_91.add (x_6.toNat * 8)).add 3).add 2) fun x_97 x_97n x_97c =>
C F_burinkit_BackBitmap #[.agg #[.int .i64 x_92, .int .i64 x_93, .slice x_94 x_94n x_94c], .agg #[.int .i64 x_95, .int .i64 x_96, .slice x_97 x_97n x_97c]] h_89 (fun v_98 h_99 =>
∃ (r_100 : Bool), v_98 = .bool r_100 ∧ (
bcase (!r_100) (
K (.bool false) h_99) <|
bcase (r_64 != r_80) (
K (.bool false) h_99) <|
C F_burinref0_Eq #[.slice r_63 r_63n r_63c, .slice r_79 r_79n r_79c] h_99 (fun v_101 h_102 =>
∃ (r_103 : Bool), v_101 = .bool r_103 ∧ (
bcase (!r_103) (
K (.bool false) h_102) <|
bindI (IntKind.i64.wrap (x_6 + (1 : Int))) fun z_104 =>
∃ m_2, m_2 < n_3 ∧ J_1 m_2 [.int .i64 z_104] h_102)) (Kp))) (Kp))) (Kp))) (Kp))) (Kp))) (Kp))) (Kp))) (Kp))) (Kp)) <|
C F_burinlaw8_wakes #[] h_4 (fun v_105 h_106 =>
∃ (r_107 : Bool), v_105 = .bool r_107 ∧ (
K (.bool r_107) h_106)) (Kp)) <|
C F_burinlaw8_wakes #[] h_4 (fun v_108 h_109 =>
∃ (r_110 : Bool), v_108 = .bool r_110 ∧ (
K (.bool r_110) h_109)) (Kp))

end Go.Den.Ytcicfilkdhhnmaa

/- Written by gen.py: each condition of the functions of law8RefineEncodes is the one of its body; so it is enough for its call. -/
set_option linter.unusedVariables false
set_option linter.unusedSimpArgs false
namespace Go.Den.Ytcicfilkdhhnmaa
open Go Go.Den

noncomputable def hints_burinlaw8_RefineEncodes : Hints := Hints.mk (fun i => bif Nat.beq i 7 then some ([12], .take 2 <| .take 3 <| .take 4 <| .take 5 <| .take 7 <| .take 8 <| .take 9 <| .take 10 <| .take 0 <| .take 1 <| .take 6 <| .take 11 <| .bar 12 [] <| .take 13 <| .take 14 <| .take 15 <| .take 16 <| .take 17 <| .done) else (bif Nat.beq i 8 then some ([20], .take 0 <| .take 1 <| .take 2 <| .take 3 <| .take 5 <| .take 6 <| .take 7 <| .take 8 <| .take 10 <| .take 11 <| .take 12 <| .take 13 <| .take 15 <| .take 16 <| .take 17 <| .take 18 <| .take 4 <| .take 9 <| .take 14 <| .take 19 <| .bar 20 [] <| .take 21 <| .take 22 <| .take 23 <| .take 24 <| .take 25 <| .done) else (bif Nat.beq i 9 then some ([6, 15, 26], .take 1 <| .take 2 <| .take 3 <| .take 4 <| .take 0 <| .take 5 <| .bar 6 [15, 26] <| .take 7 <| .take 8 <| .take 10 <| .take 11 <| .take 12 <| .take 13 <| .take 9 <| .take 14 <| .bar 15 [26] <| .take 16 <| .take 17 <| .take 18 <| .take 19 <| .take 20 <| .take 21 <| .take 22 <| .take 23 <| .take 24 <| .take 25 <| .bar 26 [] <| .take 27 <| .take 28 <| .done) else (none))))
  (fun i => bif Nat.beq i 2 then some ([(3, .int .i64)], 166153499473114484112975882535043068) else (none))
  (fun i => none) []
set_option maxRecDepth 100000 in
theorem eq_burinlaw8_RefineEncodes (C : CallP) (a0 : Option Addr) (a0n : Nat) (a0c : Nat) (h : Heap) (K : Value → Heap → Prop) (Kp : List PanicEntry → Heap → Prop) :
    fnD Go.Proofs.Try.prog C hints_burinlaw8_RefineEncodes Go.Proofs.Try.f6 [.slice a0 a0n a0c] h K Kp = burinlaw8_RefineEncodes C a0 a0n a0c h K Kp := by kernel_rfl

theorem call_burinlaw8_RefineEncodes {a0 : Option Addr} {a0n : Nat} {a0c : Nat} {h : Heap} {K : Value → Heap → Prop} {Kp : List PanicEntry → Heap → Prop} (H : burinlaw8_RefineEncodes (CallsHP Go.Proofs.Try.prog) a0 a0n a0c h K Kp) : CallsHP Go.Proofs.Try.prog F_burinlaw8_RefineEncodes #[.slice a0 a0n a0c] h K Kp :=
  callsHP_of hints_burinlaw8_RefineEncodes (by kernel_rfl) Go.Proofs.Try.func6 (by kernel_rfl) (by rw [eq_burinlaw8_RefineEncodes]; exact H)

end Go.Den.Ytcicfilkdhhnmaa

/- RfP: the law RefineEncodes, said of memory. -/
set_option linter.unusedVariables false
set_option linter.unusedSimpArgs false
namespace Go.Bm
open Go Go.Den Go.Den.Ytcicfilkdhhnmaa

theorem add_pos (a : Addr) (k j : Nat) (hk : 0 < k) : (a.add k).add j = a.add (k + j) := by
  unfold Addr.add
  have h1 : ¬ k = 0 := by omega
  by_cases hj : j = 0
  · subst hj; simp [h1]
  · simp [h1, hj]; omega
/-- A bitmap, its reference and a shift, as they lie in memory. -/
structure AskV (h : Heap) (a : Addr) (w b : Int) (ws : List Nat) (w2 b2 : Int) (ws2 : List Nat) (x y : Int) : Prop where
  c0 : hcell h ((a.add 0).add 0) = some (.int .i64 w)
  c1 : hcell h ((a.add 0).add 1) = some (.int .i64 b)
  c2 : ∃ q c, hcell h ((a.add 0).add 2) = some (.slice q ws.length c) ∧ rdO h q (ws.length * 1) (u64s ws)
  c3 : hcell h ((a.add 3).add 0) = some (.int .i64 w2)
  c4 : hcell h ((a.add 3).add 1) = some (.int .i64 b2)
  c5 : ∃ q c, hcell h ((a.add 3).add 2) = some (.slice q ws2.length c) ∧ rdO h q (ws2.length * 1) (u64s ws2)
  c6 : hcell h (a.add 6) = some (.int .i64 x)
  c7 : hcell h (a.add 7) = some (.int .i64 y)
  w1 : W64 ws
  w2' : W64 ws2
  l1 : ws.length < 140737488351300
  l2 : ws2.length < 140737488351300
def AsksV (h : Heap) (sq : Option Addr) (slen : Nat) : Prop := ∀ i, i < slen → ∃ a w b ws w2 b2 ws2 x y, sq = some a ∧ AskV h (a.add (i * 8)) w b ws w2 b2 ws2 x y
set_option maxRecDepth 100000 in
set_option maxHeartbeats 2000000 in
theorem refEncodes_law {hB : Heap} {sq : Option Addr} {slen scap : Nat} (hv : AsksV hB sq slen) {K : Value → Heap → Prop} {Kp : List PanicEntry → Heap → Prop} (hk : ∀ h', hext hB h' → K (.bool true) h') :
    CP F_burinlaw8_RefineEncodes #[.slice sq slen scap] hB K Kp := by
  refine call_burinlaw8_RefineEncodes ?_
  unfold burinlaw8_RefineEncodes
  refine ⟨fun n vs h' => ∃ i : Nat, i + n = 6 ∧ vs = [.int .i64 (i : Int)] ∧ Hp hB [] h' [], ⟨6, 0, rfl, rfl, Hp.nil hB []⟩, ?_⟩
  rintro n h u xx ⟨i, hin, hxx, H⟩
  injection hxx with hxx
  injection hxx with _ hxx
  subst hxx
  refine bcase_dec (fun h3 => ?_) fun h3 => wakes8_ok fun h' e => ⟨_, rfl, hk _ (H.hext.trans e)⟩
  refine bcase_dec (fun h4 => ?_) fun h4 => wakes8_ok fun h' e => ⟨_, rfl, hk _ (H.hext.trans e)⟩
  have h3 : i < slen := by omega
  have h4 : i < 6 := by omega
  obtain ⟨a, w, b, ws, w2, b2, ws2, x, y, hsq, ha⟩ := hv i h3
  subst hsq
  obtain ⟨q1, c1, hc2, hr1⟩ := ha.c2
  obtain ⟨q2, c2, hc5, hr2⟩ := ha.c5
  have fr : ∀ {h : Heap} {L : List Ent} {c : Addr} {v : Value}, Hp hB [] h L → hcell hB c = some v → hcell h c = some v := fun H hc => H.fr.cell (by simp) hc
  have next : ∀ h' L, Hp hB [] h' L → ∃ m, m < n ∧ ∃ i' : Nat, i' + m = 6 ∧ [Value.int .i64 ((i + 1 : Nat) : Int)] = [.int .i64 (i' : Int)] ∧ Hp hB [] h' [] := fun h' L H => ⟨n - 1, by omega, i + 1, by omega, rfl, H.take 0⟩
  have hnd : 0 ≤ (i : Int) ∧ (i : Int) < (slen : Int) := by omega
  refine needs_of hnd (ptr_of (a := a) ?_)
  refine ldI_of (fr H ha.c0) (ldI_of (fr H ha.c1) (ldS_of (fr H hc2) ?_))
  refine light_ok (H.rdO hr1) ha.w1 ha.l1 fun bb h1 hbb e1 => ?_
  have H := H.ext e1
  refine ⟨_, rfl, ?_⟩
  refine bcase_not (fun h5 => ?_) fun h5 => ?_
  · refine bindI_of (((i + 1 : Nat) : Int)) (by exact i64_at _ _ (by omega) (by omega) (by omega)) ?_
    exact next _ _ H
  have hl1 := (hbb h5).1
  refine needs_of hnd (ptr_of (a := a) ?_)
  refine ldI_of (fr H ha.c3) (ldI_of (fr H ha.c4) (ldS_of (fr H hc5) ?_))
  refine light_ok (H.rdO hr2) ha.w2' ha.l2 fun bb h1 hbb e1 => ?_
  have H := H.ext e1
  refine ⟨_, rfl, ?_⟩
  refine bcase_not (fun h5 => ?_) fun h5 => ?_
  · refine bindI_of (((i + 1 : Nat) : Int)) (by exact i64_at _ _ (by omega) (by omega) (by omega)) ?_
    exact next _ _ H
  have hl2 := (hbb h5).1
  refine needs_of hnd (ptr_of (a := a) ?_)
  refine ldI_of (fr H ha.c0) (ldI_of (fr H ha.c1) (ldS_of (fr H hc2) ?_))
  refine lendB_ok (H.rdO hr1) (by omega) fun o1 l1 k1 h6 hk1 H' => ?_
  replace H := H.join H' rfl
  clear H'
  refine ⟨_, _, _, _, _, rfl, ?_⟩
  refine newC_hp H fun r32 h H => ?_
  rw [add_mk, add_mk, add_mk]
  refine stV_hp H 1 rfl (Nat.le_of_ble_eq_true rfl) rfl fun h hs2 H => ?_
  refine stV_hp H 1 rfl (Nat.le_of_ble_eq_true rfl) rfl fun h hs2 H => ?_
  refine stV_hp H 1 rfl (Nat.le_of_ble_eq_true rfl) rfl fun h hs2 H => ?_
  refine needs_of hnd (ptr_of (a := a) ?_)
  refine ldI_of (fr H ha.c3) (ldI_of (fr H ha.c4) (ldS_of (fr H hc5) ?_))
  refine lendB_ok (H.rdO hr2) (by omega) fun o2 l2 k2 h7 hk2 H' => ?_
  replace H := H.join H' rfl
  clear H'
  refine ⟨_, _, _, _, _, rfl, ?_⟩
  refine newC_hp H fun r46 h H => ?_
  rw [add_mk, add_mk, add_mk]
  refine stV_hp H 3 rfl (Nat.le_of_ble_eq_true rfl) rfl fun h hs2 H => ?_
  refine stV_hp H 3 rfl (Nat.le_of_ble_eq_true rfl) rfl fun h hs2 H => ?_
  refine stV_hp H 3 rfl (Nat.le_of_ble_eq_true rfl) rfl fun h hs2 H => ?_
  have H : Hp hB [] h [⟨o1, true, T_uint64, u64s ws ++ (u64s (List.replicate 7 42405) ++ l1)⟩, ⟨r32, true, T_api_Bitmap, [.int .i64 w, .int .i64 b, .slice (at0 o1) ws.length k1]⟩, ⟨o2, true, T_uint64, u64s ws2 ++ (u64s (List.replicate 7 42405) ++ l2)⟩, ⟨r46, true, T_api_Bitmap, [.int .i64 w2, .int .i64 b2, .slice (at0 o2) ws2.length k2]⟩] := H
  refine needs_of hnd (ptr_of (a := a) (needs_of hnd (ptr_of (a := a) ?_)))
  refine ldI_of (Hp.cellA H 1 rfl (i := 0) rfl) (ldI_of (Hp.cellA H 1 rfl (i := 1) rfl) (ldS_of (Hp.cellA H 1 rfl (i := 2) rfl) ?_))
  refine ldI_of (Hp.cellA H 3 rfl (i := 0) rfl) (ldI_of (Hp.cellA H 3 rfl (i := 1) rfl) (ldS_of (Hp.cellA H 3 rfl (i := 2) rfl) ?_))
  refine ldI_of (fr H ha.c6) (ldI_of (fr H ha.c7) ?_)
  refine rfEnc_ok (row_rdO H 0 rfl) ha.w1 ha.l1 (row_rdO H 2 rfl) ha.w2' ha.l2 fun e bs D qo c h' henc hsl H' => ?_
  replace H := H.join H' hsl.w
  clear H'
  refine ⟨_, _, _, _, rfl, ?_⟩
  refine needs_of hnd (ptr_of (a := a) (needs_of hnd (ptr_of (a := a) (needs_of hnd (ptr_of (a := a) (needs_of hnd (ptr_of (a := a) ?_)))))))
  refine ldI_of (fr H ha.c0) (ldI_of (fr H ha.c1) (ldS_of (fr H hc2) ?_))
  refine ldI_of (fr H ha.c3) (ldI_of (fr H ha.c4) (ldS_of (fr H hc5) ?_))
  refine ldI_of (fr H ha.c6) (ldI_of (fr H ha.c7) ?_)
  refine rrEnc_ok (H.rdO hr1) ha.w1 ha.l1 (H.rdO hr2) ha.w2' ha.l2 fun e' bs' D2 qo2 c2 h' henc2 hsl2 H' => ?_
  replace H := H.join H' hsl2.w
  clear H'
  obtain ⟨rfl, rfl⟩ := henc.det henc2
  refine ⟨_, _, _, _, rfl, ?_⟩
  refine needs_of hnd (ptr_of (a := a) ?_)
  refine ldI_of (Hp.cellA H 1 rfl (i := 0) rfl) (ldI_of (Hp.cellA H 1 rfl (i := 1) rfl) (ldS_of (Hp.cellA H 1 rfl (i := 2) rfl) ?_))
  refine ldI_of (fr H ha.c0) (ldI_of (fr H ha.c1) (ldS_of (fr H hc2) ?_))
  refine backB_ok (H.give [0] (by decide) rfl) (H.rdO hr1) (by omega) hk1 fun cs1 h' H' => ?_
  replace H := H.put [0] (by decide) rfl rfl H' rfl rfl
  clear H'
  refine ⟨_, rfl, ?_⟩
  refine bcase_false (by rfl) ?_
  have H : Hp hB [] h' ([⟨o1, true, T_uint64, cs1⟩, ⟨r32, true, T_api_Bitmap, [.int .i64 w, .int .i64 b, .slice (at0 o1) ws.length k1]⟩, ⟨o2, true, T_uint64, u64s ws2 ++ (u64s (List.replicate 7 42405) ++ l2)⟩, ⟨r46, true, T_api_Bitmap, [.int .i64 w2, .int .i64 b2, .slice (at0 o2) ws2.length k2]⟩] ++ D ++ D2) := H
  refine needs_of hnd (ptr_of (a := a) ?_)
  refine ldI_of (Hp.cellA H 3 rfl (i := 0) rfl) (ldI_of (Hp.cellA H 3 rfl (i := 1) rfl) (ldS_of (Hp.cellA H 3 rfl (i := 2) rfl) ?_))
  refine ldI_of (fr H ha.c3) (ldI_of (fr H ha.c4) (ldS_of (fr H hc5) ?_))
  refine backB_ok (H.give [2] (by decide) rfl) (H.rdO hr2) (by omega) hk2 fun cs2 h' H' => ?_
  replace H := H.put [2] (by decide) rfl rfl H' rfl rfl
  clear H'
  refine ⟨_, rfl, ?_⟩
  refine bcase_false (by rfl) ?_
  refine bcase_false (by simp) ?_
  have H : Hp hB [] h' ([⟨o1, true, T_uint64, cs1⟩, ⟨r32, true, T_api_Bitmap, [.int .i64 w, .int .i64 b, .slice (at0 o1) ws.length k1]⟩, ⟨o2, true, T_uint64, cs2⟩, ⟨r46, true, T_api_Bitmap, [.int .i64 w2, .int .i64 b2, .slice (at0 o2) ws2.length k2]⟩] ++ D ++ D2) := H
  refine Go.Ar.eq_ok (xs := bs) (ys := bs) (Slot.rdO' hsl (Hp.pre (Y := D2) H) fun e he => List.mem_append_right _ he) (Slot.rdO' hsl2 H fun e he => List.mem_append_right _ he) henc.bytes.2 ?_
  refine ⟨_, rfl, ?_⟩
  refine bcase_false (by simp) ?_
  refine bindI_of (((i + 1 : Nat) : Int)) (by exact i64_at _ _ (by omega) (by omega) (by omega)) ?_
  exact next _ _ H

end Go.Bm

/- RfQ: asks as they come in as an argument. -/
set_option linter.unusedVariables false
set_option linter.unusedSimpArgs false
namespace Go.Bm
open Go Go.Den Go.Den.Ytcicfilkdhhnmaa

theorem list8 {α : Type} {l : List α} (h : l.length = 8) : ∃ a b c d e f g i, l = [a, b, c, d, e, f, g, i] := by
  match l, h with
  | [a, b, c, d, e, f, g, i], _ => exact ⟨a, b, c, d, e, f, g, i, rfl⟩
theorem asks_of {h : Heap} {cs : List Value} (H : WDx TP h T_s_burinlaw8_Ask cs) : ∃ q len cap, cs = [.slice q len cap] ∧ AsksV h q len := by
  obtain ⟨q, len, cap, rfl, _, _, _, h4⟩ := wd_slice Go.Proofs.Try.underlying39 H
  refine ⟨q, len, cap, rfl, fun i hi => ?_⟩
  obtain ⟨a, cs', ha, hr, hd⟩ := h4 i hi
  obtain ⟨hl, hf⟩ := wd_struct Go.Proofs.Try.underlying45 hd
  have k : TP.cellsOf T_burinlaw8_Ask = 8 := by kernel_rfl
  rw [k] at hl hr
  obtain ⟨v0, v1, v2, v3, v4, v5, v6, v7, rfl⟩ := list8 hl
  have kb : TP.cellsOf T_api_Bitmap = 3 := by kernel_rfl
  have f0 : WDx TP h T_api_Bitmap (([v0, v1, v2, v3, v4, v5, v6, v7].drop 0).take (TP.cellsOf T_api_Bitmap)) := hf 0 _ rfl
  have f1 : WDx TP h T_api_Bitmap (([v0, v1, v2, v3, v4, v5, v6, v7].drop 3).take (TP.cellsOf T_api_Bitmap)) := hf 1 _ rfl
  rw [kb] at f0 f1
  obtain ⟨w, b, q1, cap1, ws, e0, _, _, g1, g2, g3⟩ := wd_bitmap f0
  obtain ⟨w2, b2, q2, cap2, ws2, e1, _, _, g4, g5, g6⟩ := wd_bitmap f1
  obtain ⟨x, e2, _⟩ := wd_int Go.Proofs.Try.underlying3 (one_of k_int (hf 2 _ rfl) (v := v6) rfl)
  obtain ⟨y, e3, _⟩ := wd_int Go.Proofs.Try.underlying3 (one_of k_int (hf 3 _ rfl) (v := v7) rfl)
  simp only [List.drop_succ_cons, List.drop_zero, List.take_succ_cons, List.take_zero, List.cons.injEq, and_true] at e0 e1 e2 e3
  obtain ⟨e00, e01, e02⟩ := e0
  obtain ⟨e10, e11, e12⟩ := e1
  subst e00 e01 e02 e10 e11 e12 e2 e3
  have c := fun j v hj => hr.2 j v hj
  refine ⟨a, w, b, ws, w2, b2, ws2, x, y, ha, ⟨?_, ?_, ⟨q1, cap1, ?_, g2⟩, ?_, ?_, ⟨q2, cap2, ?_, g5⟩, c 6 _ rfl, c 7 _ rfl, g3, g6, g1, g4⟩⟩
  · rw [add_zero', add_zero', ← add_zero' (a.add (i * 8))]; exact c 0 _ rfl
  · rw [add_zero']; exact c 1 _ rfl
  · rw [add_zero']; exact c 2 _ rfl
  · rw [add_zero']; exact c 3 _ rfl
  · rw [add_pos _ _ _ (by decide)]; exact c 4 _ rfl
  · rw [add_pos _ _ _ (by decide)]; exact c 5 _ rfl
end Go.Bm

/- ArLink2: what a law's walk hands on. -/
namespace Go.Proofs.Ytcicfilkdhhnmaa
open Go.ChangeShapes Go.WideShapes Go.ChangeAt Go.RowKit
set_option linter.unusedVariables false

theorem own : ownKnob Try.prog.godebug = none := by kernel_rfl
theorem laidOut : laidOutB Try.prog = true := by kernel_rfl

/-- What a call that keeps all old rows leaves, as a row's statement asks it. -/
theorem below_of {W W' : World} (hk : Go.Den.keeps W W') (h : Go.Den.hext W.heap W'.heap) : Below W.heap.size W W' :=
  ⟨hk.1, hk.2.1, hk.2.2, h.1, fun k hlt => h.2 k hlt⟩

theorem walk_of {f : FuncId} {args : Array Value} {W : World}
    (h : Calls Try.prog f args W fun e w' => Go.Den.keeps W w' ∧ match e with
      | .returned v => v = .bool true ∧ Go.Den.hext W.heap w'.heap
      | .panicked c => False
      | .outgrown => False) : Calls Try.prog f args W fun e W' => e = .returned (.bool true) ∧ Below W.heap.size W W' := by
  refine h.mono fun e W' he => ?_
  obtain ⟨hk, he⟩ := he
  cases e with
  | returned v => exact ⟨by rw [he.1], below_of hk he.2⟩
  | panicked c => exact he.elim
  | outgrown => exact he.elim

end Go.Proofs.Ytcicfilkdhhnmaa

/- RfEncodes: the given statement RefineEncodesSaid. -/
namespace Go.Proofs.Ytcicfilkdhhnmaa
open Go.ChangeShapes Go.WideShapes Go.ChangeAt Go.RowKit
set_option linter.unusedVariables false

theorem refineEncodes_walk (W : World) {v : Value} (hw : Go.Den.WDx Try.prog W.heap 39 [v]) : Calls Try.prog 6 #[v] W fun e W' => e = .returned (.bool true) ∧ Below W.heap.size W W' := by
  obtain ⟨q, len, cap, e, ha⟩ := Go.Bm.asks_of hw
  obtain rfl : v = .slice q len cap := by simpa using e
  exact walk_of ((Go.Bm.refEncodes_law (hB := W.heap) (K := fun v h' => v = .bool true ∧ Go.Den.hext W.heap h') (Kp := fun _ _ => False) ha fun h' e => ⟨rfl, e⟩).2 W rfl)

set_option maxRecDepth 100000 in
theorem refineEncodes_lifted (os : Os) (started : os.Started) (H : Type) (enc : TypeId × Value → H) :
    ReturnsInHanded {} Try.checked os 6 .any (Rows.refineEncodesSpec.pre6 enc Try.prog Try.f6 Rows.refineEncodesRow.domain false) (Rows.refineEncodesSpec.post enc Try.prog Try.f6 false true false false) := by
  refine returnsInHanded_of_change_sized (C := Try.checked) own started (by kernel_rfl) Try.func6
    (ChangeSpec.witness6 (enc := enc) (C := Try.checked) false ⟨#[], #[.slice none 0 0], []⟩ 8 (by kernel_rfl) (by kernel_rfl) (by kernel_rfl) (by kernel_rfl)) ?_
  intro W base args ds gs before hval0 hW hcnd hz _
  have hval : ∀ (j : Nat) t v, Try.f6.params[j]? = some t → args[j]? = some v → Value.okWide Try.prog W .any base t v := hval0
  have hz : ∀ n ∈ DataW.weightsEach Try.prog (Try.f6.params.toList ++ Rows.refineEncodesSpec.plain.varTypes Try.prog) (ds ++ gs), n ≤ reachBytes := fun n hn => by simpa using List.all_eq_true.1 hz n hn
  have hW' := hW
  obtain ⟨p, q, hA0, hV, rfl, hfz, hnd⟩ := hW
  have hA : DataW.TrodAll enc Try.prog W 0 (fun _ => true) true Try.f6.params.toList args.toList ds p := hA0
  rw [Try.params6] at hA hval hz
  obtain ⟨v0, vs0, d0, ds0, p0, q0, hargs, rfl, rfl, h0, r0⟩ := trodAll_cons hA
  obtain ⟨rfl, rfl, rfl⟩ := trodAll_nil r0
  obtain rfl : args = #[v0] := by cases args; simp_all
  obtain ⟨rfl, rfl⟩ := trodVars_none hV
  obtain ⟨q, len, cap, rfl, _⟩ := okWide_slice Try.underlying39 (hval 0 39 v0 rfl rfl)
  have hwd : Go.Den.WDx Try.prog W.heap 39 [.slice q len cap] := by
    obtain ⟨f, hf⟩ := h0
    exact ⟨f, Go.Den.wd_of hf fun n hn => hz n (DataW.weights_mem_each (j := 0) rfl rfl n hn)⟩
  clear hA0 hval0
  simp only [List.append_nil] at hW'
  refine (refineEncodes_walk W hwd).mono fun e W' ⟨he, hb⟩ => ?_
  subst he
  refine ⟨_, rfl, [d0], [], _, [], p0, [], hW', ?_, ?_, ?_, hb.frame _, fun h => Bool.noConfusion h⟩
  · exact trodAll_cons_mk (shut_bool Go.Proofs.Try.underlying4 _) trodAll_mk0
  · exact ⟨p0, [], Below.trod laidOut (by kernel_rfl) (of_decide_eq_true (by kernel_rfl)) h0 hb (fun x hx => by simpa using hW'.lt x hx), rfl, (List.append_nil p0).symm⟩
  · rfl

theorem refineEncodes_over : Rows.refineEncodesRow.holds Try.pinned (OpenSpec.ofChange Rows.refineEncodesSpec) :=
  OpenClaim.holds_of_wide 6 Try.f6 rfl rfl rfl rfl rfl rfl rfl ⟨rfl, rfl, rfl, rfl, rfl⟩ rfl rfl rfl rfl rfl (by kernel_rfl) Try.func6 (by kernel_rfl)
    (of_decide_eq_true (by kernel_rfl)) (by unfold Func.isWrapper; first | (rw [if_pos (by decide +kernel)]; kernel_rfl) | (rw [if_neg (by decide +kernel)]; exact ⟨rfl, rfl⟩))
    (fun os started H enc _ => refineEncodes_lifted os started H enc)

theorem refineEncodes_proved : Rows.RefineEncodesSaid := refineEncodes_over

#print axioms refineEncodes_proved
end Go.Proofs.Ytcicfilkdhhnmaa
