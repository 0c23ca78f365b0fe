/- W5: put together by wip/tools/bundle.py: BkC BkD RfL BkE RfM RfR RdA Au RfS Mlaw8x Blaw8x RfN RfO Mlaw8RefineTop Blaw8RefineTop RfU Mlaw8RefineEncodes Blaw8RefineEncodes RfP RfQ RdB RdC Mlaw8RefineReads Blaw8RefineReads RfX RfATop ArLink2. -/
import Derived.Test.YtcicfilkdhhnmaaW1
import Derived.Test.YtcicfilkdhhnmaaW2
import Derived.Test.YtcicfilkdhhnmaaW3
import Derived.Test.YtcicfilkdhhnmaaW4
import Derived.Test.YtcicfilkdhhnmaaProg
import Derived.WalkKit
import Derived.ProofKit
import Derived.OpenShut
import Derived.Carry
import Derived.Deep.SlicePairs
import Derived.Lib.SmallJoins

/- BkC: coder and decoder in step: what is decoded are the decisions. No Go, no memory. -/
set_option linter.unusedVariables false
set_option linter.unusedSimpArgs false
namespace Go.Ar

/-- Where a decoder stands in the code 'E', of which it has 'k' bytes. -/
structure Pos (E : List Nat) (d : Dec) (k : Nat) : Prop where
  by_ : ∀ j, byteD d j = fE E (j + 1)
  at_ : k = d.i + 1 ∨ d.i + 1 ≤ k ∧ E.length ≤ d.i + 2 ∧ fE E (d.i + 1) = 255
/-- No byte above 8f stands behind an ff. -/
def Stuffed (E : List Nat) : Prop := ∀ j, fE E j = 255 → j + 1 < E.length → fE E (j + 1) ≤ 143
theorem fE_end (E : List Nat) {k : Nat} (h : E.length ≤ k) : fE E k = 255 := by unfold fE; rw [List.getD_eq_getElem?_getD, List.getElem?_eq_none h]; rfl

/-- A byte comes in. -/
theorem inD_pos {E : List Nat} {d : Dec} {k : Nat} (hE : Stuffed E) (h : Pos E d k) :
    Pos E (inD d) (k + 1) ∧ (inD d).t = lenE E (k + 1) ∧ (inD d).c = (d.c + fE E (k + 1) * 2 ^ (16 - lenE E (k + 1))) % M32 := by
  have hb0 := h.by_ d.i
  have hb1 := h.by_ (d.i + 1)
  have hb : ∀ d' : Dec, d'.b = d.b → ∀ j, byteD d' j = fE E (j + 1) := fun d' e j => by rw [← h.by_ j]; unfold byteD; rw [e]
  unfold inD
  split
  · rename_i h1
    rw [hb0] at h1
    have hlt : d.i + 1 < E.length := by
      rcases Nat.lt_or_ge (d.i + 1) E.length with h2 | h2
      · exact h2
      · exact absurd (fE_end E h2) h1
    have hk : k = d.i + 1 := by
      rcases h.at_ with h2 | ⟨_, h2, h3⟩
      · exact h2
      · exact absurd h3 h1
    have hl : lenE E (k + 1) = 8 := by
      unfold lenE
      rw [Nat.add_sub_cancel, if_neg]
      rintro ⟨_, h3⟩
      rw [hk] at h3
      exact h1 h3
    refine ⟨⟨hb _ rfl, .inl (by rw [hk])⟩, by rw [hl], ?_⟩
    rw [hb1, hl, hk]
  · rename_i h1
    rw [hb0] at h1
    have h1 : fE E (d.i + 1) = 255 := by simpa using h1
    split
    · rename_i h2
      rw [hb1] at h2
      have hge : E.length ≤ d.i + 2 := by
        rcases Nat.lt_or_ge (d.i + 1 + 1) E.length with h3 | h3
        · have := hE _ h1 h3; omega
        · exact h3
      have hkge : d.i + 1 ≤ k := by rcases h.at_ with h3 | ⟨h3, _⟩ <;> omega
      have hl : lenE E (k + 1) = 8 := by unfold lenE; rw [if_neg (by omega)]
      have hf : fE E (k + 1) = 255 := fE_end E (by omega)
      exact ⟨⟨hb _ rfl, .inr ⟨by show d.i + 1 ≤ k + 1; omega, hge, h1⟩⟩, by rw [hl], by rw [hl, hf]⟩
    · rename_i h2
      rw [hb1] at h2
      have hlt : d.i + 2 < E.length := by
        rcases Nat.lt_or_ge (d.i + 2) E.length with h3 | h3
        · exact h3
        · have := fE_end E h3
          rw [show d.i + 1 + 1 = d.i + 2 from rfl] at h2
          omega
      have hk : k = d.i + 1 := by
        rcases h.at_ with h3 | ⟨_, h3, _⟩
        · exact h3
        · omega
      have hl : lenE E (k + 1) = 7 := by
        unfold lenE
        rw [Nat.add_sub_cancel, if_pos ⟨by omega, by rw [hk]; exact h1⟩]
      refine ⟨⟨hb _ rfl, .inl (by rw [hk])⟩, by rw [hl], ?_⟩
      rw [hb1, hl, hk]

/-- The decoder's number: what it has of the code, above the coder's lower end. -/
structure Num (E : List Nat) (s : Cod) (d : Dec) (k : Nat) : Prop extends Pos E d k where
  pos : BE E k = BE E s.bs.length + (27 - s.t) + d.t
  num : d.c + lowC s * 65536 = XE E k * 2 ^ (16 - d.t)
structure Sync (E : List Nat) (s : Cod) (d : Dec) : Prop where
  a : d.a = s.a
  st : d.st = s.st
  n : d.n = s.n
  num : ∃ k, Num E s d k

section
variable {E : List Nat} {s : Cod} {d : Dec} {k A t : Nat}
theorem XE_split (x : Nat) (h : t ≤ 16) : x * 2 ^ (16 - t) * 2 ^ t = x * 65536 := by
  rw [Nat.mul_assoc, ← Nat.pow_add]
  congr 1
  have : 16 - t + t = 16 := by omega
  rw [this]
/-- The number lies in the interval. -/
theorem Fut.lt (h : Fut E s A) (hp : BE E k = BE E s.bs.length + (27 - s.t) + t) (ht : t ≤ 16) : XE E k * 2 ^ (16 - t) < (lowC s + A) * 65536 := by
  have h1 := h.hi k
  rw [hp, Nat.pow_add _ _ t, ← Nat.mul_assoc, Nat.mul_right_comm (lowC s + A)] at h1
  have h2 : XE E k < (lowC s + A) * 2 ^ t := Nat.lt_of_mul_lt_mul_right h1
  refine Nat.lt_of_mul_lt_mul_right (a := 2 ^ t) ?_
  rw [XE_split _ ht, Nat.mul_right_comm]
  exact Nat.mul_lt_mul_of_pos_right h2 (by decide)
theorem Fut.ge (h : Fut E s A) (hp : BE E k = BE E s.bs.length + (27 - s.t) + t) (ht : t ≤ 16) (hk : s.bs.length < k) : lowC s * 65536 ≤ XE E k * 2 ^ (16 - t) := by
  have h1 := h.lo k hk
  rw [hp, Nat.pow_add _ _ t, ← Nat.mul_assoc, Nat.mul_right_comm] at h1
  have h2 : lowC s * 2 ^ t < XE E k + 1 := Nat.lt_of_mul_lt_mul_right h1
  refine Nat.le_of_mul_le_mul_right (c := 2 ^ t) ?_ (Nat.two_pow_pos t)
  rw [XE_split _ ht, Nat.mul_right_comm]
  exact Nat.mul_le_mul_right _ (by omega)
theorem ahead (hp : BE E k = BE E s.bs.length + (27 - s.t) + t) (ht : s.t ≤ 12) : s.bs.length < k := by
  rcases Nat.lt_or_ge s.bs.length k with h1 | h1
  · exact h1
  · have := BE_mono E h1; omega

theorem shiftM_pos (h : Fut E (shiftM s) A) (ht1 : 1 ≤ s.t) (ht2 : s.t ≤ 12) (hc : s.c < 2 ^ (28 - s.t)) : lowC (shiftM s) = 2 * lowC s ∧ BE E (shiftM s).bs.length + (27 - (shiftM s).t) = BE E s.bs.length + (27 - s.t) + 1 := by
  have e0 : lowC { s with a := 2 * s.a, c := 2 * s.c, t := s.t - 1 } = 2 * lowC s := by
    show valL (s.bs ++ [s.l]) * 2 ^ (27 - (s.t - 1)) + 2 * s.c = 2 * (valL (s.bs ++ [s.l]) * 2 ^ (27 - s.t) + s.c)
    rw [show 27 - (s.t - 1) = (27 - s.t) + 1 by omega, Nat.pow_succ, ← Nat.mul_assoc]
    omega
  unfold shiftM at h ⊢
  simp only [] at h ⊢
  split
  · rename_i h1
    rw [if_pos h1] at h
    have h1 : s.t - 1 = 0 := h1
    have ht : s.t = 1 := by omega
    rw [ht] at hc
    have tail : ∀ {l c : Nat}, Fut E (outTail { s with a := 2 * s.a, c := 2 * s.c, t := s.t - 1 } l c) A → c < 2 ^ 28 → (l ≠ 255 → c < 2 ^ 27) → (l = s.l ∧ c = 2 * s.c ∨ l = s.l + 1 ∧ s.l ≠ 255 ∧ c + 2 ^ 27 = 2 * s.c) →
        lowC (outTail { s with a := 2 * s.a, c := 2 * s.c, t := s.t - 1 } l c) = 2 * lowC s ∧ BE E (outTail { s with a := 2 * s.a, c := 2 * s.c, t := s.t - 1 } l c).bs.length + (27 - (outTail { s with a := 2 * s.a, c := 2 * s.c, t := s.t - 1 } l c).t) = BE E s.bs.length + (27 - s.t) + 1 := by
      intro l c hF hc hc2 hl
      constructor
      · rw [outTail_low _ l c hc hc2, ← e0]
        unfold lowC
        show valL (s.bs ++ [l]) * 2 ^ 27 + c = valL (s.bs ++ [s.l]) * 2 ^ (27 - (s.t - 1)) + 2 * s.c
        rw [h1, valL_snoc, valL_snoc]
        rcases hl with ⟨rfl, rfl⟩ | ⟨rfl, _, h2⟩
        · rfl
        · generalize (valL s.bs * if s.bs.getLast? = some 255 then 128 else 256) = v
          omega
      · have hbs : (outTail { s with a := 2 * s.a, c := 2 * s.c, t := s.t - 1 } l c).bs = s.bs ++ [l] := by unfold outTail; split <;> rfl
        have hpre := hF.pre
        have hlen := hF.len
        rw [hbs] at hpre hlen
        have hfl : fE E s.bs.length = l := hpre s.bs.length l (by simp)
        have hlen' : s.bs.length + 1 < E.length := by simpa using hlen
        rw [hbs, List.length_append, List.length_singleton]
        show BE E s.bs.length + lenE E (s.bs.length + 1) + _ = _
        have : lenE E (s.bs.length + 1) + (27 - (outTail { s with a := 2 * s.a, c := 2 * s.c, t := s.t - 1 } l c).t) = 27 := by
          unfold lenE outTail
          rw [Nat.add_sub_cancel, hfl]
          by_cases h3 : l = 255
          · simp only [if_pos h3]; rw [if_pos ⟨hlen', h3⟩]
          · simp only [if_neg h3]; rw [if_neg (by simp [h3])]
        omega
    unfold outM at h ⊢
    split
    · rename_i h2
      rw [if_pos h2] at h
      exact tail h (by show 2 * s.c % 134217728 < _; omega) (fun _ => by show 2 * s.c % 134217728 < _; omega) (.inr ⟨rfl, h2.1, by
        have : 134217728 ≤ 2 * s.c := h2.2
        show 2 * s.c % 134217728 + _ = _
        omega⟩)
    · rename_i h2
      rw [if_neg h2] at h
      exact tail h (by show 2 * s.c < _; omega) (fun h3 => by
        rcases Nat.lt_or_ge (2 * s.c) 134217728 with h4 | h4
        · exact h4
        · exact absurd ⟨h3, h4⟩ h2) (.inl ⟨rfl, rfl⟩)
  · exact ⟨e0, by show BE E s.bs.length + (27 - (s.t - 1)) = _; omega⟩

/-- One doubling. -/
theorem sync_shift (hE : Stuffed E) (hm : Mid s) (hd : MidD d) (S : Sync E s d) (ha : s.a < 0x8000) (F : Fut E (shiftM s) (shiftM s).a) : Sync E (shiftM s) (shiftD d) := by
  obtain ⟨hm1, hma, hmn, hmst, _, _⟩ := shiftM_mid hm ha
  have hc := hm.ca
  rw [hma] at F
  have hF : Fut E s s.a := F.shift hm.t1 hm.t12 (by omega)
  obtain ⟨p1, p2⟩ := shiftM_pos F hm.t1 hm.t12 (by omega)
  obtain ⟨k, hN⟩ := S.num
  have key : ∃ (k : Nat) (d1 : Dec), (if d.t = 0 then inD d else d) = d1 ∧ Num E s d1 k ∧ 1 ≤ d1.t ∧ d1.t ≤ 8 ∧ d1.a = d.a ∧ d1.st = d.st ∧ d1.n = d.n := by
    by_cases h0 : d.t = 0
    · obtain ⟨q1, q2, q3⟩ := inD_pos hE hN.toPos
      obtain ⟨i1, i2, i3, i4, i5, i6⟩ := inD_mid hd
      obtain ⟨l1, l2⟩ := lenE_le E (k + 1)
      rw [if_pos h0]
      have hpos : BE E (k + 1) = BE E s.bs.length + (27 - s.t) + lenE E (k + 1) := by
        have := hN.pos
        show BE E k + lenE E (k + 1) = _
        omega
      have hlt := hF.lt hpos (by omega)
      have e1 : XE E (k + 1) * 2 ^ (16 - lenE E (k + 1)) = XE E k * 65536 + fE E (k + 1) * 2 ^ (16 - lenE E (k + 1)) := by
        show (XE E k * 2 ^ lenE E (k + 1) + fE E (k + 1)) * _ = _
        rw [Nat.add_mul, ← XE_split (t := lenE E (k + 1)) (XE E k) (by omega), Nat.mul_right_comm]
      have e2 := hN.num
      rw [h0, Nat.sub_zero] at e2
      have hcl : (inD d).c + lowC s * 65536 = XE E (k + 1) * 2 ^ (16 - lenE E (k + 1)) := by
        rw [q3, Nat.mod_eq_of_lt]
        · omega
        · show _ < 4294967296
          rw [Nat.add_mul] at hlt
          have e3 : XE E k * 2 ^ 16 = XE E k * 65536 := rfl
          omega
      exact ⟨k + 1, _, rfl, ⟨q1, by rw [q2]; exact hpos, by rw [q2]; exact hcl⟩, by omega, by omega, i2, i4, i3⟩
    · rw [if_neg h0]
      exact ⟨k, d, rfl, hN, by omega, hd.t8, rfl, rfl, rfl⟩
  obtain ⟨k1, d1, hd1, hN1, t1, t8, ea, est, en⟩ := key
  have hlt := hF.lt hN1.pos (by omega)
  rw [← hN1.num] at hlt
  rw [Nat.add_mul] at hlt
  have hsd : shiftD d = { d1 with a := 2 * d1.a, c := 2 * d1.c % M32, t := d1.t - 1 } := by rw [← hd1]; rfl
  rw [hsd]
  have hc2 : 2 * d1.c % M32 = 2 * d1.c := Nat.mod_eq_of_lt (by show 2 * d1.c < 4294967296; omega)
  rw [hc2]
  refine ⟨by show 2 * d1.a = _; rw [hma, ea, S.a], by show d1.st = _; rw [hmst, est, S.st], by show d1.n = _; rw [hmn, en, S.n], k1, ⟨⟨hN1.by_, hN1.at_⟩, ?_, ?_⟩⟩
  · show BE E k1 = _ + (d1.t - 1)
    have := hN1.pos
    omega
  · show 2 * d1.c + lowC (shiftM s) * 65536 = XE E k1 * 2 ^ (16 - (d1.t - 1))
    have := hN1.num
    rw [p1, show 16 - (d1.t - 1) = (16 - d1.t) + 1 by omega, Nat.pow_succ, ← Nat.mul_assoc]
    omega
end

theorem sync_renew {E : List Nat} (hE : Stuffed E) : ∀ (k : Nat) {s : Cod} {d : Dec}, Mid s → MidD d → Sync E s d → s.a < 0x8000 → 0x8000 ≤ s.a * 2 ^ k → Fut E (renewM k s) (renewM k s).a → Sync E (renewM k s) (renewD k d)
  | 0, s, d, h, _, _, ha, hk, _ => by simp at hk; omega
  | k + 1, s, d, h, hd, S, ha, hk, hF => by
    obtain ⟨h1, h2, h3, h4, h5, h6⟩ := shiftM_mid h ha
    obtain ⟨g1, g2, g3, g4, g5⟩ := shiftD_mid hd
    have ea : (shiftD d).a = (shiftM s).a := by rw [g2, h2, S.a]
    unfold renewM at hF ⊢
    unfold renewD
    simp only [] at hF ⊢
    rw [ea]
    by_cases hge : 0x8000 ≤ (shiftM s).a
    · rw [if_pos hge] at hF ⊢
      rw [if_pos hge]
      exact sync_shift hE h hd S ha hF
    · rw [if_neg hge] at hF ⊢
      rw [if_neg hge]
      have hk' : 0x8000 ≤ (shiftM s).a * 2 ^ k := by
        rw [h2]
        rw [Nat.pow_succ] at hk
        have : s.a * (2 ^ k * 2) = 2 * s.a * 2 ^ k := by rw [Nat.mul_comm (2 ^ k) 2, ← Nat.mul_assoc, Nat.mul_comm s.a 2]
        omega
      exact sync_renew hE k h1 g1 (sync_shift hE h hd S ha (Fut.renew k h1 (by omega) hk' hF)) (by omega) hk' hF

/-- One decision. -/
theorem sync_put {E : List Nat} (hE : Stuffed E) {s : Cod} {d : Dec} (hs : Wf s) (hd : WfD d) (S : Sync E s d) {k bit : Nat} (hb : bit ≤ 1) (hF : Fut E (putM s k bit) (putM s k bit).a) :
    Sync E (putM s k bit) (getD d k).1 ∧ (getD d k).2 = bit ∧ Fut E s s.a := by
  have hx := getD_lt hs.st k
  have hr : s.st.getD k 0 / 2 < 47 := by omega
  have hq1 := qOf_pos hr
  have hq2 := qOf_le hr
  have hM := set_lt hs.st (k := k) (upM_lt hx)
  have hL := set_lt hs.st (k := k) (upL_lt hx)
  have hlo := hs.lo
  have hhi := hs.hi
  have hca := hs.ca
  have ht1 := hs.t1
  have ht2 := hs.t12
  have hdc := hd.c
  have h17 : (2 : Nat) ^ 17 = 131072 := rfl
  obtain ⟨kk, hN⟩ := S.num
  have hdt := hd.t8
  -- the lower part, the upper part
  have up : ∀ {a' n' : Nat} {st' : List Nat}, Fut E { s with a := a', c := s.c + qOf (s.st.getD k 0 / 2), n := n', st := st' } (s.a - qOf (s.st.getD k 0 / 2)) → ¬ d.c / 65536 < qOf (s.st.getD k 0 / 2) ∧ Fut E s s.a := by
    intro a' n' st' h
    have hl : lowC { s with a := a', c := s.c + qOf (s.st.getD k 0 / 2), n := n', st := st' } = lowC s + qOf (s.st.getD k 0 / 2) := (Nat.add_assoc _ _ _).symm
    have h1 := h.ge (k := kk) (t := d.t) hN.pos (by omega) (ahead (s := s) hN.pos ht2)
    rw [hl, ← hN.num, Nat.add_mul] at h1
    refine ⟨by omega, Fut.part (s := s) (d' := s.done) h (by omega) (by omega)⟩
  have lw : ∀ {a' n' : Nat} {st' : List Nat}, Fut E { s with a := a', n := n', st := st' } (qOf (s.st.getD k 0 / 2)) → d.c / 65536 < qOf (s.st.getD k 0 / 2) ∧ Fut E s s.a := by
    intro a' n' st' h
    have h1 := h.lt (k := kk) (t := d.t) hN.pos (by omega)
    rw [← hN.num] at h1
    have hl : lowC { s with a := a', n := n', st := st' } = lowC s := rfl
    rw [hl, Nat.add_mul] at h1
    refine ⟨by omega, Fut.part (s := s) (c' := s.c) (d' := s.done) h (by omega) (by omega)⟩
  have hbit : s.st.getD k 0 % 2 < 2 := Nat.mod_lt _ (by omega)
  -- the numbers behind a step
  have nup : ¬ d.c / 65536 < qOf (s.st.getD k 0 / 2) → ∀ {a' n' : Nat} {st' : List Nat}, Sync E { s with a := a', c := s.c + qOf (s.st.getD k 0 / 2), n := n', st := st' } { d with a := a', c := d.c - qOf (s.st.getD k 0 / 2) * 65536, n := n', st := st' } := by
    intro h a' n' st'
    refine ⟨rfl, rfl, rfl, kk, ⟨hN.by_, hN.at_⟩, hN.pos, ?_⟩
    have := hN.num
    have hl : lowC { s with a := a', c := s.c + qOf (s.st.getD k 0 / 2), n := n', st := st' } = lowC s + qOf (s.st.getD k 0 / 2) := (Nat.add_assoc _ _ _).symm
    show d.c - qOf (s.st.getD k 0 / 2) * 65536 + lowC { s with a := a', c := s.c + qOf (s.st.getD k 0 / 2), n := n', st := st' } * 65536 = XE E kk * 2 ^ (16 - d.t)
    rw [hl, Nat.add_mul]
    omega
  have nlw : ∀ {a' n' : Nat} {st' : List Nat}, Sync E { s with a := a', n := n', st := st' } { d with a := a', n := n', st := st' } := by
    intro a' n' st'
    exact ⟨rfl, rfl, rfl, kk, ⟨hN.by_, hN.at_⟩, hN.pos, hN.num⟩
  have hget : getD d k = (if d.c / 65536 < qOf (s.st.getD k 0 / 2) then
    if s.a - qOf (s.st.getD k 0 / 2) < qOf (s.st.getD k 0 / 2) then (renewD 17 { d with a := qOf (s.st.getD k 0 / 2), n := s.n + 1, st := s.st.set k (upM (s.st.getD k 0)) }, s.st.getD k 0 % 2)
    else (renewD 17 { d with a := qOf (s.st.getD k 0 / 2), n := s.n + 1, st := s.st.set k (upL (s.st.getD k 0)) }, 1 - s.st.getD k 0 % 2)
  else
    if 0x8000 ≤ s.a - qOf (s.st.getD k 0 / 2) then ({ d with a := s.a - qOf (s.st.getD k 0 / 2), c := d.c - qOf (s.st.getD k 0 / 2) * 65536, n := s.n + 1, st := s.st }, s.st.getD k 0 % 2)
    else if s.a - qOf (s.st.getD k 0 / 2) < qOf (s.st.getD k 0 / 2) then (renewD 17 { d with a := s.a - qOf (s.st.getD k 0 / 2), c := d.c - qOf (s.st.getD k 0 / 2) * 65536, n := s.n + 1, st := s.st.set k (upL (s.st.getD k 0)) }, 1 - s.st.getD k 0 % 2)
    else (renewD 17 { d with a := s.a - qOf (s.st.getD k 0 / 2), c := d.c - qOf (s.st.getD k 0 / 2) * 65536, n := s.n + 1, st := s.st.set k (upM (s.st.getD k 0)) }, s.st.getD k 0 % 2)) := by
    have e1 := S.a
    have e2 := S.st
    have e3 := S.n
    obtain ⟨da, dc, dt, dn, dst, db, di⟩ := d
    simp only at e1 e2 e3
    subst e1 e2 e3
    rfl
  have hdm : ∀ {a' c' n' : Nat} {st' : List Nat}, c' ≤ d.c → (∀ x ∈ st', x < 94) → MidD { d with a := a', c := c', n := n', st := st' } := fun hc hst => ⟨hd.t8, Nat.lt_of_le_of_lt hc hdc, hd.b, hst, hd.i⟩
  rw [hget]
  unfold putM at hF ⊢
  simp only [] at hF ⊢
  generalize s.st.getD k 0 = x at *
  generalize qOf (x / 2) = q at *
  have mlw : ∀ {n' : Nat} {st' : List Nat}, (∀ x ∈ st', x < 94) → Mid { s with a := q, n := n', st := st' } := fun hst => ⟨ht1, ht2, by show s.c + q < 2 ^ (28 - s.t); omega, hs.l, hs.bs, hst⟩
  have mup : ∀ {n' : Nat} {st' : List Nat}, (∀ x ∈ st', x < 94) → Mid { s with a := s.a - q, c := s.c + q, n := n', st := st' } := fun hst => ⟨ht1, ht2, by show s.c + q + (s.a - q) < 2 ^ (28 - s.t); omega, hs.l, hs.bs, hst⟩
  have flw : ∀ {n' : Nat} {st' : List Nat}, (∀ x ∈ st', x < 94) → Fut E (renewM 17 { s with a := q, n := n', st := st' }) (renewM 17 { s with a := q, n := n', st := st' }).a →
      d.c / 65536 < q ∧ Fut E s s.a ∧ Sync E (renewM 17 { s with a := q, n := n', st := st' }) (renewD 17 { d with a := q, n := n', st := st' }) := by
    intro n' st' hst h
    have h0 := Fut.renew 17 (mlw (n' := n') hst) (by show q < _; omega) (by show _ ≤ q * _; omega) h
    obtain ⟨h1, h2⟩ := lw h0
    exact ⟨h1, h2, sync_renew hE 17 (mlw hst) (hdm (Nat.le_refl _) hst) nlw (by show q < _; omega) (by show _ ≤ q * _; omega) h⟩
  have fup : ∀ {n' : Nat} {st' : List Nat}, s.a - q < 0x8000 → 1 ≤ s.a - q → (∀ x ∈ st', x < 94) → Fut E (renewM 17 { s with a := s.a - q, c := s.c + q, n := n', st := st' }) (renewM 17 { s with a := s.a - q, c := s.c + q, n := n', st := st' }).a →
      ¬ d.c / 65536 < q ∧ Fut E s s.a ∧ Sync E (renewM 17 { s with a := s.a - q, c := s.c + q, n := n', st := st' }) (renewD 17 { d with a := s.a - q, c := d.c - q * 65536, n := n', st := st' }) := by
    intro n' st' h3 h4 hst h
    have h0 := Fut.renew 17 (mup (n' := n') hst) h3 (by show _ ≤ (s.a - q) * _; omega) h
    obtain ⟨h1, h2⟩ := up h0
    exact ⟨h1, h2, sync_renew hE 17 (mup hst) (hdm (Nat.sub_le _ _) hst) (nup h1) h3 (by show _ ≤ (s.a - q) * _; omega) h⟩
  by_cases hbx : bit = x % 2
  · rw [if_pos hbx] at hF ⊢
    by_cases h8 : 0x8000 ≤ s.a - q
    · rw [if_pos h8] at hF ⊢
      obtain ⟨h1, h2⟩ := up (a' := s.a - q) (n' := s.n + 1) (st' := s.st) hF
      rw [if_neg h1, if_pos h8]
      exact ⟨nup h1, hbx.symm, h2⟩
    · rw [if_neg h8] at hF ⊢
      by_cases hq : s.a - q < q
      · rw [if_pos hq] at hF ⊢
        obtain ⟨h1, h2, h3⟩ := flw hM hF
        rw [if_pos h1, if_pos hq]
        exact ⟨h3, hbx.symm, h2⟩
      · rw [if_neg hq] at hF ⊢
        obtain ⟨h1, h2, h3⟩ := fup (by omega) (by omega) hM hF
        rw [if_neg h1, if_neg h8, if_neg hq]
        exact ⟨h3, hbx.symm, h2⟩
  · rw [if_neg hbx] at hF ⊢
    by_cases hq : s.a - q < q
    · rw [if_pos hq] at hF ⊢
      obtain ⟨h1, h2, h3⟩ := fup (by omega) (by omega) hL hF
      rw [if_neg h1, if_neg (by omega), if_pos hq]
      exact ⟨h3, by show 1 - x % 2 = bit; omega, h2⟩
    · rw [if_neg hq] at hF ⊢
      obtain ⟨h1, h2, h3⟩ := flw hL hF
      rw [if_pos h1, if_neg hq]
      exact ⟨h3, by show 1 - x % 2 = bit; omega, h2⟩

end Go.Ar

/- BkD: no byte above 8f behind an ff; the whole run of a coder and the decoder of its bytes. No Go, no memory. -/
set_option linter.unusedVariables false
set_option linter.unusedSimpArgs false
namespace Go.Ar

structure Stf0 (s : Cod) (A : Nat) : Prop where
  bs : ∀ j, s.bs[j]? = some 255 → ∀ y, s.bs[j + 1]? = some y → y ≤ 143
  last : s.bs.getLast? = some 255 → s.l * 2 ^ (27 - s.t) + s.c + A ≤ 144 * 2 ^ (27 - s.t)
structure Stf (s : Cod) (A : Nat) : Prop extends Stf0 s A where
  ff : s.l = 255 → s.t ≤ 8 ∧ s.c + A ≤ 589824 * 2 ^ (8 - s.t)

section
variable {s : Cod} {A : Nat}
theorem Stf.part (h : Stf s A) {A' a' c' n' : Nat} {st' : List Nat} {d' : Bool} (hc : c' + A' ≤ s.c + A) : Stf { s with a := a', c := c', n := n', st := st', done := d' } A' := by
  refine ⟨⟨h.bs, fun hl => ?_⟩, fun hl => ?_⟩
  · have := h.last hl
    show s.l * 2 ^ (27 - s.t) + c' + A' ≤ 144 * 2 ^ (27 - s.t)
    omega
  · have := h.ff hl
    exact ⟨this.1, Nat.le_trans hc this.2⟩
theorem Stf.near (h : Stf s A) {j a' : Nat} (hj : j ≤ s.t) (ht : s.t ≤ 27) : Stf { s with a := a', c := s.c * 2 ^ j, t := s.t - j } (A * 2 ^ j) := by
  refine ⟨⟨h.bs, fun hl => ?_⟩, fun hl => ?_⟩
  · have h1 := Nat.mul_le_mul_right (2 ^ j) (h.last hl)
    show s.l * 2 ^ (27 - (s.t - j)) + s.c * 2 ^ j + A * 2 ^ j ≤ 144 * 2 ^ (27 - (s.t - j))
    have e : 27 - (s.t - j) = 27 - s.t + j := by omega
    rw [e, Nat.pow_add, ← Nat.mul_assoc, ← Nat.mul_assoc]
    rw [Nat.add_mul, Nat.add_mul] at h1
    exact h1
  · obtain ⟨h1, h2⟩ := h.ff hl
    have h3 := Nat.mul_le_mul_right (2 ^ j) h2
    refine ⟨by show s.t - j ≤ 8; omega, ?_⟩
    show s.c * 2 ^ j + A * 2 ^ j ≤ 589824 * 2 ^ (8 - (s.t - j))
    have e : 8 - (s.t - j) = 8 - s.t + j := by omega
    rw [e, Nat.pow_add, ← Nat.mul_assoc, ← Nat.add_mul]
    exact h3
theorem Stf.out (h : Stf s A) (ht : s.t = 0) (hc : s.c + A ≤ 2 ^ 28) (hA : 1 ≤ A) : Stf0 (outM s) A ∧ (A ≤ 65536 → Stf (outM s) A) := by
  have key : ∀ l c, (l = s.l ∧ c = s.c ∧ (l ≠ 255 → c < 2 ^ 27) ∨ l = s.l + 1 ∧ s.l ≠ 255 ∧ c + 2 ^ 27 = s.c) → Stf0 (outTail s l c) A ∧ (A ≤ 65536 → Stf (outTail s l c) A) := by
    intro l c hl
    have hbs : (outTail s l c).bs = s.bs ++ [l] := by unfold outTail; split <;> rfl
    have hchain : ∀ j, (s.bs ++ [l])[j]? = some 255 → ∀ y, (s.bs ++ [l])[j + 1]? = some y → y ≤ 143 := by
      intro j hj y hy
      have hlt := (List.getElem?_eq_some_iff.1 hy).1
      rw [List.length_append, List.length_singleton] at hlt
      rw [List.getElem?_append_left (by omega)] at hj
      rcases Nat.lt_or_ge (j + 1) s.bs.length with h1 | h1
      · rw [List.getElem?_append_left h1] at hy
        exact h.bs j hj y hy
      · have e : j + 1 = s.bs.length := by omega
        rw [e] at hy
        simp at hy
        subst hy
        have hg : s.bs.getLast? = some 255 := by rw [List.getLast?_eq_getElem?, ← e, Nat.add_sub_cancel]; exact hj
        have := h.last hg
        rw [ht] at this
        omega
    have hlast : (s.bs ++ [l]).getLast? = some 255 → l = 255 ∧ c + A ≤ 144 * 2 ^ 20 := by
      intro hg
      rw [List.getLast?_concat] at hg
      have hl2 : l = 255 := Option.some.inj hg
      refine ⟨hl2, ?_⟩
      rcases hl with ⟨h1, h2, _⟩ | ⟨h1, h2, h3⟩
      · have := (h.ff (by omega)).2
        rw [ht] at this
        omega
      · omega
    have hclt : c < 2 ^ 28 := by omega
    have h0 : Stf0 (outTail s l c) A := by
      refine ⟨by rw [hbs]; exact hchain, fun hg => ?_⟩
      rw [hbs] at hg
      obtain ⟨h1, h2⟩ := hlast hg
      unfold outTail
      rw [if_pos h1]
      show c / 1048576 % 256 * 2 ^ 20 + c % 1048576 + A ≤ 144 * 2 ^ 20
      omega
    refine ⟨h0, fun hA2 => ⟨h0, fun hl2 => ?_⟩⟩
    by_cases h3 : l = 255
    · have := h0.last (by rw [hbs, List.getLast?_concat, h3])
      rw [hl2] at this
      omega
    · unfold outTail
      rw [if_neg h3]
      refine ⟨Nat.le_refl _, ?_⟩
      show c % 524288 + A ≤ 589824
      omega
  unfold outM
  split
  · rename_i h1
    exact key _ _ (.inr ⟨rfl, h1.1, by omega⟩)
  · rename_i h1
    exact key _ _ (.inl ⟨rfl, rfl, fun h2 => by
      rcases Nat.lt_or_ge s.c 134217728 with h3 | h3
      · exact h3
      · exact absurd ⟨h2, h3⟩ h1⟩)

theorem stf_shift (h : Stf s s.a) (hm : Mid s) (ha : s.a < 0x8000) (ha1 : 1 ≤ s.a) : Stf (shiftM s) (shiftM s).a := by
  have ht1 := hm.t1
  have ht2 := hm.t12
  have hca := hm.ca
  have h1 := h.near (j := 1) (a' := 2 * s.a) ht1 (by omega)
  rw [Nat.pow_one, Nat.mul_comm s.c 2, Nat.mul_comm s.a 2] at h1
  unfold shiftM
  simp only []
  split
  · rename_i h0
    have h0 : s.t - 1 = 0 := h0
    have ht : s.t = 1 := by omega
    rw [ht] at hca
    rw [(outM_same _).1]
    exact (h1.out h0 (by show 2 * s.c + 2 * s.a ≤ _; omega) (by omega)).2 (by omega)
  · exact h1
theorem stf_renew : ∀ (k : Nat) {s : Cod}, Stf s s.a → Mid s → s.a < 0x8000 → 1 ≤ s.a → Stf (renewM k s) (renewM k s).a
  | 0, s, h, _, _, _ => h
  | k + 1, s, h, hm, ha, ha1 => by
    obtain ⟨g1, g2, _⟩ := shiftM_mid hm ha
    unfold renewM
    simp only []
    split
    · exact stf_shift h hm ha ha1
    · exact stf_renew k (stf_shift h hm ha ha1) g1 (by omega) (by omega)
theorem stf_put (h : Stf s s.a) (hs : Wf s) (k bit : Nat) : Stf (putM s k bit) (putM s k bit).a := by
  have hx := getD_lt hs.st k
  have hr : s.st.getD k 0 / 2 < 47 := by omega
  have hq1 := qOf_pos hr
  have hq2 := qOf_le hr
  have hM := set_lt hs.st (k := k) (upM_lt hx)
  have hL := set_lt hs.st (k := k) (upL_lt hx)
  have hlo := hs.lo
  have hhi := hs.hi
  have hca := hs.ca
  unfold putM
  simp only []
  generalize s.st.getD k 0 = x at *
  generalize qOf (x / 2) = q at *
  have lw : ∀ {n' : Nat} {st' : List Nat}, (∀ x ∈ st', x < 94) → Stf (renewM 17 { s with a := q, n := n', st := st' }) (renewM 17 { s with a := q, n := n', st := st' }).a := fun {n' st'} hst =>
    stf_renew 17 (h.part (c' := s.c) (A' := q) (d' := s.done) (by omega)) ⟨hs.t1, hs.t12, by show s.c + q < 2 ^ (28 - s.t); omega, hs.l, hs.bs, hst⟩ (by show q < _; omega) hq1
  have up : ∀ {n' : Nat} {st' : List Nat}, s.a - q < 0x8000 → 1 ≤ s.a - q → (∀ x ∈ st', x < 94) → Stf (renewM 17 { s with a := s.a - q, c := s.c + q, n := n', st := st' }) (renewM 17 { s with a := s.a - q, c := s.c + q, n := n', st := st' }).a := fun {n' st'} h1 h2 hst =>
    stf_renew 17 (h.part (c' := s.c + q) (A' := s.a - q) (d' := s.done) (by omega)) ⟨hs.t1, hs.t12, by show s.c + q + (s.a - q) < 2 ^ (28 - s.t); omega, hs.l, hs.bs, hst⟩ h1 h2
  split
  · split
    · exact h.part (a' := s.a - q) (c' := s.c + q) (A' := s.a - q) (n' := s.n + 1) (st' := s.st) (d' := s.done) (by omega)
    · split
      · exact lw hM
      · exact up (by omega) (by omega) hM
  · split
    · exact up (by omega) (by omega) hL
    · exact lw hL
theorem stf_new (m : Nat) : Stf (newC m) (newC m).a := ⟨⟨fun j hj => by simp [newC] at hj, fun hl => by simp [newC] at hl⟩, fun hl => by simp [newC] at hl⟩

theorem stf_flush (h : Stf s s.a) (hs : Wf s) : Stf0 (flushM s) 1 := by
  have hca := hs.ca
  have ht1 := hs.t1
  have ht2 := hs.t12
  have hlo := hs.lo
  have hf1 : s.c ≤ flushC s ∧ flushC s + 1 ≤ s.c + s.a := by
    unfold flushC
    simp only []
    split <;> omega
  have h0 : Stf { s with c := flushC s, done := true } 1 := h.part (a' := s.a) (n' := s.n) (st' := s.st) (by omega)
  have hS : flushM s = flushS (flushS { s with c := flushC s, done := true }) := rfl
  rw [hS]
  generalize hS0 : ({ s with c := flushC s, done := true } : Cod) = S0 at h0
  have hS0t : S0.t = s.t := by rw [← hS0]
  have hS0c : S0.c = flushC s := by rw [← hS0]
  have h1 := h0.near (j := S0.t) (a' := S0.a) (Nat.le_refl _) (by omega)
  have hp : (2 : Nat) ^ (28 - s.t) * 2 ^ s.t = 2 ^ 28 := by rw [← Nat.pow_add]; congr 1; omega
  have hp12 : (2 : Nat) ^ s.t ≤ 2 ^ 12 := Nat.pow_le_pow_right (by omega) ht2
  have h2 := (h1.out (Nat.sub_self _) (by
    show S0.c * 2 ^ S0.t + 1 * 2 ^ S0.t ≤ 2 ^ 28
    rw [← Nat.add_mul, hS0c, hS0t, ← hp]
    exact Nat.mul_le_mul_right _ (by omega)) (by have := Nat.two_pow_pos S0.t; omega)).2 (by rw [hS0t]; omega)
  have e1 : outM { S0 with c := S0.c * 2 ^ S0.t, t := S0.t - S0.t } = flushS S0 := outM_t { S0 with c := S0.c * 2 ^ S0.t } _
  rw [e1] at h2
  obtain ⟨hc1, ht1'⟩ := outM_ct { S0 with c := S0.c * 2 ^ S0.t, t := S0.t - S0.t }
  rw [e1] at hc1 ht1'
  generalize flushS S0 = S1 at *
  rw [hS0t, Nat.one_mul] at h2
  have h3 := h2.near (j := S1.t) (a' := S1.a) (Nat.le_refl _) (by omega)
  have hp1 : (2 : Nat) ^ (27 - S1.t) * 2 ^ S1.t = 2 ^ 27 := by rw [← Nat.pow_add]; congr 1; omega
  have hc1lt : S1.c < 2 ^ (27 - S1.t) := by rw [hc1]; exact Nat.mod_lt _ (Nat.two_pow_pos _)
  have hp8 : (2 : Nat) ^ S1.t ≤ 2 ^ 8 := Nat.pow_le_pow_right (by omega) (by omega)
  have hpp : 2 ^ s.t * 2 ^ S1.t ≤ 2 ^ 12 * 2 ^ 8 := Nat.mul_le_mul hp12 hp8
  have hpz : 0 < 2 ^ s.t * 2 ^ S1.t := Nat.mul_pos (Nat.two_pow_pos _) (Nat.two_pow_pos _)
  have h4 := (h3.out (Nat.sub_self _) (by
    show S1.c * 2 ^ S1.t + 2 ^ s.t * 2 ^ S1.t ≤ 2 ^ 28
    have := Nat.mul_lt_mul_of_pos_right hc1lt (Nat.two_pow_pos S1.t)
    omega) hpz).1
  have e2 : outM { S1 with c := S1.c * 2 ^ S1.t, t := S1.t - S1.t } = flushS S1 := outM_t { S1 with c := S1.c * 2 ^ S1.t } _
  rw [e2] at h4
  exact ⟨h4.bs, fun hl => by have := h4.last hl; omega⟩
end

theorem codeE_get {F : Cod} (j : Nat) (h : j < F.bs.length) : fE (codeE F) j = F.bs.getD j 0 ∧ F.bs[j]? = some (fE (codeE F) j) := by
  unfold fE codeE
  rw [List.getD_eq_getElem?_getD, List.getD_eq_getElem?_getD, List.getElem?_append_left h, List.getElem?_eq_getElem h]
  exact ⟨rfl, rfl⟩
theorem codeE_last {F : Cod} : fE (codeE F) F.bs.length = F.l := by
  unfold fE codeE
  rw [List.getD_eq_getElem?_getD]; simp
theorem codeE_len {F : Cod} : (codeE F).length = F.bs.length + 1 := by simp [codeE]
theorem Stf0.prev {F : Cod} (h : Stf0 F 1) (hl : F.bs.getLast? = some 255) : F.l ≤ 143 := by
  have h1 := h.last hl
  have h2 := Nat.two_pow_pos (27 - F.t)
  have h3 : F.l * 2 ^ (27 - F.t) < 144 * 2 ^ (27 - F.t) := by omega
  have := Nat.lt_of_mul_lt_mul_right h3
  omega
theorem Stf0.stuffed {F : Cod} (h : Stf0 F 1) : Stuffed (codeE F) := by
  intro j hj hlt
  rw [codeE_len] at hlt
  have hjl : j < F.bs.length := by omega
  have h1 := (codeE_get j hjl).2
  rw [hj] at h1
  rcases Nat.lt_or_ge (j + 1) F.bs.length with h2 | h2
  · exact h.bs j h1 _ (codeE_get (j + 1) h2).2
  · have e : j + 1 = F.bs.length := by omega
    rw [e, codeE_last]
    refine h.prev ?_
    rw [List.getLast?_eq_getElem?, ← e, Nat.add_sub_cancel]
    exact h1

/-- The bytes: the code without its first byte, and without an ff at its end. -/
theorem bytes_code {F : Cod} (j : Nat) : (bytesM F).getD j 255 = fE (codeE F) (j + 1) := by
  have hc : bytesM F = if F.l = 255 then ((codeE F).drop 1).dropLast else (codeE F).drop 1 := rfl
  have hd : ((codeE F).drop 1).getD j 255 = fE (codeE F) (j + 1) := by
    unfold fE
    rw [List.getD_eq_getElem?_getD, List.getD_eq_getElem?_getD, List.getElem?_drop, Nat.add_comm 1 j]
  rw [hc]
  split
  · rename_i hl
    have hlen := codeE_len (F := F)
    have hdl : ((codeE F).drop 1).length = F.bs.length := by rw [List.length_drop, hlen]; omega
    rcases Nat.lt_trichotomy (j + 1) F.bs.length with h1 | h1 | h1
    · rw [← hd, List.getD_eq_getElem?_getD, List.getD_eq_getElem?_getD, List.dropLast_eq_take, List.getElem?_take_of_lt (by omega)]
    · have e : fE (codeE F) (j + 1) = 255 := by rw [h1, codeE_last, hl]
      rw [e, List.getD_eq_getElem?_getD, List.getElem?_eq_none (by rw [List.length_dropLast]; omega)]
      rfl
    · rw [fE_end _ (by omega), List.getD_eq_getElem?_getD, List.getElem?_eq_none (by rw [List.length_dropLast]; omega)]
      rfl
  · exact hd
theorem bytes_ff {F : Cod} (h : Stf0 F 1) {i : Nat} (hi : (bytesM F)[i]? = some 255) : i + 1 < (bytesM F).length ∧ ∀ y, (bytesM F)[i + 1]? = some y → y ≤ 143 := by
  have hlen := codeE_len (F := F)
  have h0 := h.stuffed
  have hil := (List.getElem?_eq_some_iff.1 hi).1
  have e0 := bytes_code (F := F) i
  rw [List.getD_eq_getElem?_getD, hi] at e0
  have e0 : fE (codeE F) (i + 1) = 255 := e0.symm
  have hbl : (bytesM F).length = if F.l = 255 then F.bs.length - 1 else F.bs.length := by
    have hc : bytesM F = if F.l = 255 then ((codeE F).drop 1).dropLast else (codeE F).drop 1 := rfl
    rw [hc]
    split
    · rw [List.length_dropLast, List.length_drop, hlen]; omega
    · rw [List.length_drop, hlen]; omega
  have hlt : i + 1 < (bytesM F).length := by
    rcases Nat.lt_or_ge (i + 1) (bytesM F).length with h1 | h1
    · exact h1
    · exfalso
      by_cases hl : F.l = 255
      · rw [if_pos hl] at hbl
        have h2 := h0 (i + 1) e0 (by omega)
        have h3 : i + 1 + 1 = F.bs.length := by omega
        rw [h3, codeE_last] at h2
        omega
      · rw [if_neg hl] at hbl
        have h3 : i + 1 = F.bs.length := by omega
        rw [h3, codeE_last] at e0
        exact hl e0
  refine ⟨hlt, fun y hy => ?_⟩
  have e1 := bytes_code (F := F) (i + 1)
  rw [List.getD_eq_getElem?_getD, hy] at e1
  have e1 : y = fE (codeE F) (i + 1 + 1) := e1
  rw [e1]
  refine h0 (i + 1) e0 ?_
  have : (bytesM F).length ≤ F.bs.length := by rw [hbl]; split <;> omega
  omega

/-- Backwards over a decision. -/
theorem fut_put {E : List Nat} {s : Cod} (hs : Wf s) {k bit : Nat} (hF : Fut E (putM s k bit) (putM s k bit).a) : Fut E s s.a := by
  have hx := getD_lt hs.st k
  have hr : s.st.getD k 0 / 2 < 47 := by omega
  have hq1 := qOf_pos hr
  have hq2 := qOf_le hr
  have hM := set_lt hs.st (k := k) (upM_lt hx)
  have hL := set_lt hs.st (k := k) (upL_lt hx)
  have hlo := hs.lo
  have hhi := hs.hi
  have hca := hs.ca
  have h17 : (2 : Nat) ^ 17 = 131072 := rfl
  unfold putM at hF
  simp only [] at hF
  generalize s.st.getD k 0 = x at *
  generalize qOf (x / 2) = q at *
  have lw : ∀ {n' : Nat} {st' : List Nat}, (∀ x ∈ st', x < 94) → Fut E (renewM 17 { s with a := q, n := n', st := st' }) (renewM 17 { s with a := q, n := n', st := st' }).a → Fut E s s.a := fun {n' st'} hst h =>
    Fut.part (s := s) (c' := s.c) (d' := s.done) (Fut.renew 17 (s := { s with a := q, n := n', st := st' }) ⟨hs.t1, hs.t12, by show s.c + q < 2 ^ (28 - s.t); omega, hs.l, hs.bs, hst⟩ (by show q < _; omega) (by show _ ≤ q * _; omega) h) (by omega) (by show s.c + q ≤ _; omega)
  have up : ∀ {n' : Nat} {st' : List Nat}, s.a - q < 0x8000 → 1 ≤ s.a - q → (∀ x ∈ st', x < 94) → Fut E (renewM 17 { s with a := s.a - q, c := s.c + q, n := n', st := st' }) (renewM 17 { s with a := s.a - q, c := s.c + q, n := n', st := st' }).a → Fut E s s.a := fun {n' st'} h1 h2 hst h =>
    Fut.part (s := s) (d' := s.done) (Fut.renew 17 (s := { s with a := s.a - q, c := s.c + q, n := n', st := st' }) ⟨hs.t1, hs.t12, by show s.c + q + (s.a - q) < 2 ^ (28 - s.t); omega, hs.l, hs.bs, hst⟩ h1 (by show _ ≤ (s.a - q) * _; omega) h) (by omega) (by show s.c + q + (s.a - q) ≤ _; omega)
  split at hF
  · split at hF
    · exact Fut.part (s := s) (A := s.a - q) (d' := s.done) hF (by omega) (by omega)
    · split at hF
      · exact lw hM hF
      · exact up (by omega) (by omega) hM hF
  · split at hF
    · exact up (by omega) (by omega) hL hF
    · exact lw hL hF

/-- At the beginning. -/
theorem sync_new {E : List Nat} {m : Nat} {b : List Nat} (hE : Stuffed E) (hb : ∀ j, b.getD j 255 = fE E (j + 1)) (hlt : ∀ x ∈ b, x < 256) (hF : Fut E (newC m) (newC m).a) : Sync E (newC m) (newD b m) := by
  have hX0 : fE E 0 = 0 := by
    have := hF.hi 0
    have e : lowC (newC m) = 0 := by simp [lowC, newC, valL, valR]
    rw [e] at this
    have e2 : XE E 0 = fE E 0 := rfl
    rw [e2] at this
    simp [newC, BE] at this
    omega
  have hb0 : ∀ d : Dec, d.b = b → ∀ j, byteD d j = fE E (j + 1) := fun d e j => by unfold byteD; rw [e]; exact hb j
  have hl1 : lenE E 1 = 8 := by
    unfold lenE
    rw [if_neg]
    rintro ⟨_, h⟩
    rw [show 1 - 1 = 0 from rfl, hX0] at h
    omega
  have hX1 : XE E 1 = fE E 1 := by
    show XE E 0 * 2 ^ lenE E 1 + fE E 1 = _
    have : XE E 0 = 0 := hX0
    rw [this]; omega
  have hf1 : fE E 1 < 256 := by rw [← hb0 { a := 0, c := 0, t := 0, n := 0, st := [], b := b, i := 0 } rfl 0]; exact byteD_lt (s := { a := 0, c := 0, t := 0, n := 0, st := [], b := b, i := 0 }) hlt 0
  have hf2 : fE E 2 < 256 := by rw [← hb0 { a := 0, c := 0, t := 0, n := 0, st := [], b := b, i := 0 } rfl 1]; exact byteD_lt (s := { a := 0, c := 0, t := 0, n := 0, st := [], b := b, i := 0 }) hlt 1
  have hc0 : b.getD 0 255 = fE E 1 := hb 0
  generalize hd : ({ a := 0x8000, c := b.getD 0 255 * 65536, t := 0, n := 0, st := List.replicate m 0, b := b, i := 0 } : Dec) = d
  have hdc : d.c = fE E 1 * 65536 := by rw [← hd]; show b.getD 0 255 * 65536 = _; rw [hc0]
  have hP : Pos E d 1 := ⟨hb0 d (by rw [← hd]), .inl (by rw [← hd])⟩
  obtain ⟨q1, q2, q3⟩ := inD_pos hE hP
  have hnew : newD b m = { inD d with c := (inD d).c * 128 % M32, t := (inD d).t - 7 } := by rw [← hd]; rfl
  have hst : (inD d).a = 0x8000 ∧ (inD d).n = 0 ∧ (inD d).st = List.replicate m 0 := by
    rw [← hd]; unfold inD; split
    · exact ⟨rfl, rfl, rfl⟩
    · split <;> exact ⟨rfl, rfl, rfl⟩
  obtain ⟨l1, l2⟩ := lenE_le E 2
  have hXX : XE E 2 = fE E 1 * 2 ^ lenE E 2 + fE E 2 := by show XE E 1 * _ + _ = _; rw [hX1]
  have hBB : BE E 2 = 8 + lenE E 2 := by show 0 + lenE E 1 + lenE E 2 = _; rw [hl1]
  have q2 : (inD d).t = lenE E 2 := q2
  have q3 : (inD d).c = (d.c + fE E 2 * 2 ^ (16 - lenE E 2)) % M32 := q3
  rw [hnew]
  refine ⟨hst.1, hst.2.2, hst.2.1, 2, ⟨⟨q1.by_, q1.at_⟩, ?_, ?_⟩⟩
  · show BE E 2 = 0 + (27 - 12) + ((inD d).t - 7)
    omega
  · have e : lowC (newC m) = 0 := by simp [lowC, newC, valL, valR]
    show (inD d).c * 128 % M32 + lowC (newC m) * 65536 = XE E 2 * 2 ^ (16 - ((inD d).t - 7))
    have hM : M32 = 4294967296 := rfl
    rw [e, q3, q2, hXX, hdc, hM]
    rcases (show lenE E 2 = 7 ∨ lenE E 2 = 8 by omega) with h | h <;> rw [h] <;> simp only [show (16 - 7) = 9 from rfl, show 16 - 8 = 8 from rfl, show 16 - (7 - 7) = 16 from rfl, show 16 - (8 - 7) = 15 from rfl] <;> omega

/-! ### the whole run -/
section
variable (k b : Nat → Nat) (m cnt : Nat)
theorem codN_wf (h : ∀ i, i < cnt → b i ≤ 1) : ∀ i, i ≤ cnt → i ≤ 16777216 → Wf (codN k b m i) ∧ (codN k b m i).n = i
  | 0, _, _ => ⟨newC_wf m, rfl⟩
  | i + 1, hi, h2 => by
    obtain ⟨g1, g2⟩ := codN_wf h i (by omega) (by omega)
    exact ⟨putM_wf g1 _ _ (by omega), by show (putM _ _ _).n = _; rw [(putM_n _ _ _).1, g2]⟩
theorem codN_stf (h : ∀ i, i < cnt → b i ≤ 1) : ∀ i, i ≤ cnt → i ≤ 16777216 → Stf (codN k b m i) (codN k b m i).a
  | 0, _, _ => stf_new m
  | i + 1, hi, h2 => stf_put (codN_stf h i (by omega) (by omega)) (codN_wf k b m cnt h i (by omega) (by omega)).1 _ _
theorem fut_run (h : ∀ i, i < cnt → b i ≤ 1) (hc : cnt ≤ 16777216) : ∀ d, d ≤ cnt → Fut (codeE (flushM (codN k b m cnt))) (codN k b m (cnt - d)) (codN k b m (cnt - d)).a
  | 0, _ => fut_flush (codN_wf k b m cnt h cnt (Nat.le_refl _) hc).1
  | d + 1, hd => by
    have h1 := fut_run h hc d (by omega)
    have e : cnt - d = (cnt - (d + 1)) + 1 := by omega
    rw [e] at h1
    exact fut_put (codN_wf k b m cnt h _ (by omega) (by omega)).1 h1
theorem decN_wfD {bytes : List Nat} (hb : ∀ x ∈ bytes, x < 256) : ∀ i, i ≤ 16777216 → WfD (decN k bytes m i) ∧ (decN k bytes m i).n = i
  | 0, _ => by
    have hnew : ∀ d : Dec, MidD d → d.a = 0x8000 → d.n = 0 → WfD { inD d with c := (inD d).c * 128 % M32, t := (inD d).t - 7 } ∧ ({ inD d with c := (inD d).c * 128 % M32, t := (inD d).t - 7 } : Dec).n = 0 := fun d hd ha hn => by
      obtain ⟨i1, i2, i3, i4, i5, i6⟩ := inD_mid hd
      have := i1.t8
      exact ⟨⟨⟨by show (inD d).t - 7 ≤ 8; omega, Nat.mod_lt _ (by decide), i1.b, i1.st, i1.i⟩, by show (inD d).n ≤ _; omega, by show _ ≤ (inD d).a; omega, by show (inD d).a < _; omega⟩, by show (inD d).n = 0; omega⟩
    refine hnew { a := 0x8000, c := bytes.getD 0 255 * 65536, t := 0, n := 0, st := List.replicate m 0, b := bytes, i := 0 } ⟨Nat.zero_le _, ?_, hb, fun x hx => by simp only [List.mem_replicate] at hx; omega, Nat.zero_le _⟩ rfl rfl
    have := byteD_lt (s := { a := 0, c := 0, t := 0, n := 0, st := [], b := bytes, i := 0 }) hb 0
    have e : byteD { a := 0, c := 0, t := 0, n := 0, st := [], b := bytes, i := 0 } 0 = bytes.getD 0 255 := rfl
    show bytes.getD 0 255 * 65536 < 4294967296
    omega
  | i + 1, h => by
    obtain ⟨g1, g2⟩ := decN_wfD hb i (by omega)
    refine ⟨getD_wf g1 _ (by omega), ?_⟩
    have hrn : ∀ (j : Nat) (s : Dec), (renewD j s).n = s.n := by
      have hi : ∀ s : Dec, (inD s).n = s.n := fun s => by unfold inD; split; rfl; split <;> rfl
      have hs : ∀ s : Dec, (shiftD s).n = s.n := fun s => by unfold shiftD; simp only []; split; exact hi s; rfl
      intro j
      induction j with
      | zero => intro s; rfl
      | succ j ih => intro s; unfold renewD; simp only []; split; exact hs s; exact (ih _).trans (hs s)
    show (getD (decN k bytes m i) (k i)).1.n = i + 1
    unfold getD
    simp only []
    split
    · split <;> (rw [hrn]; exact congrArg (· + 1) g2)
    · split
      · exact congrArg (· + 1) g2
      · split <;> (rw [hrn]; exact congrArg (· + 1) g2)
theorem back_run (h : ∀ i, i < cnt → b i ≤ 1) (hc : cnt ≤ 16777216) (hlt : ∀ x ∈ bytesM (flushM (codN k b m cnt)), x < 256) : ∀ i, i ≤ cnt →
    Sync (codeE (flushM (codN k b m cnt))) (codN k b m i) (decN k (bytesM (flushM (codN k b m cnt))) m i)
  | 0, _ => by
    have hE := (stf_flush (codN_stf k b m cnt h cnt (Nat.le_refl _) hc) (codN_wf k b m cnt h cnt (Nat.le_refl _) hc).1).stuffed
    have hF := fut_run k b m cnt h hc cnt (Nat.le_refl _)
    rw [Nat.sub_self] at hF
    exact sync_new hE bytes_code hlt hF
  | i + 1, hi => by
    have hE := (stf_flush (codN_stf k b m cnt h cnt (Nat.le_refl _) hc) (codN_wf k b m cnt h cnt (Nat.le_refl _) hc).1).stuffed
    have hF := fut_run k b m cnt h hc (cnt - (i + 1)) (by omega)
    rw [show cnt - (cnt - (i + 1)) = i + 1 by omega] at hF
    exact (sync_put hE (codN_wf k b m cnt h i (by omega) (by omega)).1 (decN_wfD k m hlt i (by omega)).1 (back_run h hc hlt i (by omega)) (h i (by omega)) hF).1
theorem back_bit (h : ∀ i, i < cnt → b i ≤ 1) (hc : cnt ≤ 16777216) (hlt : ∀ x ∈ bytesM (flushM (codN k b m cnt)), x < 256) {i : Nat} (hi : i < cnt) :
    (getD (decN k (bytesM (flushM (codN k b m cnt))) m i) (k i)).2 = b i := by
  have hE := (stf_flush (codN_stf k b m cnt h cnt (Nat.le_refl _) hc) (codN_wf k b m cnt h cnt (Nat.le_refl _) hc).1).stuffed
  have hF := fut_run k b m cnt h hc (cnt - (i + 1)) (by omega)
  rw [show cnt - (cnt - (i + 1)) = i + 1 by omega] at hF
  exact (sync_put hE (codN_wf k b m cnt h i (by omega) (by omega)).1 (decN_wfD k m hlt i (by omega)).1 (back_run k b m cnt h hc hlt i (by omega)) (h i hi) hF).2.1
end

end Go.Ar

/- RfL: refinement, plain law: what is coded is decoded as the same bitmap. -/
set_option linter.unusedVariables false
set_option linter.unusedSimpArgs false
namespace Go.Bm
open Go Go.Den Go.Den.Ytcicfilkdhhnmaa
open Go.Ar (Cod Dec codN decN newC newD idx bytesM flushM)

section
variable (G R : Int → Int → Bool) (W m : Nat) (dx dy base : Int)
def kf (i : Nat) : Nat := idx (base + ((ctxN G R dx dy ((i % W : Nat) : Int) ((i / W : Nat) : Int) : Nat) : Int)) m
def bf (i : Nat) : Nat := (G ((i % W : Nat) : Int) ((i / W : Nat) : Int)).toNat
theorem enc_run : ∀ k, runN W R dx dy (stepP m base) k (G, newC m) = .inl (G, codN (kf G R W m dx dy base) (bf G W) m k)
  | 0 => rfl
  | k + 1 => by
    unfold runN
    rw [enc_run k]
    simp only [stepP, upd_self]
    rfl
/-- What is decoded of it so far. -/
def partG (i : Nat) : Int → Int → Bool := fun x y => decide (0 ≤ x ∧ x < W ∧ 0 ≤ y ∧ y.toNat * W + x.toNat < i) && G x y
variable (hG : ∀ x y : Int, ¬ (0 ≤ x ∧ x < W ∧ 0 ≤ y) → G x y = false)
include hG
theorem partG_eq {i : Nat} {x y : Int} (h : 0 ≤ x → x < W → 0 ≤ y → y.toNat * W + x.toNat < i) : partG G W i x y = G x y := by
  unfold partG
  by_cases h1 : 0 ≤ x ∧ x < W ∧ 0 ≤ y
  · rw [decide_eq_true ⟨h1.1, h1.2.1, h1.2.2, h h1.1 h1.2.1 h1.2.2⟩, Bool.true_and]
  · rw [hG _ _ h1, Bool.and_false]
theorem part_ctx {x y : Nat} (hx : x < W) : ctxN (partG G W (y * W + x)) R dx dy x y = ctxN G R dx dy x y := by
  have up : ∀ a : Int, a ≤ x + 1 → partG G W (y * W + x) a ((y : Int) + -1) = G a ((y : Int) + -1) := fun a ha => partG_eq G W hG fun h1 h2 h3 => by
    obtain ⟨yy, rfl⟩ : ∃ yy, y = yy + 1 := ⟨y - 1, by omega⟩
    have e : (((yy + 1 : Nat) : Int) + -1).toNat = yy := by omega
    rw [e, Nat.add_mul, Nat.one_mul]
    omega
  have e1 := up ((x : Int) - 1) (by omega)
  have e2 := up (x : Int) (by omega)
  have e3 := up ((x : Int) + 1) (by omega)
  have e4 : partG G W (y * W + x) ((x : Int) - 1) ((y : Int) + 0) = G ((x : Int) - 1) ((y : Int) + 0) := partG_eq G W hG fun h1 h2 h3 => by
    have e : ((y : Int) + 0).toNat = y := by omega
    rw [e]
    omega
  unfold ctxN ownB
  rw [e1, e2, e3, e4]
theorem partG_next {x y : Nat} (hx : x < W) : upd (partG G W (y * W + x)) (x : Int) (y : Int) (G (x : Int) (y : Int)) = partG G W (y * W + x + 1) := by
  have _ := hG
  funext a b
  unfold upd
  by_cases h1 : a = x ∧ b = y
  · obtain ⟨rfl, rfl⟩ := h1
    rw [if_pos ⟨rfl, rfl⟩]
    unfold partG
    rw [decide_eq_true ⟨by omega, by omega, by omega, by simp⟩, Bool.true_and]
  · rw [if_neg h1]
    unfold partG
    congr 1
    rw [decide_eq_decide]
    constructor
    · rintro ⟨h2, h3, h4, h5⟩; exact ⟨h2, h3, h4, by omega⟩
    · rintro ⟨h2, h3, h4, h5⟩
      refine ⟨h2, h3, h4, ?_⟩
      rcases Nat.lt_or_ge (b.toNat * W + a.toNat) (y * W + x) with h6 | h6
      · exact h6
      · exfalso
        have h7 : b.toNat * W + a.toNat = y * W + x := by omega
        have := idx_inj (wd := W) (c := a.toNat) (c' := x) (y := b.toNat) (y' := y) (by omega) hx h7
        exact h1 ⟨by omega, by omega⟩
theorem dec_run {cnt : Nat} (hW : 1 ≤ W) (hc : cnt ≤ 16777216) (hlt : ∀ x ∈ bytesM (flushM (codN (kf G R W m dx dy base) (bf G W) m cnt)), x < 256) : ∀ i, i ≤ cnt →
    runN W R dx dy (stepG m base) i (fun _ _ => false, newD (bytesM (flushM (codN (kf G R W m dx dy base) (bf G W) m cnt))) m) = .inl (partG G W i, decN (kf G R W m dx dy base) (bytesM (flushM (codN (kf G R W m dx dy base) (bf G W) m cnt))) m i)
  | 0, _ => by
    have : partG G W 0 = fun _ _ => false := by
      funext x y
      unfold partG
      rw [decide_eq_false (by omega), Bool.false_and]
    rw [this]
    rfl
  | i + 1, hi => by
    have hb := Go.Ar.back_bit (kf G R W m dx dy base) (bf G W) m cnt (fun j _ => toNat_le _) hc hlt (i := i) (by omega)
    have hx : i % W < W := Nat.mod_lt _ (by omega)
    have hi2 : i / W * W + i % W = i := by rw [Nat.mul_comm]; exact Nat.div_add_mod i W
    have h1 := part_ctx G R W dx dy hG (x := i % W) (y := i / W) hx
    have h2 := partG_next G W hG (x := i % W) (y := i / W) hx
    rw [hi2] at h1 h2
    unfold runN
    rw [dec_run hW hc hlt i (by omega)]
    simp only [stepG]
    rw [h1]
    have hk : idx (base + ((ctxN G R dx dy ((i % W : Nat) : Int) ((i / W : Nat) : Int) : Nat) : Int)) m = kf G R W m dx dy base i := rfl
    rw [hk, hb]
    have hbit : decide (bf G W i = 1) = G ((i % W : Nat) : Int) ((i / W : Nat) : Int) := by
      unfold bf
      cases G ((i % W : Nat) : Int) ((i / W : Nat) : Int) <;> rfl
    rw [hbit, h2]
    rfl
end
end Go.Bm

/- BkE: the law ArithBack, said of memory. -/
set_option linter.unusedVariables false
set_option linter.unusedSimpArgs false
namespace Go.Ar
open Go Go.Den Go.Den.Ytcicfilkdhhnmaa

theorem eq_ok' {h : Heap} {a b : Option Addr} {ac bc nx ny : Nat} {xs ys : List Nat} (ex : xs.length = nx) (ey : ys.length = ny) (ha : rdO h a (nx * 1) (u8s xs)) (hb : rdO h b (ny * 1) (u8s ys)) (hlen : nx < 140737488351300)
    {K : Value → Heap → Prop} {Kp : List PanicEntry → Heap → Prop} (hk : K (.bool (decide (xs = ys))) h) : CP F_burinref0_Eq #[.slice a nx ac, .slice b ny bc] h K Kp := by
  subst ex ey
  exact eq_ok ha hb hlen hk
/-- The decisions that are kept. -/
def decs (C : Nat → Int) (b : Nat → Nat) : Nat → List Value
  | 0 => []
  | n + 1 => decs C b n ++ [.int .i64 (C n), .int .i64 (b n : Nat)]
theorem decs_length (C : Nat → Int) (b : Nat → Nat) : ∀ n, (decs C b n).length = n * 2
  | 0 => rfl
  | n + 1 => by rw [decs, List.length_append, decs_length C b n]; show n * 2 + 2 = _; omega
theorem decs_get (C : Nat → Int) (b : Nat → Nat) : ∀ {n i : Nat}, i < n → (decs C b n)[i * 2]? = some (.int .i64 (C i)) ∧ (decs C b n)[i * 2 + 1]? = some (.int .i64 (b i : Nat))
  | 0, i, h => by omega
  | n + 1, i, h => by
    rw [decs]
    have hl := decs_length C b n
    rcases Nat.lt_or_ge i n with h1 | h1
    · obtain ⟨g1, g2⟩ := decs_get C b h1
      exact ⟨get_app g1, get_app g2⟩
    · have : i = n := by omega
      subst this
      exact ⟨app_get (m := i * 2) hl 0 rfl, app_get (m := i * 2) hl 1 rfl⟩

/-- The rows of the states that are kept, and their slices. -/
structure Kept (m cnt : Nat) (st : Nat → List Nat) (vs : List Value) (R : List Ent) : Prop where
  row : ∀ j, j < cnt → ∃ b rest, (⟨b, true, T_uint8, u8s (st (j + 1)) ++ rest⟩ : Ent) ∈ R ∧ vs[j]? = some (.slice (some ⟨b, 0, none⟩) m (m + rest.length))
  w : R.all Ent.w = true

end Go.Ar

/- RfM: what refine.Encode answers, refine.Decode answers with the same bitmap. -/
set_option linter.unusedVariables false
set_option linter.unusedSimpArgs false
namespace Go.Bm
open Go Go.Den Go.Den.Ytcicfilkdhhnmaa
open Go.Ar (Cod Dec codN decN newC newD idx bytesM flushM)

theorem getP_out (ws : List Nat) (W X : Nat) (x y : Int) (h : ¬ (0 ≤ x ∧ x < W ∧ 0 ≤ y)) : getP ws W X x y = false := by
  unfold getP
  rw [decide_eq_false (by omega), Bool.false_and]
theorem getP_ext {W X : Nat} {a b : List Nat} (ha : a.length = X * wds W) (hb : b.length = X * wds W) (wa : W64 a) (wb : W64 b) (za : PadZ W X a) (zb : PadZ W X b) (h : getP a W X = getP b W X) : a = b := by
  refine pix_ext ha hb wa wb fun y hy x hx => ?_
  rcases Nat.lt_or_ge x W with h1 | h1
  · have := congrFun (congrFun h (x : Int)) (y : Int)
    unfold getP at this
    rw [decide_eq_true (by omega), Bool.true_and, Bool.true_and, Int.toNat_natCast, Int.toNat_natCast] at this
    exact this
  · rw [za y hy x h1 hx, zb y hy x h1 hx]
theorem part_all (ws : List Nat) (W X : Nat) : partG (getP ws W X) W (X * W) = getP ws W X := by
  funext x y
  unfold partG
  by_cases h : 0 ≤ x ∧ 0 ≤ y ∧ x < W ∧ y < X
  · have h2 : y.toNat * W + x.toNat < X * W := by
      have : (y.toNat + 1) * W ≤ X * W := Nat.mul_le_mul_right _ (by omega)
      rw [Nat.add_mul, Nat.one_mul] at this
      omega
    rw [decide_eq_true ⟨h.1, h.2.2.1, h.2.1, h2⟩, Bool.true_and]
  · unfold getP
    rw [decide_eq_false h, Bool.false_and, Bool.and_false]
theorem rf_back {W X : Nat} {w2 b2 : Int} {ws ws2 : List Nat} {dx dy e e' w' b' : Int} {bs bs' : List Nat} {s' : Dec} (hm : MayP (W : Int) (X : Int) ws) (hw : W64 ws) (hm2 : MayP w2 b2 ws2) (hsh : ShiftP dx dy)
    (henc : EncR (W : Int) (X : Int) w2 b2 ws ws2 dx dy e bs) (hget : GetR bs 8192 0 0 (W : Int) (X : Int) w2 b2 ws2 dx dy (newD bs 8192) e' w' b' bs' s') : e = 0 ∧ e' = 0 ∧ w' = (W : Int) ∧ b' = (X : Int) ∧ bs' = ws := by
  have hpx := may_px hm
  simp only [Int.toNat_natCast, Nat.zero_add] at hpx
  obtain ⟨W', X', e1, e2, hW1, hW2, hX1, hX2, hWX⟩ := size_nat hm.1
  obtain rfl : W = W' := by omega
  rcases henc with ⟨a, _⟩ | ⟨_, a, _⟩ | ⟨_, _, rfl, Gz, sz, hrun, hok, rfl⟩
  · exact absurd ⟨hm, hm2⟩ a
  · exact absurd hsh a
  rcases hget with ⟨a, _⟩ | ⟨_, a, _⟩ | ⟨_, _, a, _⟩ | ⟨_, _, _, a, _⟩ | ⟨_, _, _, _, rfl, rfl, rfl, hrun2, hlen, hww, hz, _⟩
  · exact absurd hm2 a
  · exact absurd hm.1 a
  · exact absurd hsh a
  · exact absurd ⟨by omega, by omega⟩ a
  refine ⟨rfl, rfl, rfl, rfl, ?_⟩
  simp only [Int.toNat_natCast] at hrun hrun2 hlen hz
  rw [enc_run] at hrun
  injection hrun with hrun
  injection hrun with _ hrun
  subst hrun
  have hlt := Go.Ar.flushM_lt hok.wf
  rw [dec_run (getP ws W X) (getP ws2 w2.toNat b2.toNat) W 8192 dx dy 0 (getP_out ws W X) hW1 hpx hlt _ (Nat.le_refl _), part_all] at hrun2
  injection hrun2 with hrun2
  injection hrun2 with hrun2 _
  exact getP_ext hlen (may_len hm) hww hw hz (fun y hy x h1 h2 => pix_of_may hm hy h1 h2) hrun2.symm

end Go.Bm

/- RfR: refinement, plain laws: what is read is one; a reference that is seen alike; a few rows; many bitmaps one behind the other. -/
set_option linter.unusedVariables false
set_option linter.unusedSimpArgs false
namespace Go.Bm
open Go Go.Den Go.Den.Ytcicfilkdhhnmaa
open Go.Ar (Cod Dec codN decN newC newD idx bytesM flushM)

theorem GetR.det {bytes : List Nat} {m n0 : Nat} {base w b w2 b2 : Int} {ws2 : List Nat} {dx dy : Int} {s : Dec} {e1 a1 c1 e2 a2 c2 : Int} {bs1 bs2 : List Nat} {s1 s2 : Dec}
    (h1 : GetR bytes m n0 base w b w2 b2 ws2 dx dy s e1 a1 c1 bs1 s1) (h2 : GetR bytes m n0 base w b w2 b2 ws2 dx dy s e2 a2 c2 bs2 s2) : e1 = e2 ∧ a1 = a2 ∧ c1 = c2 ∧ bs1 = bs2 ∧ s1 = s2 := by
  rcases h1 with ⟨p, q1, q2, q3, q4, q5⟩ | ⟨p, p2, q1, q2, q3, q4, q5⟩ | ⟨p, p2, p3, q1, q2, q3, q4, q5⟩ | ⟨p, p2, p3, p4, q1, q2, q3, q4, q5⟩ | ⟨p, p2, p3, p4, q1, q2, q3, q4, lx, wx, zx, dx'⟩ <;>
  rcases h2 with ⟨p', r1, r2, r3, r4, r5⟩ | ⟨p', p2', r1, r2, r3, r4, r5⟩ | ⟨p', p2', p3', r1, r2, r3, r4, r5⟩ | ⟨p', p2', p3', p4', r1, r2, r3, r4, r5⟩ | ⟨p', p2', p3', p4', r1, r2, r3, r4, ly, wy, zy, dy'⟩ <;>
  first
    | contradiction
    | exact ⟨q1.trans r1.symm, q2.trans r2.symm, q3.trans r3.symm, q4.trans r4.symm, q5.trans r5.symm⟩
    | skip
  rw [q4] at r4
  injection r4 with r4
  injection r4 with r4 r5
  obtain ⟨W, X, rfl, rfl, _⟩ := size_nat p2
  simp only [Int.toNat_natCast] at r4 lx ly zx zy
  exact ⟨q1.trans r1.symm, q2.trans r2.symm, q3.trans r3.symm, getP_ext lx ly wx wy zx zy r4, r5⟩

theorem ctx_ref {G R1 R2 : Int → Int → Bool} {dx1 dy1 dx2 dy2 x y : Int} (h : ∀ a b, x - 1 ≤ a → a ≤ x + 1 → R1 (a - dx1) (b - dy1) = R2 (a - dx2) (b - dy2)) : ctxN G R1 dx1 dy1 x y = ctxN G R2 dx2 dy2 x y := by
  have rows : ∀ d, rowsN R1 dx1 dy1 x y d = rowsN R2 dx2 dy2 x y d := by
    intro d
    induction d with
    | zero => rfl
    | succ d ih =>
      unfold rowsN rowB3
      rw [ih, h (x - 1) _ (by omega) (by omega), h x _ (by omega) (by omega), h (x + 1) _ (by omega) (by omega)]
  unfold ctxN
  rw [rows 3]
theorem runN_ref {σ : Type} {step : σ → Nat → Bool → (Bool × σ) ⊕ (Int × σ)} {W : Nat} {R1 R2 : Int → Int → Bool} {dx1 dy1 dx2 dy2 : Int} (hW : 1 ≤ W) (h : ∀ a b : Int, -1 ≤ a → a ≤ W → R1 (a - dx1) (b - dy1) = R2 (a - dx2) (b - dy2)) (g : (Int → Int → Bool) × σ) :
    ∀ k, runN W R1 dx1 dy1 step k g = runN W R2 dx2 dy2 step k g
  | 0 => rfl
  | k + 1 => by
    unfold runN
    rw [runN_ref hW h g k]
    have hx := Nat.mod_lt k hW
    cases runN W R2 dx2 dy2 step k g with
    | inr e => rfl
    | inl g =>
      obtain ⟨G, s⟩ := g
      have e : ctxN G R1 dx1 dy1 ((k % W : Nat) : Int) ((k / W : Nat) : Int) = ctxN G R2 dx2 dy2 ((k % W : Nat) : Int) ((k / W : Nat) : Int) := ctx_ref fun a b h1 h2 => h a b (by omega) (by omega)
      simp only [e]
theorem EncR.ref {W X : Nat} {w2 b2 w3 b3 : Int} {ws ws2 ws3 : List Nat} {dx dy dx2 dy2 e e' : Int} {bs bs' : List Nat} (hm : MayP (W : Int) (X : Int) ws) (hm2 : MayP w2 b2 ws2) (hm3 : MayP w3 b3 ws3) (hs : ShiftP dx dy) (hs2 : ShiftP dx2 dy2)
    (h : ∀ a b : Int, -1 ≤ a → a ≤ W → getP ws2 w2.toNat b2.toNat (a - dx) (b - dy) = getP ws3 w3.toNat b3.toNat (a - dx2) (b - dy2))
    (h1 : EncR (W : Int) (X : Int) w2 b2 ws ws2 dx dy e bs) (h2 : EncR (W : Int) (X : Int) w3 b3 ws ws3 dx2 dy2 e' bs') : bs = bs' := by
  obtain ⟨W', X', e1, e2, hW1, _⟩ := size_nat hm.1
  obtain rfl : W = W' := by omega
  rcases h1 with ⟨a, _⟩ | ⟨_, a, _⟩ | ⟨_, _, _, G1, s1, r1, _, c1⟩
  · exact absurd ⟨hm, hm2⟩ a
  · exact absurd hs a
  rcases h2 with ⟨a, _⟩ | ⟨_, a, _⟩ | ⟨_, _, _, G2, s2, r2, _, c2⟩
  · exact absurd ⟨hm, hm3⟩ a
  · exact absurd hs2 a
  simp only [Int.toNat_natCast] at r1 r2
  rw [runN_ref hW1 h, r2] at r1
  injection r1 with r1
  injection r1 with _ r1
  rw [c1, c2, r1]
theorem EncR.ok {w b w2 b2 : Int} {ws ws2 : List Nat} {dx dy e : Int} {bs : List Nat} (hm : MayP w b ws) (hm2 : MayP w2 b2 ws2) (hs : ShiftP dx dy) (h : EncR w b w2 b2 ws ws2 dx dy e bs) : e = 0 := by
  rcases h with ⟨a, _⟩ | ⟨_, a, _⟩ | ⟨_, _, e, _⟩
  · exact absurd ⟨hm, hm2⟩ a
  · exact absurd hs a
  · exact e

theorem part_rows (ws : List Nat) (W X n : Nat) : partG (getP ws W X) W (n * W) = fun (x y : Int) => decide (y < n) && getP ws W X x y := by
  funext x y
  unfold partG
  by_cases h : 0 ≤ x ∧ 0 ≤ y ∧ x < W ∧ y < X
  · congr 1
    rw [decide_eq_decide]
    constructor
    · rintro ⟨_, _, _, h4⟩
      rcases Nat.lt_or_ge y.toNat n with h5 | h5
      · omega
      · have : n * W ≤ y.toNat * W := Nat.mul_le_mul_right _ h5
        omega
    · intro h4
      have : (y.toNat + 1) * W ≤ n * W := Nat.mul_le_mul_right _ (by omega)
      rw [Nat.add_mul, Nat.one_mul] at this
      exact ⟨h.1, h.2.2.1, h.2.1, by omega⟩
  · unfold getP
    rw [decide_eq_false h, Bool.false_and, Bool.and_false, Bool.and_false]

section
variable (G R : Int → Int → Bool) (W m : Nat) (dx dy base : Int) {k b : Nat → Nat} {n0 cnt : Nat}
theorem enc_from (hk : ∀ j, j < cnt → k (n0 + j) = kf G R W m dx dy base j) (hb : ∀ j, j < cnt → b (n0 + j) = bf G W j) : ∀ i, i ≤ cnt →
    runN W R dx dy (stepP m base) i (G, codN k b m n0) = .inl (G, codN k b m (n0 + i))
  | 0, _ => rfl
  | i + 1, hi => by
    unfold runN
    rw [enc_from hk hb i (by omega)]
    simp only [stepP, upd_self]
    have e : codN k b m (n0 + (i + 1)) = Go.Ar.putM (codN k b m (n0 + i)) (k (n0 + i)) (b (n0 + i)) := rfl
    rw [e, hk i (by omega), hb i (by omega)]
    rfl
theorem dec_from (hG : ∀ x y : Int, ¬ (0 ≤ x ∧ x < W ∧ 0 ≤ y) → G x y = false) (hW : 1 ≤ W) {tot : Nat} (ht : tot ≤ 16777216) (hb1 : ∀ i, i < tot → b i ≤ 1) (hlt : ∀ x ∈ bytesM (flushM (codN k b m tot)), x < 256) (hct : n0 + cnt ≤ tot)
    (hk : ∀ j, j < cnt → k (n0 + j) = kf G R W m dx dy base j) (hb : ∀ j, j < cnt → b (n0 + j) = bf G W j) : ∀ i, i ≤ cnt →
    runN W R dx dy (stepG m base) i (fun _ _ => false, decN k (bytesM (flushM (codN k b m tot))) m n0) = .inl (partG G W i, decN k (bytesM (flushM (codN k b m tot))) m (n0 + i))
  | 0, _ => by
    have : partG G W 0 = fun _ _ => false := by
      funext x y
      unfold partG
      rw [decide_eq_false (by omega), Bool.false_and]
    rw [this]
    rfl
  | i + 1, hi => by
    have hbit0 := Go.Ar.back_bit k b m tot hb1 ht hlt (i := n0 + i) (by omega)
    have hx : i % W < W := Nat.mod_lt _ (by omega)
    have hi2 : i / W * W + i % W = i := by rw [Nat.mul_comm]; exact Nat.div_add_mod i W
    have h1 := part_ctx G R W dx dy hG (x := i % W) (y := i / W) hx
    have h2 := partG_next G W hG (x := i % W) (y := i / W) hx
    rw [hi2] at h1 h2
    unfold runN
    rw [dec_from hG hW ht hb1 hlt hct hk hb i (by omega)]
    simp only [stepG]
    rw [h1]
    have hk1 : idx (base + ((ctxN G R dx dy ((i % W : Nat) : Int) ((i / W : Nat) : Int) : Nat) : Int)) m = k (n0 + i) := (hk i (by omega)).symm
    rw [hk1, hbit0, hb i (by omega)]
    have hbit : decide (bf G W i = 1) = G ((i % W : Nat) : Int) ((i / W : Nat) : Int) := by
      unfold bf
      cases G ((i % W : Nat) : Int) ((i / W : Nat) : Int) <;> rfl
    rw [hbit, h2]
    rfl
end
/-- Fewer rows than were coded. -/
theorem rf_top {W X n : Nat} {w2 b2 : Int} {ws ws2 : List Nat} {dx dy e e' w' b' : Int} {bs bs' : List Nat} {s' : Dec} (hn : n ≤ X) (hn1 : 1 ≤ n) (hm : MayP (W : Int) (X : Int) ws) (hm2 : MayP w2 b2 ws2) (hsh : ShiftP dx dy)
    (henc : EncR (W : Int) (X : Int) w2 b2 ws ws2 dx dy e bs) (hget : GetR bs 8192 0 0 (W : Int) (n : Int) w2 b2 ws2 dx dy (newD bs 8192) e' w' b' bs' s') :
    e' = 0 ∧ w' = (W : Int) ∧ b' = (n : Int) ∧ bs'.length = n * wds W ∧ W64 bs' ∧ PadZ W n bs' ∧ getP bs' W n = fun (x y : Int) => decide (y < n) && getP ws W X x y := by
  have hpx := may_px hm
  simp only [Int.toNat_natCast, Nat.zero_add] at hpx
  obtain ⟨W', X', e1, e2, hW1, hW2, hX1, hX2, hWX⟩ := size_nat hm.1
  obtain rfl : W = W' := by omega
  obtain rfl : X = X' := by omega
  have hWn : W * n ≤ W * X := Nat.mul_le_mul_left _ hn
  have hsz : SizeP (W : Int) (n : Int) := by
    refine ⟨by omega, by omega, by omega, by omega, ?_⟩
    rw [mul_cast]
    omega
  rcases henc with ⟨a, _⟩ | ⟨_, a, _⟩ | ⟨_, _, rfl, Gz, sz, hrun, hok, rfl⟩
  · exact absurd ⟨hm, hm2⟩ a
  · exact absurd hsh a
  rcases hget with ⟨a, _⟩ | ⟨_, a, _⟩ | ⟨_, _, a, _⟩ | ⟨_, _, _, a, _⟩ | ⟨_, _, _, _, rfl, rfl, rfl, hrun2, hlen, hww, hz, _⟩
  · exact absurd hm2 a
  · exact absurd hsz a
  · exact absurd hsh a
  · exact absurd ⟨by omega, by omega⟩ a
  simp only [Int.toNat_natCast] at hrun hrun2 hlen hz
  refine ⟨rfl, rfl, rfl, hlen, hww, hz, ?_⟩
  rw [enc_run] at hrun
  injection hrun with hrun
  injection hrun with _ hrun
  subst hrun
  have hlt := Go.Ar.flushM_lt hok.wf
  rw [dec_run (getP ws W X) (getP ws2 w2.toNat b2.toNat) W 8192 dx dy 0 (getP_out ws W X) hW1 hpx hlt _ (Nat.mul_le_mul_right _ hn), part_rows] at hrun2
  injection hrun2 with hrun2
  injection hrun2 with hrun2 _
  exact hrun2.symm
end Go.Bm

/- RdA: the document's own decoder in memory; bytes that are lent. -/
set_option linter.unusedVariables false
set_option linter.unusedSimpArgs false
namespace Go.Ar
open Go Go.Den Go.Den.Ytcicfilkdhhnmaa

/-! ### bytes that are lent -/
set_option maxRecDepth 100000 in
theorem lend_ok {hB : Heap} {b : Option Addr} {bc : Nat} {bs : List Nat} (hr : rdO hB b (bs.length * 1) (u8s bs)) (hl : bs.length < 140737488351300)
    {K : Value → Heap → Prop} {Kp : List PanicEntry → Heap → Prop} (hk : ∀ o rest c h', (u8s bs ++ (u8s (List.replicate 7 165) ++ rest)).length = c → Hp hB [] h' [⟨o, true, T_uint8, u8s bs ++ (u8s (List.replicate 7 165) ++ rest)⟩] → K (.slice (at0 o) bs.length c) h') :
    CP F_burinkit_Lend #[.slice b bs.length bc] hB K Kp := by
  refine call_burinkit_Lend ?_
  unfold burinkit_Lend
  have H := Hp.nil hB []
  obtain ⟨N, hN⟩ : ∃ N, N = bs.length + 7 := ⟨_, rfl⟩
  refine bindI_of (((N : Nat) : Int)) (by exact i64_at _ _ (by omega) (by omega) (by omega)) ?_
  refine needs_of (by simp; omega) ?_
  simp only [Int.toNat_natCast, u8s_zero]
  refine newC_hp H fun r h H => ?_
  refine appC_in H 0 (xs := []) (rest := u8s (List.replicate N 0)) (c := N) rfl rfl (by simp [u8s]) (by simp [hN]) (H.rdO hr) (by rw [u8s_length, Nat.mul_one]) (u8s_cells bs) fun h H => ?_
  generalize hrest : (u8s (List.replicate N 0)).drop (bs.length * 1) = rest at H
  have hrl : rest.length = 7 := by rw [← hrest, List.length_drop, u8s_length, List.length_replicate]; omega
  refine ⟨fun n vs h' => ∃ (i : Nat) (rest : List Value), i + n = 7 ∧ rest.length = n ∧ vs = [.slice (at0 r) (bs.length + i) N, .int .i64 (i : Int)] ∧ Hp hB [] h' [⟨r, true, T_uint8, u8s bs ++ u8s (List.replicate i 165) ++ rest⟩],
    ⟨7, 0, rest, rfl, hrl, by simp, H.as (by simp [u8s])⟩, ?_⟩
  clear H
  rintro n h2 u x xn xc xi ⟨i, rest, hin, hrl, hx, H⟩
  injection hx with hx hx2
  injection hx with hx hxn hxc
  injection hx2 with hx2
  injection hx2 with _ hx2
  subst x xn xc xi
  refine bcase_of (fun h1 => ?_) fun h1 => ?_
  · have h1 : i < 7 := by simp at h1; omega
    refine newC_hp H fun t h H => ?_
    refine appC_in H 0 (xs := u8s bs ++ u8s (List.replicate i 165)) (rest := rest) (c := N) rfl (by simp [u8s]) (by simp [u8s]; omega) (by omega) (rdO_hp (o := 0) (n := 1 * 1) H 1 rfl (Nat.le_refl _)) rfl (fun v hv => by rw [List.mem_singleton.1 hv]; rfl) fun h H => ?_
    refine bindI_of (((i + 1 : Nat) : Int)) (by exact i64_at _ _ (by omega) (by omega) (by omega)) ?_
    refine ⟨n - 1, by omega, i + 1, rest.drop (1 * 1), by omega, by rw [List.length_drop]; omega, by rw [Nat.add_assoc], ?_⟩
    refine (H.take 1).as ?_
    simp [u8s, List.replicate_succ']
  · have h1 : i = 7 := by simp at h1; omega
    subst h1
    refine needs_of (by omega) ?_
    have e : subA (some ⟨r, 0, none⟩) N 0 1 = some ⟨r, 0, none⟩ := by unfold subA; split <;> rfl
    rw [e]
    simp only [Int.toNat_natCast, Nat.sub_zero]
    refine hk r rest N _ ?_ (H.as (by rw [List.append_assoc]))
    simp only [List.length_append, u8s_length, List.length_replicate]
    omega

set_option maxRecDepth 100000 in
theorem back_ok {h : Heap} {o c : Nat} {b : Option Addr} {bc : Nat} {bs : List Nat} {rest : List Value} {F : List Nat} {h0 : Heap} (H : Hp h0 F h [⟨o, true, T_uint8, u8s bs ++ (u8s (List.replicate 7 165) ++ rest)⟩]) (hr : rdO h b (bs.length * 1) (u8s bs)) (hl : bs.length < 140737488351300)
    (hc : (u8s bs ++ (u8s (List.replicate 7 165) ++ rest)).length = c)
    {K : Value → Heap → Prop} {Kp : List PanicEntry → Heap → Prop} (hk : ∀ cs h', Hp h0 F h' [⟨o, true, T_uint8, cs⟩] → K (.bool true) h') :
    CP F_burinkit_Back #[.slice (at0 o) bs.length c, .slice b bs.length bc] h K Kp := by
  refine call_burinkit_Back ?_
  unfold burinkit_Back
  have hlen := hc
  simp only [List.length_append, u8s_length, List.length_replicate] at hlen
  refine eq_ok (xs := bs) (ys := bs) (row_rdO H 0 rfl) hr hl ?_
  refine ⟨_, rfl, ?_⟩
  simp only [decide_true]
  refine bindI_of (((bs.length + 7 : Nat) : Int)) (by exact i64_at _ _ (by omega) (by omega) (by omega)) ?_
  refine needs_of (by omega) ?_
  have e : subA (some ⟨o, 0, none⟩) c 0 1 = some ⟨o, 0, none⟩ := by unfold subA; split <;> rfl
  rw [e]
  simp only [Int.toNat_natCast, Nat.sub_zero]
  refine ⟨fun n vs h' => ∃ i : Nat, i + n = 7 ∧ vs = [.bool true, .int .i64 ((bs.length + i : Nat) : Int)] ∧ h' = h, ⟨7, 0, rfl, rfl, rfl⟩, ?_⟩
  rintro n h2 u ok x ⟨i, hin, hx, rfl⟩
  injection hx with hx hx2
  injection hx with hx
  injection hx2 with hx2
  injection hx2 with _ hx2
  subst ok x
  refine bcase_of (fun h1 => ?_) fun h1 => ?_
  · have h1 : i < 7 := by simp at h1; omega
    refine bcase_true (by rfl) ?_
    refine needs_of (by omega) ?_
    simp only [ptr_some_eq, add_mk, Nat.zero_add, Int.toNat_natCast, Nat.mul_one]
    have hg : (u8s (List.replicate 7 165))[i]? = some (.int .u8 ((165 : Nat) : Int)) := u8s_get (by rw [List.getElem?_replicate, if_pos h1])
    refine ldI_of (H.cell 0 rfl (app_get (u8s_length bs) i (get_app hg))) ?_
    refine bindI_of (((bs.length + (i + 1) : Nat) : Int)) (by exact i64_at _ _ (by omega) (by omega) (by omega)) ?_
    exact ⟨n - 1, by omega, i + 1, by omega, rfl, by first | rfl | trivial⟩
  · have h1 : i = 7 := by simp at h1; omega
    subst h1
    refine ⟨fun n vs h' => ∃ (i : Nat) (cs : List Value), i + n = bs.length + 7 ∧ vs = [.int .i64 (i : Int)] ∧ cs.length = c ∧ Hp h0 F h' [⟨o, true, T_uint8, cs⟩], ⟨bs.length + 7, 0, _, by omega, rfl, hc, H⟩, ?_⟩
    clear H hr
    rintro n h2 u x ⟨i, cs, hin, hx, hcl, H⟩
    injection hx with hx
    injection hx with _ hx
    subst hx
    refine bcase_of (fun h1 => ?_) fun h1 => ?_
    · have h1 : i < bs.length + 7 := by simp at h1; omega
      refine needs_of (by omega) ?_
      simp only [ptr_some_eq, add_mk, Nat.zero_add, Int.toNat_natCast, Nat.mul_one]
      refine stV_hp H 0 rfl (by omega) rfl fun h hsz H => ?_
      refine bindI_of (((i + 1 : Nat) : Int)) (by exact i64_at _ _ (by omega) (by omega) (by omega)) ?_
      exact ⟨n - 1, by omega, i + 1, _, by omega, rfl, by rw [List.length_set]; exact hcl, H⟩
    · exact hk _ _ H

/-! ### the document's decoder -/
def drrest (s : Dec) (bp : Option Addr) (bc : Nat) : List Value :=
  [.int .i64 (s.a : Nat), .int .i64 (s.c : Nat), .int .i64 (s.t : Nat), .slice bp s.b.length bc, .int .i64 (s.i : Nat)]
def refD (A : RP) (e : Ent) (bp : Option Addr) (bc : Nat) (s : Dec) : List Ent :=
  sideL A.p T_burinref4_Decoder (drrest s bp bc) A.g A.gc A.sq A.bq s.n s.st A.grest e

section
variable {h : Heap} {A : RP} {e : Ent} {bp : Option Addr} {bc : Nat} {s : Dec} {F : List Nat} {h0 : Heap}

theorem rbyte_ok (H : Hp h0 F h (refD A e bp bc s)) (hb : BOk e bp s.b) (hb8 : ∀ x ∈ s.b, x < 256) {i : Nat}
    {K : Value → Heap → Prop} {Kp : List PanicEntry → Heap → Prop} (hk : K (.int .i64 (byteD s i : Nat)) h) : CP F_burinref4_Decoder_byte #[.pointer (at0 A.p), .int .i64 (i : Nat)] h K Kp := by
  refine call_burinref4_Decoder_byte ?_
  unfold burinref4_Decoder_byte
  try simp only [ptr_some_eq, add_mk, Nat.zero_add, Nat.add_zero]
  refine ldS_of (H.cell 0 rfl rfl) ?_
  refine bcase_of (fun h1 => ?_) fun h1 => ?_
  · have h1 : i < s.b.length := by simp at h1; omega
    obtain ⟨_, hb | ⟨rest, hbp, he⟩⟩ := hb
    · rw [hb] at h1; simp at h1
    · have hg : s.b[i]? = some (byteD s i) := by
        unfold byteD
        rw [List.getD_eq_getElem?_getD, List.getElem?_eq_getElem h1]; rfl
      have hlt := byteD_lt hb8 (s := s) i
      refine ldS_of (H.cell 0 rfl rfl) ?_
      refine needs_of (by omega) ?_
      rw [hbp]
      simp only [Int.toNat_natCast, Nat.mul_one]
      try simp only [ptr_some_eq, add_mk, Nat.zero_add, Nat.add_zero]
      refine ldI_of (H.cell 4 rfl (i := i) (by rw [he]; exact get_app (u8s_get hg))) ?_
      refine bindI_of (((byteD s i : Nat) : Int)) (by exact i64_in _ (by omega) (by omega)) ?_
      exact hk
  · have h1 : s.b.length ≤ i := by simp at h1; omega
    have hg : byteD s i = 255 := by
      unfold byteD
      rw [List.getD_eq_getElem?_getD, List.getElem?_eq_none h1]; rfl
    rw [hg] at hk
    exact hk

theorem mask32m (x : Nat) (hx : x < 9223372036854775808) : bitI .and .i64 (x : Int) 4294967295 = ((x % M32 : Nat) : Int) :=
  (and63 x 4294967295 hx (by omega)).trans (by congr 1; exact Nat.and_two_pow_sub_one_eq_mod x 32)

set_option maxRecDepth 100000 in
theorem rin_ok (H : Hp h0 F h (refD A e bp bc s)) (hb : BOk e bp s.b) (hs : MidD s) (hbl : s.b.length < 140737488351300)
    {K : Value → Heap → Prop} {Kp : List PanicEntry → Heap → Prop} (hk : ∀ h', Hp h0 F h' (refD A e bp bc (inD s)) → K (.tuple #[]) h') : CP F_burinref4_Decoder_in #[.pointer (at0 A.p)] h K Kp := by
  refine call_burinref4_Decoder_in ?_
  unfold burinref4_Decoder_in
  have hi := hs.i
  have hc := hs.c
  have hM : M32 = 4294967296 := rfl
  have hb1 := byteD_lt hs.b (s := s) (s.i + 1)
  have hb0 := byteD_lt hs.b (s := s) s.i
  try simp only [ptr_some_eq, add_mk, Nat.zero_add, Nat.add_zero]
  refine ldI_of (H.cell 0 rfl rfl) ?_
  refine rbyte_ok H hb hs.b ?_
  refine ⟨_, rfl, ?_⟩
  rw [inD_eq] at hk
  refine bcase_of (fun h1 => ?_) fun h1 => ?_
  · have h1 : ¬ byteD s s.i ≠ 255 := by simp at h1; omega
    rw [if_neg h1] at hk
    refine ldI_of (H.cell 0 rfl rfl) ?_
    refine bindI_of (((s.i + 1 : Nat) : Int)) (by exact i64_at _ _ (by omega) (by omega) (by omega)) ?_
    refine rbyte_ok H hb hs.b ?_
    refine ⟨_, rfl, ?_⟩
    refine bcase_of (fun h2 => ?_) fun h2 => ?_
    · have h2 : byteD s (s.i + 1) > 143 := by simp at h2; omega
      rw [if_pos h2] at hk
      refine ldI_of (H.cell 0 rfl rfl) ?_
      refine bindI_of (((s.c + 65280 : Nat) : Int)) (by exact i64_at _ _ (by omega) (by omega) (by omega)) ?_
      refine stV_hp H 0 rfl (by first | exact Nat.le_of_ble_eq_true rfl | simp) rfl fun h hsz H => ?_
      refine stV_hp H 0 rfl (by first | exact Nat.le_of_ble_eq_true rfl | simp) rfl fun h hsz H => ?_
      refine ldI_of (H.cell 0 rfl rfl) ?_
      refine bindI_of _ (mask32m _ (by omega)) ?_
      refine stV_hp H 0 rfl (by first | exact Nat.le_of_ble_eq_true rfl | simp) rfl fun h hsz H => ?_
      exact hk _ H
    · have h2 : ¬ byteD s (s.i + 1) > 143 := by simp at h2; omega
      rw [if_neg h2] at hk
      refine ldI_of (H.cell 0 rfl rfl) ?_
      refine bindI_of (((s.i + 1 : Nat) : Int)) (by exact i64_at _ _ (by omega) (by omega) (by omega)) ?_
      refine stV_hp H 0 rfl (by first | exact Nat.le_of_ble_eq_true rfl | simp) rfl fun h hsz H => ?_
      refine ldI_of (H.cell 0 rfl rfl) ?_
      refine bindI_of (((byteD s (s.i + 1) * 512 : Nat) : Int)) (by exact shl_of (i := 9) (by decide) (i64_in _ (by omega) (by omega))) ?_
      refine bindI_of (((s.c + byteD s (s.i + 1) * 512 : Nat) : Int)) (by exact i64_at _ _ (by omega) (by omega) (by omega)) ?_
      refine stV_hp H 0 rfl (by first | exact Nat.le_of_ble_eq_true rfl | simp) rfl fun h hsz H => ?_
      refine stV_hp H 0 rfl (by first | exact Nat.le_of_ble_eq_true rfl | simp) rfl fun h hsz H => ?_
      refine ldI_of (H.cell 0 rfl rfl) ?_
      refine bindI_of _ (mask32m _ (by omega)) ?_
      refine stV_hp H 0 rfl (by first | exact Nat.le_of_ble_eq_true rfl | simp) rfl fun h hsz H => ?_
      exact hk _ H
  · have h1 : byteD s s.i ≠ 255 := by simp at h1; omega
    rw [if_pos h1] at hk
    refine ldI_of (H.cell 0 rfl rfl) ?_
    refine bindI_of (((s.i + 1 : Nat) : Int)) (by exact i64_at _ _ (by omega) (by omega) (by omega)) ?_
    refine stV_hp H 0 rfl (by first | exact Nat.le_of_ble_eq_true rfl | simp) rfl fun h hsz H => ?_
    refine ldI_of (H.cell 0 rfl rfl) ?_
    refine ldI_of (H.cell 0 rfl rfl) ?_
    have H2 : Hp h0 F h (refD A e bp bc { s with i := s.i + 1 }) := H
    refine rbyte_ok H2 hb hs.b ?_
    refine ⟨_, rfl, hext.refl _, ?_⟩
    have hb2 : byteD { s with i := s.i + 1 } (s.i + 1) = byteD s (s.i + 1) := rfl
    rw [hb2]
    refine bindI_of (((byteD s (s.i + 1) * 256 : Nat) : Int)) (by exact shl_of (i := 8) (by decide) (i64_in _ (by omega) (by omega))) ?_
    refine bindI_of (((s.c + byteD s (s.i + 1) * 256 : Nat) : Int)) (by exact i64_at _ _ (by omega) (by omega) (by omega)) ?_
    refine stV_hp H 0 rfl (by first | exact Nat.le_of_ble_eq_true rfl | simp) rfl fun h hsz H => ?_
    refine stV_hp H 0 rfl (by first | exact Nat.le_of_ble_eq_true rfl | simp) rfl fun h hsz H => ?_
    refine ldI_of (H.cell 0 rfl rfl) ?_
    refine bindI_of _ (mask32m _ (by omega)) ?_
    refine stV_hp H 0 rfl (by first | exact Nat.le_of_ble_eq_true rfl | simp) rfl fun h hsz H => ?_
    exact hk _ H

set_option maxRecDepth 100000 in
theorem rdrenew_ok (H : Hp h0 F h (refD A e bp bc s)) (hb : BOk e bp s.b) (hs : MidD s) (hbl : s.b.length < 140737488351300) (ha : 1 ≤ s.a) (ha' : s.a < 0x8000)
    {K : Value → Heap → Prop} {Kp : List PanicEntry → Heap → Prop} (hk : ∀ h', Hp h0 F h' (refD A e bp bc (renewD 17 s)) → K (.tuple #[]) h') : CP F_burinref4_Decoder_renew #[.pointer (at0 A.p)] h K Kp := by
  generalize hR : renewD 17 s = R at hk
  refine call_burinref4_Decoder_renew ?_
  unfold burinref4_Decoder_renew
  refine ⟨fun n vs h' => ∃ (first : Bool) (s' : Dec), vs = [.bool first] ∧ Hp h0 F h' (refD A e bp bc s') ∧ MidD s' ∧ s'.b = s.b ∧
      ((first = false ∧ 0x8000 ≤ s'.a ∧ s' = R) ∨ (s'.a < 0x8000 ∧ 0x8000 ≤ s'.a * 2 ^ n ∧ renewD n s' = R)),
    ⟨17, true, s, rfl, H, hs, rfl, .inr ⟨ha', by have : (2 : Nat) ^ 17 = 131072 := rfl; omega, hR⟩⟩, ?_⟩
  clear H
  rintro n h u x ⟨first, s', hx, H, hm, hbe, hc⟩
  injection hx with hx
  injection hx with hx
  subst hx
  refine ⟨fun vs h' => h' = h ∧ s'.a < 0x8000 ∧ 0x8000 ≤ s'.a * 2 ^ n ∧ renewD n s' = R, ?_, ?_⟩
  · refine bcase_of (fun h1 => ?_) fun h1 => ?_
    · rcases hc with ⟨h2, _⟩ | h2
      · rw [h1] at h2; cases h2
      · exact ⟨rfl, h2⟩
    · have hcell0 := H.cell 0 rfl (i := 4) (v := .int .i64 (s'.a : Nat)) rfl
      rcases hc with ⟨_, h2, h5⟩ | h2
      · have h4 : ¬ ((s'.a : Nat) : Int) < 32768 := by
          have : (32768 : Int) ≤ ((s'.a : Nat) : Int) := by exact_mod_cast h2
          exact Int.not_lt.2 this
        refine ldI_of (x := ((s'.a : Nat) : Int)) hcell0 ?_
        simp only [decide_eq_false h4]
        exact hk _ (h5 ▸ H)
      · have h4 : ((s'.a : Nat) : Int) < 32768 := by exact_mod_cast h2.1
        refine ldI_of (x := ((s'.a : Nat) : Int)) hcell0 ?_
        simp only [decide_eq_true h4]
        exact ⟨by first | rfl | trivial, h2⟩
  · rintro h2 u ⟨rfl, hlt, hge, he⟩
    obtain ⟨n, rfl⟩ : ∃ m, n = m + 1 := by
      cases n with
      | zero => simp at hge; omega
      | succ m => exact ⟨m, rfl⟩
    obtain ⟨g1, g2, g3, g4, g5⟩ := shiftD_mid hm
    have hnext : 0x8000 ≤ (shiftD s').a * 2 ^ n := by
      rw [g2]
      rw [Nat.pow_succ] at hge
      have : s'.a * (2 ^ n * 2) = 2 * s'.a * 2 ^ n := by rw [Nat.mul_comm (2 ^ n) 2, ← Nat.mul_assoc, Nat.mul_comm s'.a 2]
      omega
    rw [renewD_succ] at he
    rw [← hbe] at hb hbl
    refine ⟨fun vs h' => Hp h0 F h' (refD A e bp bc (if s'.t = 0 then inD s' else s')), ?_, ?_⟩
    · try simp only [ptr_some_eq, add_mk, Nat.zero_add, Nat.add_zero]
      refine ldI_of (H.cell 0 rfl rfl) ?_
      refine bcase_of (fun h1 => ?_) fun h1 => ?_
      · have h1 : s'.t = 0 := by simp at h1; omega
        refine rin_ok H hb hm hbl fun h' H => ?_
        rw [if_pos h1]
        exact H
      · have h1 : ¬ s'.t = 0 := by simp at h1; omega
        rw [if_neg h1]
        exact H
    · intro h u H
      rw [shiftD_eq] at g1 g2 g5 hnext he
      have hS : MidD (if s'.t = 0 then inD s' else s') ∧ (if s'.t = 0 then inD s' else s').a = s'.a ∧ 1 ≤ (if s'.t = 0 then inD s' else s').t := by
        split
        · obtain ⟨i1, i2, _, _, _, i6⟩ := inD_mid hm
          exact ⟨i1, i2, i6⟩
        · exact ⟨hm, rfl, by omega⟩
      generalize (if s'.t = 0 then inD s' else s') = S at H g1 g2 g5 hnext he hS
      obtain ⟨hS1, hS2, hS3⟩ := hS
      have hSc := hS1.c
      have hSt := hS1.t8
      have hM : M32 = 4294967296 := rfl
      try simp only [ptr_some_eq, add_mk, Nat.zero_add, Nat.add_zero]
      refine ldI_of (H.cell 0 rfl rfl) ?_
      refine bindI_of (((2 * S.a : Nat) : Int)) (by exact i64_at _ _ (by omega) (by omega) (by omega)) ?_
      refine stV_hp H 0 rfl (by first | exact Nat.le_of_ble_eq_true rfl | simp) rfl fun h hsz H => ?_
      refine ldI_of (H.cell 0 rfl rfl) ?_
      refine bindI_of (((2 * S.c : Nat) : Int)) (by exact i64_at _ _ (by omega) (by omega) (by omega)) ?_
      refine bindI_of _ (mask32m _ (by omega)) ?_
      refine stV_hp H 0 rfl (by first | exact Nat.le_of_ble_eq_true rfl | simp) rfl fun h hsz H => ?_
      refine ldI_of (H.cell 0 rfl rfl) ?_
      refine bindI_of (((S.t - 1 : Nat) : Int)) (by exact i64_at _ _ (by omega) (by omega) (by omega)) ?_
      refine stV_hp H 0 rfl (by first | exact Nat.le_of_ble_eq_true rfl | simp) rfl fun h hsz H => ?_
      have H2 : Hp h0 F h (refD A e bp bc { S with a := 2 * S.a, c := 2 * S.c % M32, t := S.t - 1 }) := H
      refine ⟨n, Nat.lt_succ_self n, false, _, rfl, H2, g1, g5.trans hbe, ?_⟩
      by_cases h3 : 0x8000 ≤ 2 * S.a
      · rw [if_pos h3] at he; exact .inl ⟨rfl, h3, he⟩
      · rw [if_neg h3] at he; exact .inr ⟨by show 2 * S.a < _; omega, hnext, he⟩

set_option maxRecDepth 100000 in
theorem rget_ok (H : Hp h0 F h (refD A e bp bc s)) (hb : BOk e bp s.b) (hs : WfD s) (hbl : s.b.length < 140737488351300) (hn : s.n < 16777216) (hl : 1 ≤ s.st.length) (hl2 : s.st.length ≤ 131072)
    {ctx : Int} {K : Value → Heap → Prop} {Kp : List PanicEntry → Heap → Prop} (hk : ∀ h', Hp h0 F h' (refD A e bp bc (getD s (idx ctx s.st.length)).1) → K (.tuple #[.int .i64 ((getD s (idx ctx s.st.length)).2 : Nat), .int .i64 0]) h') :
    CP F_burinref4_Decoder_Get #[.pointer (at0 A.p), .int .i64 ctx] h K Kp := by
  refine call_burinref4_Decoder_Get ?_
  unfold burinref4_Decoder_Get
  try simp only [ptr_some_eq, add_mk, Nat.zero_add, Nat.add_zero]
  refine ldI_of (H.cell 0 rfl rfl) ?_
  refine bcase_false (by simp; omega) ?_
  refine ldI_of (H.cell 0 rfl rfl) ?_
  refine bindI_of (((s.n + 1 : Nat) : Int)) (by exact i64_at _ _ (by omega) (by omega) (by omega)) ?_
  refine stV_hp H 0 rfl (by first | exact Nat.le_of_ble_eq_true rfl | simp) rfl fun h hsz H => ?_
  have H2 : Hp h0 F h (refD A e bp bc { s with n := s.n + 1 }) := H
  refine index_ok (m := s.st.length) (n := s.n + 1) H2 0 rfl hl hl2 ?_
  refine ⟨_, rfl, ?_⟩
  have hil := idx_lt ctx hl
  obtain ⟨x, hx⟩ : ∃ x, s.st[idx ctx s.st.length]? = some x := ⟨_, List.getElem?_eq_getElem hil⟩
  have hx94 : x < 94 := hs.st x (List.mem_of_getElem? hx)
  rw [getD_at s _ x hx] at hk
  have hM := set_lt hs.st (k := idx ctx s.st.length) (upM_lt hx94)
  have hL := set_lt hs.st (k := idx ctx s.st.length) (upL_lt hx94)
  generalize idx ctx s.st.length = k at hk hM hL hx hil ⊢
  have hr : x / 2 < 47 := by omega
  have hq1 := qOf_pos hr
  have hq2 := qOf_le hr
  have hlo := hs.lo
  have hhi := hs.hi
  have hc := hs.c
  have hM32 : M32 = 4294967296 := rfl
  have H := H2
  clear H2
  refine ldS_of (H.cell 0 rfl rfl) ?_
  refine ldS_of (H.cell 0 rfl rfl) ?_
  refine needs_of (by first | omega | (refine ⟨by omega, ?_⟩; show ((k : Nat) : Int) < ((s.st.length : Nat) : Int); omega)) ?_
  try simp only [ptr_some_eq, add_mk, Nat.zero_add, Int.toNat_natCast, Nat.mul_one]
  refine ldI_of (H.cell 2 rfl (i64s_get (half_get hx))) ?_
  refine needs_of (by first | omega | (refine ⟨by omega, ?_⟩; show ((k : Nat) : Int) < ((s.st.length : Nat) : Int); omega)) ?_
  try simp only [ptr_some_eq, add_mk, Nat.zero_add, Int.toNat_natCast, Nat.mul_one]
  refine ldI_of (H.cell 1 rfl (g_get hr (j := 0) rfl)) ?_
  refine ldS_of (H.cell 0 rfl rfl) ?_
  refine needs_of (by first | omega | (refine ⟨by omega, ?_⟩; show ((k : Nat) : Int) < ((s.st.length : Nat) : Int); omega)) ?_
  try simp only [ptr_some_eq, add_mk, Nat.zero_add, Int.toNat_natCast, Nat.mul_one]
  refine ldI_of (H.cell 3 rfl (i64s_get (low_get hx))) ?_
  refine ldI_of (H.cell 0 rfl rfl) ?_
  refine bindI_of (((s.a - qOf (x / 2) : Nat) : Int)) (by exact i64_at _ _ (by show (s.a : Int) - ((qOf (x / 2) : Nat) : Int) = _; omega) (by omega) (by omega)) ?_
  refine stV_hp H 0 rfl (by first | exact Nat.le_of_ble_eq_true rfl | simp) rfl fun h hsz H => ?_
  refine ldI_of (H.cell 0 rfl rfl) ?_
  refine bindI_of (((s.c / 65536 : Nat) : Int)) (by exact shr_of (i := 16) (by decide)) ?_
  have H2 : Hp h0 F h (refD A e bp bc { s with n := s.n + 1, a := s.a - qOf (x / 2) }) := H
  have H := H2
  clear H2
  refine bcase_of (fun h1 => ?_) fun h1 => ?_
  · have h1 : s.c / 65536 < qOf (x / 2) := by simp at h1; omega
    rw [if_pos h1] at hk
    refine ⟨fun vs h'' => (s.a - qOf (x / 2) < qOf (x / 2) ∧ vs = [.int .i64 ((x % 2 : Nat) : Int)] ∧ Hp h0 F h'' (refD A e bp bc { s with a := s.a - qOf (x / 2), n := s.n + 1, st := s.st.set k (upM x) })) ∨
        (¬ s.a - qOf (x / 2) < qOf (x / 2) ∧ vs = [.int .i64 ((1 - x % 2 : Nat) : Int)] ∧ Hp h0 F h'' (refD A e bp bc { s with a := s.a - qOf (x / 2), n := s.n + 1, st := s.st.set k (upL x) })), ?_, ?_⟩
    · refine ldI_of (H.cell 0 rfl rfl) ?_
      refine bcase_of (fun h3 => ?_) fun h3 => ?_
      · have h3 : s.a - qOf (x / 2) < qOf (x / 2) := by simp at h3; omega
        refine slk_ok H hx hx94 fun h H => ?_
        exact .inl ⟨h3, rfl, H.as (by simp [refD, sideL, sideV, drrest])⟩
      · have h3 : ¬ s.a - qOf (x / 2) < qOf (x / 2) := by simp at h3; omega
        refine bindI_of (((1 - x % 2 : Nat) : Int)) (by exact i64_at _ _ (by omega) (by omega) (by omega)) ?_
        refine sother_ok H hx hx94 fun h H => ?_
        exact .inr ⟨h3, rfl, H.as (by simp [refD, sideL, sideV, drrest])⟩
    · rintro h'' u y (⟨h3, hy, H⟩ | ⟨h3, hy, H⟩)
      · injection hy with hy
        injection hy with _ hy
        subst hy
        rw [if_pos h3] at hk
        refine stV_hp H 0 rfl (by first | exact Nat.le_of_ble_eq_true rfl | simp) rfl fun h hsz H => ?_
        exact rdrenew_ok (s := { s with a := qOf (x / 2), n := s.n + 1, st := s.st.set k (upM x) }) H hb ⟨hs.t8, hc, hs.b, hM, hs.i⟩ hbl hq1 (by show qOf _ < _; omega) hk
      · injection hy with hy
        injection hy with _ hy
        subst hy
        rw [if_neg h3] at hk
        refine stV_hp H 0 rfl (by first | exact Nat.le_of_ble_eq_true rfl | simp) rfl fun h hsz H => ?_
        exact rdrenew_ok (s := { s with a := qOf (x / 2), n := s.n + 1, st := s.st.set k (upL x) }) H hb ⟨hs.t8, hc, hs.b, hL, hs.i⟩ hbl hq1 (by show qOf _ < _; omega) hk
  · have h1 : ¬ s.c / 65536 < qOf (x / 2) := by simp at h1; omega
    rw [if_neg h1] at hk
    have hc' : s.c - qOf (x / 2) * 65536 < M32 := by omega
    refine ldI_of (H.cell 0 rfl rfl) ?_
    refine bindI_of (((qOf (x / 2) * 65536 : Nat) : Int)) (by exact shl_of (i := 16) (by decide) (i64_in _ (by omega) (by omega))) ?_
    refine bindI_of (((s.c - qOf (x / 2) * 65536 : Nat) : Int)) (by exact i64_at _ _ (by show (s.c : Int) - ((qOf (x / 2) * 65536 : Nat) : Int) = _; omega) (by omega) (by omega)) ?_
    refine stV_hp H 0 rfl (by first | exact Nat.le_of_ble_eq_true rfl | simp) rfl fun h hsz H => ?_
    refine ldI_of (H.cell 0 rfl rfl) ?_
    have H2 : Hp h0 F h (refD A e bp bc { s with n := s.n + 1, a := s.a - qOf (x / 2), c := s.c - qOf (x / 2) * 65536 }) := H
    have H := H2
    clear H2
    refine bcase_of (fun h2 => ?_) fun h2 => ?_
    · have h2 : 0x8000 ≤ s.a - qOf (x / 2) := by simp at h2; omega
      rw [if_pos h2] at hk
      exact hk _ H
    · have h2 : ¬ 0x8000 ≤ s.a - qOf (x / 2) := by simp at h2; omega
      rw [if_neg h2] at hk
      refine ldI_of (H.cell 0 rfl rfl) ?_
      refine bcase_of (fun h3 => ?_) fun h3 => ?_
      · have h3 : s.a - qOf (x / 2) < qOf (x / 2) := by simp at h3; omega
        rw [if_pos h3] at hk
        refine bindI_of (((1 - x % 2 : Nat) : Int)) (by exact i64_at _ _ (by omega) (by omega) (by omega)) ?_
        refine sother_ok H hx hx94 fun h H => ?_
        exact rdrenew_ok (s := { s with a := s.a - qOf (x / 2), c := s.c - qOf (x / 2) * 65536, n := s.n + 1, st := s.st.set k (upL x) }) (H.as (by simp [refD, sideL, sideV, drrest])) hb ⟨hs.t8, hc', hs.b, hL, hs.i⟩ hbl (by show 1 ≤ s.a - _; omega) (by show s.a - _ < _; omega) hk
      · have h3 : ¬ s.a - qOf (x / 2) < qOf (x / 2) := by simp at h3; omega
        rw [if_neg h3] at hk
        refine slk_ok H hx hx94 fun h H => ?_
        exact rdrenew_ok (s := { s with a := s.a - qOf (x / 2), c := s.c - qOf (x / 2) * 65536, n := s.n + 1, st := s.st.set k (upM x) }) (H.as (by simp [refD, sideL, sideV, drrest])) hb ⟨hs.t8, hc', hs.b, hM, hs.i⟩ hbl (by show 1 ≤ s.a - _; omega) (by show s.a - _ < _; omega) hk
end

/-! ### NewDecoder -/
set_option maxRecDepth 100000 in
theorem rnewD_ok {hB : Heap} {n : Nat} (hn : n ≤ 131072) {b : List Nat} (hb : ∀ x ∈ b, x < 256) (hbl : b.length < 140737488351300) {src : Option Addr} {bc0 : Nat} (hr : rdO hB src (b.length * 1) (u8s b)) {K : Value → Heap → Prop} {Kp : List PanicEntry → Heap → Prop}
    (hk : ∀ A e bp bc h', BOk e bp b → Hp hB [] h' (refD A e bp bc (newD b n)) → K (.pointer (at0 A.p)) h') : CP F_burinref4_NewDecoder #[.slice src b.length bc0, .int .i64 (n : Nat)] hB K Kp := by
  refine call_burinref4_NewDecoder ?_
  unfold burinref4_NewDecoder
  refine begun_ok hn fun g grest gc sq bq sp h' hsp H => ?_
  refine ⟨_, _, _, _, _, _, _, _, _, _, rfl, ?_⟩
  have goal : ∀ (bp : Option Addr) (bc : Nat) (e : Ent) (h2 : Heap), BOk e bp b → Hp hB [] h2 [⟨g, true, T_burinref4_Row, growsN 47 ++ grest⟩, ⟨sq, true, T_int, i64s (List.replicate n 0)⟩, ⟨bq, true, T_int, i64s (List.replicate n 0)⟩, e] →
      Go.Den.newC h2 [.slice (at0 g) 47 gc, .slice (at0 sq) n n, .slice (at0 bq) n n, .int .i64 0, .int .i64 32768, .int .i64 0, .int .i64 0, .slice bp b.length bc, .int .i64 0] T_burinref4_Decoder fun r_9 h_10 =>
      CP F_burinref4_Decoder_byte #[.pointer (some ⟨r_9, 0, none⟩), .int .i64 0] h_10 (fun v_11 h_12 =>
      ∃ (r_13 : Int), v_11 = .int .i64 r_13 ∧ (
      bindI (shlI .i64 r_13 (16 : Int)) fun z_14 =>
      stV h_12 ((⟨r_9, 0, none⟩ : Addr).add 5) (.int .i64 z_14) fun h_15 =>
      CP F_burinref4_Decoder_in #[.pointer (some ⟨r_9, 0, none⟩)] h_15 (fun v_16 h_17 =>
      ldI h_17 ((⟨r_9, 0, none⟩ : Addr).add 5) .i64 fun x_18 =>
      bindI (shlI .i64 x_18 (7 : Int)) fun z_19 =>
      bindI (bitI .and .i64 z_19 (4294967295 : Int)) fun z_20 =>
      stV h_17 ((⟨r_9, 0, none⟩ : Addr).add 5) (.int .i64 z_20) fun h_21 =>
      ldI h_21 ((⟨r_9, 0, none⟩ : Addr).add 6) .i64 fun x_22 =>
      bindI (IntKind.i64.wrap (x_22 - (7 : Int))) fun z_23 =>
      stV h_21 ((⟨r_9, 0, none⟩ : Addr).add 6) (.int .i64 z_23) fun h_24 =>
      K (.pointer (some ⟨r_9, 0, none⟩)) h_24) (Kp))) (Kp) := by
    intro bp bc e h2 hbo H
    refine newC_hp H fun p h H => ?_
    have H2 := H.pick [4, 0, 1, 2, 3] (by decide) (L' := refD ⟨p, g, gc, sq, bq, grest⟩ e bp bc (dec0 b n)) (by simp [refD, sideL, sideV, drrest, dec0, half, low])
    have H := H2
    clear H2
    have hb0 := byteD_lt (s := dec0 b n) hb 0
    refine rbyte_ok (A := ⟨p, g, gc, sq, bq, grest⟩) (i := 0) H hbo hb ?_
    refine ⟨_, rfl, ?_⟩
    refine bindI_of (((byteD (dec0 b n) 0 * 65536 : Nat) : Int)) (by exact shl_of (i := 16) (by decide) (i64_in _ (by omega) (by omega))) ?_
    try simp only [ptr_some_eq, add_mk, Nat.zero_add, Nat.add_zero]
    refine stV_hp H 0 rfl (by first | exact Nat.le_of_ble_eq_true rfl | simp) rfl fun h hsz H => ?_
    have H2 : Hp _ [] h (refD ⟨p, g, gc, sq, bq, grest⟩ e bp bc { dec0 b n with c := byteD (dec0 b n) 0 * 65536 }) := H
    have hm : MidD { dec0 b n with c := byteD (dec0 b n) 0 * 65536 } := ⟨Nat.zero_le _, by show byteD (dec0 b n) 0 * 65536 < 4294967296; omega, hb, fun x hx => by simp only [dec0, List.mem_replicate] at hx; omega, Nat.zero_le _⟩
    obtain ⟨i1, i2, i3, i4, i5, i6⟩ := inD_mid hm
    refine rin_ok (A := ⟨p, g, gc, sq, bq, grest⟩) H2 hbo hm hbl fun h H => ?_
    have hn : newD b n = { inD { dec0 b n with c := byteD (dec0 b n) 0 * 65536 } with c := (inD { dec0 b n with c := byteD (dec0 b n) 0 * 65536 }).c * 128 % M32, t := (inD { dec0 b n with c := byteD (dec0 b n) 0 * 65536 }).t - 7 } := rfl
    have ht7 : 7 ≤ (inD { dec0 b n with c := byteD (dec0 b n) 0 * 65536 }).t := by
      unfold inD
      split
      · show 7 ≤ 8; omega
      · split
        · show 7 ≤ 8; omega
        · show 7 ≤ 7; omega
    generalize inD { dec0 b n with c := byteD (dec0 b n) 0 * 65536 } = S at H hn i1 ht7
    have hSc := i1.c
    have hSt := i1.t8
    have hM : M32 = 4294967296 := rfl
    refine ldI_of (H.cell 0 rfl rfl) ?_
    refine bindI_of (((S.c * 128 : Nat) : Int)) (by exact shl_of (i := 7) (by decide) (i64_in _ (by omega) (by omega))) ?_
    refine bindI_of _ (mask32m _ (by omega)) ?_
    refine stV_hp H 0 rfl (by first | exact Nat.le_of_ble_eq_true rfl | simp) rfl fun h hsz H => ?_
    refine ldI_of (H.cell 0 rfl rfl) ?_
    refine bindI_of (((S.t - 7 : Nat) : Int)) (by exact i64_at _ _ (by omega) (by omega) (by omega)) ?_
    refine stV_hp H 0 rfl (by first | exact Nat.le_of_ble_eq_true rfl | simp) rfl fun h hsz H => ?_
    refine hk ⟨p, g, gc, sq, bq, grest⟩ e bp bc _ hbo ?_
    rw [hn]
    exact H
  have hr2 := H.rdO hr
  rcases Nat.eq_zero_or_pos b.length with hz | hpos
  · have hbn : b = [] := List.length_eq_zero_iff.1 hz
    rw [hz] at hr2 goal ⊢
    refine appC_nil H hr2 ?_
    exact goal none 0 sp _ ⟨hsp, .inl hbn⟩ H
  · refine appC_new H hr2 (u8s_length b) hpos (by omega) fun o rest h' he H' => ?_
    exact goal (some ⟨o, 0, none⟩) _ ⟨o, true, T_uint8, u8s b ++ rest⟩ _ ⟨rfl, .inr ⟨rest, rfl, rfl⟩⟩ (H'.pick [0, 1, 2, 4] (by decide) rfl)

set_option maxRecDepth 100000 in
theorem newDecoder_bad {h : Heap} {n : Int} (hn : n < 1 ∨ 131072 < n) {src : Option Addr} {bl bc : Nat} {K : Value → Heap → Prop} {Kp : List PanicEntry → Heap → Prop}
    (hk : ∀ h', hext h h' → K (.tuple #[.pointer none, .int .i64 40]) h') : CP F_arith_NewDecoder #[.slice src bl bc, .int .i64 n] h K Kp := by
  refine call_arith_NewDecoder ?_
  unfold arith_NewDecoder
  refine made_bad hn fun cs h2 hcs hone e => ?_
  refine ⟨cs, hcs, false, rfl, ?_⟩
  have H := (Hp.nil h []).ext e
  refine newC_hp H fun t h H => ?_
  refine needs_of hcs ?_
  refine stVs_all H 0 rfl (hcs.trans (by kernel_rfl)) hone fun h' hsz H => ?_
  refine bcase_true (by rfl) ?_
  exact hk _ H.hext

end Go.Ar

/- Au: cells and stores of known rows, named by the offsets that the program reckons. -/
set_option linter.unusedVariables false
set_option linter.unusedSimpArgs false
namespace Go.Den
open Go
section
variable {h0 h : Heap} {FF : List Nat} {L : List Ent}
theorem hpA (H : Hp h0 FF h L) (k : Nat) {b o i : Nat} {w : Bool} {t : TypeId} {cs : List Value} {v : Value} (he : L[k]? = some ⟨b, w, t, cs⟩) (hv : cs[o + i]? = some v) : hcell h ((⟨b, o, none⟩ : Addr).add i) = some v := by
  rw [add_mk]
  exact H.cell k he hv
theorem hpB (H : Hp h0 FF h L) (k : Nat) {b o i j : Nat} {w : Bool} {t : TypeId} {cs : List Value} {v : Value} (he : L[k]? = some ⟨b, w, t, cs⟩) (hv : cs[o + i + j]? = some v) : hcell h (((⟨b, o, none⟩ : Addr).add i).add j) = some v := by
  rw [add_mk, add_mk]
  exact H.cell k he hv
theorem hpC (H : Hp h0 FF h L) (k : Nat) {b o i j l : Nat} {w : Bool} {t : TypeId} {cs : List Value} {v : Value} (he : L[k]? = some ⟨b, w, t, cs⟩) (hv : cs[o + i + j + l]? = some v) : hcell h ((((⟨b, o, none⟩ : Addr).add i).add j).add l) = some v := by
  rw [add_mk, add_mk, add_mk]
  exact H.cell k he hv
theorem stA (H : Hp h0 FF h L) (k : Nat) {b o i : Nat} {t : TypeId} {cs : List Value} {v : Value} {K : Heap → Prop} (he : L[k]? = some ⟨b, true, t, cs⟩) (hi : Nat.ble (o + i + 1) cs.length = true) (hv : v.oneCell' = true)
    (hk : ∀ h', Hp h0 FF h' (L.set k ⟨b, true, t, cs.set (o + i) v⟩) → K h') : stV h ((⟨b, o, none⟩ : Addr).add i) v K := by
  rw [add_mk]
  exact stV_hp H k he (Nat.le_of_ble_eq_true hi) hv fun h' _ H' => hk h' H'
theorem stB (H : Hp h0 FF h L) (k : Nat) {b o i j : Nat} {t : TypeId} {cs : List Value} {v : Value} {K : Heap → Prop} (he : L[k]? = some ⟨b, true, t, cs⟩) (hi : Nat.ble (o + i + j + 1) cs.length = true) (hv : v.oneCell' = true)
    (hk : ∀ h', Hp h0 FF h' (L.set k ⟨b, true, t, cs.set (o + i + j) v⟩) → K h') : stV h (((⟨b, o, none⟩ : Addr).add i).add j) v K := by
  rw [add_mk, add_mk]
  exact stV_hp H k he (Nat.le_of_ble_eq_true hi) hv fun h' _ H' => hk h' H'
theorem st0 (H : Hp h0 FF h L) (k : Nat) {b i : Nat} {t : TypeId} {cs : List Value} {v : Value} {K : Heap → Prop} (he : L[k]? = some ⟨b, true, t, cs⟩) (hi : Nat.ble (i + 1) cs.length = true) (hv : v.oneCell' = true)
    (hk : ∀ h', Hp h0 FF h' (L.set k ⟨b, true, t, cs.set i v⟩) → K h') : stV h ⟨b, i, none⟩ v K :=
  stV_hp H k he (Nat.le_of_ble_eq_true hi) hv fun h' _ H' => hk h' H'
/-- A whole row is written over. -/
theorem stVsA (H : Hp h0 FF h L) (k : Nat) {b : Nat} {t : TypeId} {cs vs : List Value} {K : Heap → Prop} (he : L[k]? = some ⟨b, true, t, cs⟩) (hl : Nat.beq vs.length cs.length = true) (hv : vs.all Value.oneCell' = true)
    (hk : ∀ h', Hp h0 FF h' (L.set k ⟨b, true, t, vs⟩) → K h') : stVs h ⟨b, 0, none⟩ 0 vs K := by
  have hl' : vs.length = cs.length := Nat.eq_of_beq_eq_true hl
  refine stVs_hp (o := 0) (i := 0) H he (by omega) (fun v hm => List.all_eq_true.1 hv v hm) fun h' _ H' => hk h' ?_
  have e : cs.take (0 + 0) ++ vs ++ cs.drop (0 + 0 + vs.length) = vs := by
    rw [Nat.add_zero, Nat.zero_add, List.take_zero, List.nil_append, hl', List.drop_length, List.append_nil]
  rw [e] at H'
  exact H'
end
end Go.Den

/- RfS: burinref8.Get and burinref8.Decode. -/
set_option linter.unusedVariables false
set_option linter.unusedSimpArgs false
namespace Go.Bm
open Go Go.Den Go.Den.Ytcicfilkdhhnmaa
open Go.Ar (Dec refD RP idx BOk getD_ok newD newD_ok u8s)

set_option maxRecDepth 100000 in
set_option maxHeartbeats 2000000 in
theorem rrGet_ok {h0 h : Heap} {A : RP} {e0 : Ent} {bp : Option Addr} {bc m n0 : Nat} {s0 : Dec} {bytes : List Nat} {Y : List Ent} (H : Hp h0 [] h (refD A e0 bp bc s0 ++ Y)) (hb : BOk e0 bp bytes) (hbl : bytes.length < 140737488351300) (hc : Go.Ar.DecOk bytes m n0 s0) (hm1 : 1 ≤ m) (hm2 : m ≤ 131072)
    {base : Int} (hbase : 0 ≤ base ∧ base ≤ 131072) {W X W2 X2 : Nat} {q2 : Option Addr} {c2 : Nat} {ws2 : List Nat} (hr2 : rdO h0 q2 (ws2.length * 1) (u64s ws2)) (hw2 : W64 ws2) (hs : SizeP (W : Int) (X : Int)) (hmb : MayP (W2 : Int) (X2 : Int) ws2)
    {dx dy : Int} (hsh : ShiftP dx dy) (hN : n0 + X * W ≤ 16777216) {K : Value → Heap → Prop} {Kp : List PanicEntry → Heap → Prop}
    (hk : ∀ bs s' q h', runN W (getP ws2 W2 X2) dx dy (stepG m base) (X * W) (fun _ _ => false, s0) = .inl (getP bs W X, s') → bs.length = X * wds W → W64 bs → PadZ W X bs → Go.Ar.DecOk bytes m (n0 + X * W) s' →
      Hp h0 [] h' (refD A e0 bp bc s' ++ Y ++ [⟨q, true, T_uint64, u64s bs ++ []⟩]) → K (.tuple #[.agg #[.int .i64 (W : Nat), .int .i64 (X : Nat), .slice (at0 q) bs.length bs.length], .int .i64 0]) h') :
    CP F_burinref8_Get #[.pointer (at0 A.p), .int .i64 base, .int .i64 (W : Nat), .int .i64 (X : Nat), .agg #[.int .i64 (W2 : Nat), .int .i64 (X2 : Nat), .slice q2 ws2.length c2], .int .i64 dx, .int .i64 dy] h K Kp := by
  refine call_burinref8_Get ?_
  unfold burinref8_Get
  obtain ⟨W', X', e1, e2, hW1, hW2, hX1, hX2, hWX⟩ := size_nat hs
  obtain rfl : W = W' := by omega
  obtain rfl : X = X' := by omega
  clear e1 e2
  refine newC_hp H fun r4 h H => ?_
  have H := H.rot
  refine newC_hp H fun r6 h H => ?_
  have H := H.rot
  refine white_ok hs fun q h' H' => ?_
  replace H := (H.join H' rfl).rot
  clear H'
  refine ⟨_, _, _, _, _, rfl, ?_⟩
  refine newC_hp H fun r13 h H => ?_
  have H := H.rot
  repeat first | with_reducible refine stA H 0 (by with_unfolding_all exact rfl) (by with_unfolding_all exact rfl) (by with_unfolding_all exact rfl) fun h H => ?_ | with_reducible refine stA H 1 (by with_unfolding_all exact rfl) (by with_unfolding_all exact rfl) (by with_unfolding_all exact rfl) fun h H => ?_ | with_reducible refine st0 H 0 (by with_unfolding_all exact rfl) (by with_unfolding_all exact rfl) (by with_unfolding_all exact rfl) fun h H => ?_ | with_reducible refine st0 H 1 (by with_unfolding_all exact rfl) (by with_unfolding_all exact rfl) (by with_unfolding_all exact rfl) fun h H => ?_ | with_reducible refine stB H 0 (by with_unfolding_all exact rfl) (by with_unfolding_all exact rfl) (by with_unfolding_all exact rfl) fun h H => ?_ | with_reducible refine stB H 1 (by with_unfolding_all exact rfl) (by with_unfolding_all exact rfl) (by with_unfolding_all exact rfl) fun h H => ?_
  have hb' := hb.1
  have H : Hp h0 [] h ([⟨r13, true, T_api_Bitmap, [.int .i64 (W : Nat), .int .i64 (X : Nat), .slice (at0 q) (X * wds W) (X * wds W)]⟩, ⟨q, true, T_uint64, u64s (List.replicate (X * wds W) 0) ++ []⟩, ⟨r6, true, T_api_Bitmap, [.int .i64 0, .int .i64 0, .slice none 0 0]⟩, ⟨r4, true, T_api_Bitmap, [.int .i64 (W2 : Nat), .int .i64 (X2 : Nat), .slice q2 ws2.length c2]⟩] ++ (refD A e0 bp bc s0 ++ Y)) := H.as (by simp)
  obtain ⟨I, hI⟩ : ∃ I : Nat → Heap → Prop, I = fun i h' => ∃ (ws : List Nat) (s : Dec), ws.length = X * wds W ∧ W64 ws ∧ PadZ W X ws ∧ runN W (getP ws2 W2 X2) dx dy (stepG m base) i (fun _ _ => false, s0) = .inl (getP ws W X, s) ∧ Go.Ar.DecOk bytes m (n0 + i) s ∧
    Hp h0 [] h' ([⟨r13, true, T_api_Bitmap, [.int .i64 (W : Nat), .int .i64 (X : Nat), .slice (at0 q) (X * wds W) (X * wds W)]⟩, ⟨q, true, T_uint64, u64s ws ++ []⟩, ⟨r6, true, T_api_Bitmap, [.int .i64 0, .int .i64 0, .slice none 0 0]⟩, ⟨r4, true, T_api_Bitmap, [.int .i64 (W2 : Nat), .int .i64 (X2 : Nat), .slice q2 ws2.length c2]⟩] ++ (refD A e0 bp bc s ++ Y)) := ⟨_, rfl⟩
  have hI0 : I 0 h := by
    rw [hI]
    exact ⟨_, s0, by simp, W64.zero _, fun y hy x h1 h2 => pix_zero _ _ _ _, by rw [getP_zero]; rfl, hc, H⟩
  refine ⟨fun n vs h' => ∃ y : Nat, y + n = X ∧ vs = [.int .i64 (y : Int)] ∧ I (y * W) h', ⟨X, 0, by omega, rfl, by rw [Nat.zero_mul]; exact hI0⟩, ?_⟩
  clear H hI0
  rintro n h u xx ⟨y, hyn, hxx, hIy⟩
  injection hxx with hxx
  injection hxx with _ hxx
  subst hxx
  refine bcase_dec (fun h1 => ?_) fun h1 => ?_
  · have h1 : y < X := by omega
    refine ⟨fun n vs h' => ∃ x : Nat, x + n = W ∧ vs = [.int .i64 (x : Int)] ∧ I (y * W + x) h', ⟨W, 0, by omega, rfl, hIy⟩, ?_⟩
    clear hIy
    rintro k h u xx ⟨x, hxn, hxx, hIx⟩
    injection hxx with hxx
    injection hxx with _ hxx
    subst hxx
    refine bcase_dec (fun h2 => ?_) fun h2 => ?_
    · have h2 : x < W := by omega
      have hlt : y * W + x + 1 ≤ X * W := by
        have : (y + 1) * W ≤ X * W := Nat.mul_le_mul_right _ h1
        rw [Nat.add_mul, Nat.one_mul] at this
        omega
      rw [hI] at hIx
      obtain ⟨ws, s, hwl, hww, hwz, hrun, hok, H⟩ := hIx
      repeat first | with_reducible refine ldI_of (by with_unfolding_all first | exact hpA H 0 rfl rfl | exact hpA H 1 rfl rfl | exact hpA H 2 rfl rfl | exact hpA H 3 rfl rfl | exact Hp.cell H 0 rfl rfl | exact Hp.cell H 1 rfl rfl | exact Hp.cell H 2 rfl rfl | exact Hp.cell H 3 rfl rfl | exact hpB H 0 rfl rfl | exact hpB H 1 rfl rfl | exact hpB H 2 rfl rfl | exact hpB H 3 rfl rfl | exact hpC H 0 rfl rfl | exact hpC H 1 rfl rfl | exact hpC H 2 rfl rfl | exact hpC H 3 rfl rfl) ?_ | with_reducible refine ldS_of (by with_unfolding_all first | exact hpA H 0 rfl rfl | exact hpA H 1 rfl rfl | exact hpA H 2 rfl rfl | exact hpA H 3 rfl rfl | exact Hp.cell H 0 rfl rfl | exact Hp.cell H 1 rfl rfl | exact Hp.cell H 2 rfl rfl | exact Hp.cell H 3 rfl rfl | exact hpB H 0 rfl rfl | exact hpB H 1 rfl rfl | exact hpB H 2 rfl rfl | exact hpB H 3 rfl rfl | exact hpC H 0 rfl rfl | exact hpC H 1 rfl rfl | exact hpC H 2 rfl rfl | exact hpC H 3 rfl rfl) ?_ | with_reducible refine ldP_of (by with_unfolding_all first | exact hpA H 0 rfl rfl | exact hpA H 1 rfl rfl | exact hpA H 2 rfl rfl | exact hpA H 3 rfl rfl | exact Hp.cell H 0 rfl rfl | exact Hp.cell H 1 rfl rfl | exact Hp.cell H 2 rfl rfl | exact Hp.cell H 3 rfl rfl | exact hpB H 0 rfl rfl | exact hpB H 1 rfl rfl | exact hpB H 2 rfl rfl | exact hpB H 3 rfl rfl | exact hpC H 0 rfl rfl | exact hpC H 1 rfl rfl | exact hpC H 2 rfl rfl | exact hpC H 3 rfl rfl) ?_ | with_reducible refine ldB_of (by with_unfolding_all first | exact hpA H 0 rfl rfl | exact hpA H 1 rfl rfl | exact hpA H 2 rfl rfl | exact hpA H 3 rfl rfl | exact Hp.cell H 0 rfl rfl | exact Hp.cell H 1 rfl rfl | exact Hp.cell H 2 rfl rfl | exact Hp.cell H 3 rfl rfl | exact hpB H 0 rfl rfl | exact hpB H 1 rfl rfl | exact hpB H 2 rfl rfl | exact hpB H 3 rfl rfl | exact hpC H 0 rfl rfl | exact hpC H 1 rfl rfl | exact hpC H 2 rfl rfl | exact hpC H 3 rfl rfl) ?_ | with_reducible refine ldT_of (by with_unfolding_all first | exact hpA H 0 rfl rfl | exact hpA H 1 rfl rfl | exact hpA H 2 rfl rfl | exact hpA H 3 rfl rfl | exact Hp.cell H 0 rfl rfl | exact Hp.cell H 1 rfl rfl | exact Hp.cell H 2 rfl rfl | exact Hp.cell H 3 rfl rfl | exact hpB H 0 rfl rfl | exact hpB H 1 rfl rfl | exact hpB H 2 rfl rfl | exact hpB H 3 rfl rfl | exact hpC H 0 rfl rfl | exact hpC H 1 rfl rfl | exact hpC H 2 rfl rfl | exact hpC H 3 rfl rfl) ?_
      rw [← hwl] at H ⊢
      refine at_ok (row_rdO H 1 rfl) (H.rdO hr2) hww hw2 hs hwl hmb.1 (may_len hmb) hsh.1 hsh.2 (by omega) (by omega) fun h3 e3 => ?_
      have H := H.ext e3
      refine ⟨_, rfl, ?_⟩
      have hcl := ctxN_lt (getP ws W X) (getP ws2 W2 X2) dx dy x y
      have hnx := runN_next (R := getP ws2 W2 X2) (dx := dx) (dy := dy) (step := stepG m base) h2 hrun
      simp only [stepG] at hnx
      generalize ctxN (getP ws W X) (getP ws2 W2 X2) dx dy x y = cx at hcl hnx ⊢
      refine bindI_of ((base + (cx : Int))) (by exact i64_in _ (by omega) (by omega)) ?_
      refine Go.Ar.rget_ok (H.give [4, 5, 6, 7, 8] (by decide) rfl) (by rw [hok.b]; exact hb) hok.wf (by rw [hok.b]; exact hbl) (by rw [hok.n]; omega) (by rw [hok.len]; exact hm1) (by rw [hok.len]; exact hm2) fun h' H' => ?_
      replace H := H.put [4, 5, 6, 7, 8] (by decide) rfl (by simp [refD, Go.Ar.sideL, hb']) H' (by simp [refD, Go.Ar.sideL, hb']) rfl
      clear H'
      refine ⟨_, _, rfl, ?_⟩
      refine bcase_false (by rfl) ?_
      rw [hok.len] at H ⊢
      have hok2 := getD_ok hok (idx (base + (cx : Int)) m) (by omega)
      have hbit := Go.Ar.getD_bit (s := s) (idx (base + (cx : Int)) m)
      have e1 : (Go.Ar.getD s (idx (base + (cx : Int)) m)).2 = (decide ((Go.Ar.getD s (idx (base + (cx : Int)) m)).2 = 1)).toNat := by
        by_cases h1 : (Go.Ar.getD s (idx (base + (cx : Int)) m)).2 = 1
        · rw [decide_eq_true h1, h1]; rfl
        · rw [decide_eq_false h1]; show _ = 0; omega
      rw [e1]
      have H : Hp h0 [] h' ([⟨r13, true, T_api_Bitmap, [.int .i64 (W : Nat), .int .i64 (X : Nat), .slice (at0 q) ws.length ws.length]⟩, ⟨q, true, T_uint64, u64s ws ++ []⟩, ⟨r6, true, T_api_Bitmap, [.int .i64 0, .int .i64 0, .slice none 0 0]⟩, ⟨r4, true, T_api_Bitmap, [.int .i64 (W2 : Nat), .int .i64 (X2 : Nat), .slice q2 ws2.length c2]⟩] ++ (refD A e0 bp bc (Go.Ar.getD s (idx (base + (cx : Int)) m)).1 ++ Y)) := H
      repeat first | with_reducible refine ldI_of (by with_unfolding_all first | exact hpA H 0 rfl rfl | exact hpA H 1 rfl rfl | exact hpA H 2 rfl rfl | exact hpA H 3 rfl rfl | exact Hp.cell H 0 rfl rfl | exact Hp.cell H 1 rfl rfl | exact Hp.cell H 2 rfl rfl | exact Hp.cell H 3 rfl rfl | exact hpB H 0 rfl rfl | exact hpB H 1 rfl rfl | exact hpB H 2 rfl rfl | exact hpB H 3 rfl rfl | exact hpC H 0 rfl rfl | exact hpC H 1 rfl rfl | exact hpC H 2 rfl rfl | exact hpC H 3 rfl rfl) ?_ | with_reducible refine ldS_of (by with_unfolding_all first | exact hpA H 0 rfl rfl | exact hpA H 1 rfl rfl | exact hpA H 2 rfl rfl | exact hpA H 3 rfl rfl | exact Hp.cell H 0 rfl rfl | exact Hp.cell H 1 rfl rfl | exact Hp.cell H 2 rfl rfl | exact Hp.cell H 3 rfl rfl | exact hpB H 0 rfl rfl | exact hpB H 1 rfl rfl | exact hpB H 2 rfl rfl | exact hpB H 3 rfl rfl | exact hpC H 0 rfl rfl | exact hpC H 1 rfl rfl | exact hpC H 2 rfl rfl | exact hpC H 3 rfl rfl) ?_ | with_reducible refine ldP_of (by with_unfolding_all first | exact hpA H 0 rfl rfl | exact hpA H 1 rfl rfl | exact hpA H 2 rfl rfl | exact hpA H 3 rfl rfl | exact Hp.cell H 0 rfl rfl | exact Hp.cell H 1 rfl rfl | exact Hp.cell H 2 rfl rfl | exact Hp.cell H 3 rfl rfl | exact hpB H 0 rfl rfl | exact hpB H 1 rfl rfl | exact hpB H 2 rfl rfl | exact hpB H 3 rfl rfl | exact hpC H 0 rfl rfl | exact hpC H 1 rfl rfl | exact hpC H 2 rfl rfl | exact hpC H 3 rfl rfl) ?_ | with_reducible refine ldB_of (by with_unfolding_all first | exact hpA H 0 rfl rfl | exact hpA H 1 rfl rfl | exact hpA H 2 rfl rfl | exact hpA H 3 rfl rfl | exact Hp.cell H 0 rfl rfl | exact Hp.cell H 1 rfl rfl | exact Hp.cell H 2 rfl rfl | exact Hp.cell H 3 rfl rfl | exact hpB H 0 rfl rfl | exact hpB H 1 rfl rfl | exact hpB H 2 rfl rfl | exact hpB H 3 rfl rfl | exact hpC H 0 rfl rfl | exact hpC H 1 rfl rfl | exact hpC H 2 rfl rfl | exact hpC H 3 rfl rfl) ?_ | with_reducible refine ldT_of (by with_unfolding_all first | exact hpA H 0 rfl rfl | exact hpA H 1 rfl rfl | exact hpA H 2 rfl rfl | exact hpA H 3 rfl rfl | exact Hp.cell H 0 rfl rfl | exact Hp.cell H 1 rfl rfl | exact Hp.cell H 2 rfl rfl | exact Hp.cell H 3 rfl rfl | exact hpB H 0 rfl rfl | exact hpB H 1 rfl rfl | exact hpB H 2 rfl rfl | exact hpB H 3 rfl rfl | exact hpC H 0 rfl rfl | exact hpC H 1 rfl rfl | exact hpC H 2 rfl rfl | exact hpC H 3 rfl rfl) ?_
      refine put_ok H 1 rfl hww hs hwl h2 h1 fun R h' hRl hRw hRp H => ?_
      refine bindI_of (((x + 1 : Nat) : Int)) (by exact i64_at _ _ (by omega) (by omega) (by omega)) ?_
      refine ⟨k - 1, by omega, x + 1, by omega, rfl, ?_⟩
      rw [hI]
      rw [hwl] at H hRl
      exact ⟨R, _, hRl, hRw, hwz.set h2 hRp, by rw [← Nat.add_assoc, hnx, ← getP_set h2 h1 hRp], hok2, H⟩
    · obtain rfl : W = x := by omega
      refine bindI_of (((y + 1 : Nat) : Int)) (by exact i64_at _ _ (by omega) (by omega) (by omega)) ?_
      exact ⟨n - 1, by omega, y + 1, by omega, rfl, by rw [Nat.add_mul, Nat.one_mul]; exact hIx⟩
  · obtain rfl : X = y := by omega
    rw [hI] at hIy
    obtain ⟨ws, s, hwl, hww, hwz, hrun, hok, H⟩ := hIy
    repeat first | with_reducible refine ldI_of (by with_unfolding_all first | exact hpA H 0 rfl rfl | exact hpA H 1 rfl rfl | exact hpA H 2 rfl rfl | exact hpA H 3 rfl rfl | exact Hp.cell H 0 rfl rfl | exact Hp.cell H 1 rfl rfl | exact Hp.cell H 2 rfl rfl | exact Hp.cell H 3 rfl rfl | exact hpB H 0 rfl rfl | exact hpB H 1 rfl rfl | exact hpB H 2 rfl rfl | exact hpB H 3 rfl rfl | exact hpC H 0 rfl rfl | exact hpC H 1 rfl rfl | exact hpC H 2 rfl rfl | exact hpC H 3 rfl rfl) ?_ | with_reducible refine ldS_of (by with_unfolding_all first | exact hpA H 0 rfl rfl | exact hpA H 1 rfl rfl | exact hpA H 2 rfl rfl | exact hpA H 3 rfl rfl | exact Hp.cell H 0 rfl rfl | exact Hp.cell H 1 rfl rfl | exact Hp.cell H 2 rfl rfl | exact Hp.cell H 3 rfl rfl | exact hpB H 0 rfl rfl | exact hpB H 1 rfl rfl | exact hpB H 2 rfl rfl | exact hpB H 3 rfl rfl | exact hpC H 0 rfl rfl | exact hpC H 1 rfl rfl | exact hpC H 2 rfl rfl | exact hpC H 3 rfl rfl) ?_ | with_reducible refine ldP_of (by with_unfolding_all first | exact hpA H 0 rfl rfl | exact hpA H 1 rfl rfl | exact hpA H 2 rfl rfl | exact hpA H 3 rfl rfl | exact Hp.cell H 0 rfl rfl | exact Hp.cell H 1 rfl rfl | exact Hp.cell H 2 rfl rfl | exact Hp.cell H 3 rfl rfl | exact hpB H 0 rfl rfl | exact hpB H 1 rfl rfl | exact hpB H 2 rfl rfl | exact hpB H 3 rfl rfl | exact hpC H 0 rfl rfl | exact hpC H 1 rfl rfl | exact hpC H 2 rfl rfl | exact hpC H 3 rfl rfl) ?_ | with_reducible refine ldB_of (by with_unfolding_all first | exact hpA H 0 rfl rfl | exact hpA H 1 rfl rfl | exact hpA H 2 rfl rfl | exact hpA H 3 rfl rfl | exact Hp.cell H 0 rfl rfl | exact Hp.cell H 1 rfl rfl | exact Hp.cell H 2 rfl rfl | exact Hp.cell H 3 rfl rfl | exact hpB H 0 rfl rfl | exact hpB H 1 rfl rfl | exact hpB H 2 rfl rfl | exact hpB H 3 rfl rfl | exact hpC H 0 rfl rfl | exact hpC H 1 rfl rfl | exact hpC H 2 rfl rfl | exact hpC H 3 rfl rfl) ?_ | with_reducible refine ldT_of (by with_unfolding_all first | exact hpA H 0 rfl rfl | exact hpA H 1 rfl rfl | exact hpA H 2 rfl rfl | exact hpA H 3 rfl rfl | exact Hp.cell H 0 rfl rfl | exact Hp.cell H 1 rfl rfl | exact Hp.cell H 2 rfl rfl | exact Hp.cell H 3 rfl rfl | exact hpB H 0 rfl rfl | exact hpB H 1 rfl rfl | exact hpB H 2 rfl rfl | exact hpB H 3 rfl rfl | exact hpC H 0 rfl rfl | exact hpC H 1 rfl rfl | exact hpC H 2 rfl rfl | exact hpC H 3 rfl rfl) ?_
    repeat first | with_reducible refine stA H 0 (by with_unfolding_all exact rfl) (by with_unfolding_all exact rfl) (by with_unfolding_all exact rfl) fun h H => ?_ | with_reducible refine stA H 1 (by with_unfolding_all exact rfl) (by with_unfolding_all exact rfl) (by with_unfolding_all exact rfl) fun h H => ?_ | with_reducible refine stA H 2 (by with_unfolding_all exact rfl) (by with_unfolding_all exact rfl) (by with_unfolding_all exact rfl) fun h H => ?_ | with_reducible refine stA H 3 (by with_unfolding_all exact rfl) (by with_unfolding_all exact rfl) (by with_unfolding_all exact rfl) fun h H => ?_ | with_reducible refine st0 H 0 (by with_unfolding_all exact rfl) (by with_unfolding_all exact rfl) (by with_unfolding_all exact rfl) fun h H => ?_ | with_reducible refine st0 H 1 (by with_unfolding_all exact rfl) (by with_unfolding_all exact rfl) (by with_unfolding_all exact rfl) fun h H => ?_ | with_reducible refine st0 H 2 (by with_unfolding_all exact rfl) (by with_unfolding_all exact rfl) (by with_unfolding_all exact rfl) fun h H => ?_ | with_reducible refine st0 H 3 (by with_unfolding_all exact rfl) (by with_unfolding_all exact rfl) (by with_unfolding_all exact rfl) fun h H => ?_ | with_reducible refine stB H 0 (by with_unfolding_all exact rfl) (by with_unfolding_all exact rfl) (by with_unfolding_all exact rfl) fun h H => ?_ | with_reducible refine stB H 1 (by with_unfolding_all exact rfl) (by with_unfolding_all exact rfl) (by with_unfolding_all exact rfl) fun h H => ?_ | with_reducible refine stB H 2 (by with_unfolding_all exact rfl) (by with_unfolding_all exact rfl) (by with_unfolding_all exact rfl) fun h H => ?_ | with_reducible refine stB H 3 (by with_unfolding_all exact rfl) (by with_unfolding_all exact rfl) (by with_unfolding_all exact rfl) fun h H => ?_
    repeat first | with_reducible refine ldI_of (by with_unfolding_all first | exact hpA H 0 rfl rfl | exact hpA H 1 rfl rfl | exact hpA H 2 rfl rfl | exact hpA H 3 rfl rfl | exact Hp.cell H 0 rfl rfl | exact Hp.cell H 1 rfl rfl | exact Hp.cell H 2 rfl rfl | exact Hp.cell H 3 rfl rfl | exact hpB H 0 rfl rfl | exact hpB H 1 rfl rfl | exact hpB H 2 rfl rfl | exact hpB H 3 rfl rfl | exact hpC H 0 rfl rfl | exact hpC H 1 rfl rfl | exact hpC H 2 rfl rfl | exact hpC H 3 rfl rfl) ?_ | with_reducible refine ldS_of (by with_unfolding_all first | exact hpA H 0 rfl rfl | exact hpA H 1 rfl rfl | exact hpA H 2 rfl rfl | exact hpA H 3 rfl rfl | exact Hp.cell H 0 rfl rfl | exact Hp.cell H 1 rfl rfl | exact Hp.cell H 2 rfl rfl | exact Hp.cell H 3 rfl rfl | exact hpB H 0 rfl rfl | exact hpB H 1 rfl rfl | exact hpB H 2 rfl rfl | exact hpB H 3 rfl rfl | exact hpC H 0 rfl rfl | exact hpC H 1 rfl rfl | exact hpC H 2 rfl rfl | exact hpC H 3 rfl rfl) ?_ | with_reducible refine ldP_of (by with_unfolding_all first | exact hpA H 0 rfl rfl | exact hpA H 1 rfl rfl | exact hpA H 2 rfl rfl | exact hpA H 3 rfl rfl | exact Hp.cell H 0 rfl rfl | exact Hp.cell H 1 rfl rfl | exact Hp.cell H 2 rfl rfl | exact Hp.cell H 3 rfl rfl | exact hpB H 0 rfl rfl | exact hpB H 1 rfl rfl | exact hpB H 2 rfl rfl | exact hpB H 3 rfl rfl | exact hpC H 0 rfl rfl | exact hpC H 1 rfl rfl | exact hpC H 2 rfl rfl | exact hpC H 3 rfl rfl) ?_ | with_reducible refine ldB_of (by with_unfolding_all first | exact hpA H 0 rfl rfl | exact hpA H 1 rfl rfl | exact hpA H 2 rfl rfl | exact hpA H 3 rfl rfl | exact Hp.cell H 0 rfl rfl | exact Hp.cell H 1 rfl rfl | exact Hp.cell H 2 rfl rfl | exact Hp.cell H 3 rfl rfl | exact hpB H 0 rfl rfl | exact hpB H 1 rfl rfl | exact hpB H 2 rfl rfl | exact hpB H 3 rfl rfl | exact hpC H 0 rfl rfl | exact hpC H 1 rfl rfl | exact hpC H 2 rfl rfl | exact hpC H 3 rfl rfl) ?_ | with_reducible refine ldT_of (by with_unfolding_all first | exact hpA H 0 rfl rfl | exact hpA H 1 rfl rfl | exact hpA H 2 rfl rfl | exact hpA H 3 rfl rfl | exact Hp.cell H 0 rfl rfl | exact Hp.cell H 1 rfl rfl | exact Hp.cell H 2 rfl rfl | exact Hp.cell H 3 rfl rfl | exact hpB H 0 rfl rfl | exact hpB H 1 rfl rfl | exact hpB H 2 rfl rfl | exact hpB H 3 rfl rfl | exact hpC H 0 rfl rfl | exact hpC H 1 rfl rfl | exact hpC H 2 rfl rfl | exact hpC H 3 rfl rfl) ?_
    rw [← hwl] at H ⊢
    have H : Hp h0 [] h (([⟨r13, true, T_api_Bitmap, [.int .i64 (W : Nat), .int .i64 (X : Nat), .slice (at0 q) ws.length ws.length]⟩, ⟨q, true, T_uint64, u64s ws ++ []⟩, ⟨r6, true, T_api_Bitmap, [.int .i64 (W : Nat), .int .i64 (X : Nat), .slice (at0 q) ws.length ws.length]⟩, ⟨r4, true, T_api_Bitmap, [.int .i64 (W2 : Nat), .int .i64 (X2 : Nat), .slice q2 ws2.length c2]⟩] ++ (refD A e0 bp bc s ++ Y))) := H
    refine hk ws s q h hrun hwl hww hwz hok ?_
    have H1 : Hp h0 [] h ([⟨q, true, T_uint64, u64s ws ++ []⟩] ++ (refD A e0 bp bc s ++ Y)) := H.sub (List.Sublist.append (by simp) (List.Sublist.refl _))
    exact H1.rot


set_option maxRecDepth 100000 in
set_option maxHeartbeats 2000000 in
theorem rrDec_ok {hB : Heap} {src : Option Addr} {bc0 : Nat} {bytes : List Nat} (hbb : ∀ x ∈ bytes, x < 256) (hbl : bytes.length < 140737488351300) (hr : rdO hB src (bytes.length * 1) (u8s bytes))
    {w b w2 b2 : Int} {q2 : Option Addr} {c2 : Nat} {ws2 : List Nat} (hr2 : rdO hB q2 (ws2.length * 1) (u64s ws2)) (hw2 : W64 ws2) (hl2 : ws2.length < 140737488351300) {dx dy : Int} {K : Value → Heap → Prop} {Kp : List PanicEntry → Heap → Prop}
    (hk : ∀ e w' b' bs s' D qo c h', GetR bytes 8192 0 0 w b w2 b2 ws2 dx dy (newD bytes 8192) e w' b' bs s' → Slot T_uint64 1 D qo bs.length c (u64s bs) → Hp hB [] h' D → K (.tuple #[.agg #[.int .i64 w', .int .i64 b', .slice qo bs.length c], .int .i64 e]) h') :
    CP F_burinref8_Decode #[.slice src bytes.length bc0, .int .i64 w, .int .i64 b, .agg #[.int .i64 w2, .int .i64 b2, .slice q2 ws2.length c2], .int .i64 dx, .int .i64 dy] hB K Kp := by
  refine call_burinref8_Decode ?_
  unfold burinref8_Decode
  have H := Hp.nil hB []
  refine newC_hp H fun r4 h H => ?_
  refine newC_hp H fun r6 h H => ?_
  repeat first | with_reducible refine ldI_of (by with_unfolding_all first | exact hpA H 0 rfl rfl | exact hpA H 1 rfl rfl | exact Hp.cell H 0 rfl rfl | exact Hp.cell H 1 rfl rfl | exact hpB H 0 rfl rfl | exact hpB H 1 rfl rfl | exact hpC H 0 rfl rfl | exact hpC H 1 rfl rfl) ?_ | with_reducible refine ldS_of (by with_unfolding_all first | exact hpA H 0 rfl rfl | exact hpA H 1 rfl rfl | exact Hp.cell H 0 rfl rfl | exact Hp.cell H 1 rfl rfl | exact hpB H 0 rfl rfl | exact hpB H 1 rfl rfl | exact hpC H 0 rfl rfl | exact hpC H 1 rfl rfl) ?_ | with_reducible refine ldP_of (by with_unfolding_all first | exact hpA H 0 rfl rfl | exact hpA H 1 rfl rfl | exact Hp.cell H 0 rfl rfl | exact Hp.cell H 1 rfl rfl | exact hpB H 0 rfl rfl | exact hpB H 1 rfl rfl | exact hpC H 0 rfl rfl | exact hpC H 1 rfl rfl) ?_ | with_reducible refine ldB_of (by with_unfolding_all first | exact hpA H 0 rfl rfl | exact hpA H 1 rfl rfl | exact Hp.cell H 0 rfl rfl | exact Hp.cell H 1 rfl rfl | exact hpB H 0 rfl rfl | exact hpB H 1 rfl rfl | exact hpC H 0 rfl rfl | exact hpC H 1 rfl rfl) ?_ | with_reducible refine ldT_of (by with_unfolding_all first | exact hpA H 0 rfl rfl | exact hpA H 1 rfl rfl | exact Hp.cell H 0 rfl rfl | exact Hp.cell H 1 rfl rfl | exact hpB H 0 rfl rfl | exact hpB H 1 rfl rfl | exact hpC H 0 rfl rfl | exact hpC H 1 rfl rfl) ?_
  refine may_ok (H.rdO hr2) hw2 hl2 fun bm h1 hbm e1 => ?_
  have H := H.ext e1
  refine ⟨_, rfl, ?_⟩
  refine bcase_not (fun h2 => ?_) fun h2 => ?_
  · repeat first | with_reducible refine ldI_of (by with_unfolding_all first | exact hpA H 0 rfl rfl | exact hpA H 1 rfl rfl | exact Hp.cell H 0 rfl rfl | exact Hp.cell H 1 rfl rfl | exact hpB H 0 rfl rfl | exact hpB H 1 rfl rfl | exact hpC H 0 rfl rfl | exact hpC H 1 rfl rfl) ?_ | with_reducible refine ldS_of (by with_unfolding_all first | exact hpA H 0 rfl rfl | exact hpA H 1 rfl rfl | exact Hp.cell H 0 rfl rfl | exact Hp.cell H 1 rfl rfl | exact hpB H 0 rfl rfl | exact hpB H 1 rfl rfl | exact hpC H 0 rfl rfl | exact hpC H 1 rfl rfl) ?_ | with_reducible refine ldP_of (by with_unfolding_all first | exact hpA H 0 rfl rfl | exact hpA H 1 rfl rfl | exact Hp.cell H 0 rfl rfl | exact Hp.cell H 1 rfl rfl | exact hpB H 0 rfl rfl | exact hpB H 1 rfl rfl | exact hpC H 0 rfl rfl | exact hpC H 1 rfl rfl) ?_ | with_reducible refine ldB_of (by with_unfolding_all first | exact hpA H 0 rfl rfl | exact hpA H 1 rfl rfl | exact Hp.cell H 0 rfl rfl | exact Hp.cell H 1 rfl rfl | exact hpB H 0 rfl rfl | exact hpB H 1 rfl rfl | exact hpC H 0 rfl rfl | exact hpC H 1 rfl rfl) ?_ | with_reducible refine ldT_of (by with_unfolding_all first | exact hpA H 0 rfl rfl | exact hpA H 1 rfl rfl | exact Hp.cell H 0 rfl rfl | exact Hp.cell H 1 rfl rfl | exact hpB H 0 rfl rfl | exact hpB H 1 rfl rfl | exact hpC H 0 rfl rfl | exact hpC H 1 rfl rfl) ?_ | with_reducible refine stA H 0 (by with_unfolding_all exact rfl) (by with_unfolding_all exact rfl) (by with_unfolding_all exact rfl) fun h H => ?_ | with_reducible refine stA H 1 (by with_unfolding_all exact rfl) (by with_unfolding_all exact rfl) (by with_unfolding_all exact rfl) fun h H => ?_ | with_reducible refine st0 H 0 (by with_unfolding_all exact rfl) (by with_unfolding_all exact rfl) (by with_unfolding_all exact rfl) fun h H => ?_ | with_reducible refine st0 H 1 (by with_unfolding_all exact rfl) (by with_unfolding_all exact rfl) (by with_unfolding_all exact rfl) fun h H => ?_ | with_reducible refine stB H 0 (by with_unfolding_all exact rfl) (by with_unfolding_all exact rfl) (by with_unfolding_all exact rfl) fun h H => ?_ | with_reducible refine stB H 1 (by with_unfolding_all exact rfl) (by with_unfolding_all exact rfl) (by with_unfolding_all exact rfl) fun h H => ?_
    exact hk 62 0 0 [] _ [] none 0 _ (.inl ⟨(fun hh => by rw [hbm.2 hh] at h2; cases h2), rfl, rfl, rfl, rfl, rfl⟩) (Slot.nil _ _) (H.take 0)
  have hm := hbm.1 h2
  refine rsize_ok fun bs hbs => ?_
  refine ⟨_, rfl, ?_⟩
  refine bcase_not (fun h3 => ?_) fun h3 => ?_
  · repeat first | with_reducible refine ldI_of (by with_unfolding_all first | exact hpA H 0 rfl rfl | exact hpA H 1 rfl rfl | exact Hp.cell H 0 rfl rfl | exact Hp.cell H 1 rfl rfl | exact hpB H 0 rfl rfl | exact hpB H 1 rfl rfl | exact hpC H 0 rfl rfl | exact hpC H 1 rfl rfl) ?_ | with_reducible refine ldS_of (by with_unfolding_all first | exact hpA H 0 rfl rfl | exact hpA H 1 rfl rfl | exact Hp.cell H 0 rfl rfl | exact Hp.cell H 1 rfl rfl | exact hpB H 0 rfl rfl | exact hpB H 1 rfl rfl | exact hpC H 0 rfl rfl | exact hpC H 1 rfl rfl) ?_ | with_reducible refine ldP_of (by with_unfolding_all first | exact hpA H 0 rfl rfl | exact hpA H 1 rfl rfl | exact Hp.cell H 0 rfl rfl | exact Hp.cell H 1 rfl rfl | exact hpB H 0 rfl rfl | exact hpB H 1 rfl rfl | exact hpC H 0 rfl rfl | exact hpC H 1 rfl rfl) ?_ | with_reducible refine ldB_of (by with_unfolding_all first | exact hpA H 0 rfl rfl | exact hpA H 1 rfl rfl | exact Hp.cell H 0 rfl rfl | exact Hp.cell H 1 rfl rfl | exact hpB H 0 rfl rfl | exact hpB H 1 rfl rfl | exact hpC H 0 rfl rfl | exact hpC H 1 rfl rfl) ?_ | with_reducible refine ldT_of (by with_unfolding_all first | exact hpA H 0 rfl rfl | exact hpA H 1 rfl rfl | exact Hp.cell H 0 rfl rfl | exact Hp.cell H 1 rfl rfl | exact hpB H 0 rfl rfl | exact hpB H 1 rfl rfl | exact hpC H 0 rfl rfl | exact hpC H 1 rfl rfl) ?_ | with_reducible refine stA H 0 (by with_unfolding_all exact rfl) (by with_unfolding_all exact rfl) (by with_unfolding_all exact rfl) fun h H => ?_ | with_reducible refine stA H 1 (by with_unfolding_all exact rfl) (by with_unfolding_all exact rfl) (by with_unfolding_all exact rfl) fun h H => ?_ | with_reducible refine st0 H 0 (by with_unfolding_all exact rfl) (by with_unfolding_all exact rfl) (by with_unfolding_all exact rfl) fun h H => ?_ | with_reducible refine st0 H 1 (by with_unfolding_all exact rfl) (by with_unfolding_all exact rfl) (by with_unfolding_all exact rfl) fun h H => ?_ | with_reducible refine stB H 0 (by with_unfolding_all exact rfl) (by with_unfolding_all exact rfl) (by with_unfolding_all exact rfl) fun h H => ?_ | with_reducible refine stB H 1 (by with_unfolding_all exact rfl) (by with_unfolding_all exact rfl) (by with_unfolding_all exact rfl) fun h H => ?_
    exact hk 63 0 0 [] _ [] none 0 _ (.inr (.inl ⟨hm, (fun hh => by rw [hbs.2 hh] at h3; cases h3), rfl, rfl, rfl, rfl, rfl⟩)) (Slot.nil _ _) (H.take 0)
  have hs := hbs.1 h3
  refine may8_ok fun bt hbt => ?_
  refine ⟨_, rfl, ?_⟩
  refine bcase_not (fun h4 => ?_) fun h4 => ?_
  · repeat first | with_reducible refine ldI_of (by with_unfolding_all first | exact hpA H 0 rfl rfl | exact hpA H 1 rfl rfl | exact Hp.cell H 0 rfl rfl | exact Hp.cell H 1 rfl rfl | exact hpB H 0 rfl rfl | exact hpB H 1 rfl rfl | exact hpC H 0 rfl rfl | exact hpC H 1 rfl rfl) ?_ | with_reducible refine ldS_of (by with_unfolding_all first | exact hpA H 0 rfl rfl | exact hpA H 1 rfl rfl | exact Hp.cell H 0 rfl rfl | exact Hp.cell H 1 rfl rfl | exact hpB H 0 rfl rfl | exact hpB H 1 rfl rfl | exact hpC H 0 rfl rfl | exact hpC H 1 rfl rfl) ?_ | with_reducible refine ldP_of (by with_unfolding_all first | exact hpA H 0 rfl rfl | exact hpA H 1 rfl rfl | exact Hp.cell H 0 rfl rfl | exact Hp.cell H 1 rfl rfl | exact hpB H 0 rfl rfl | exact hpB H 1 rfl rfl | exact hpC H 0 rfl rfl | exact hpC H 1 rfl rfl) ?_ | with_reducible refine ldB_of (by with_unfolding_all first | exact hpA H 0 rfl rfl | exact hpA H 1 rfl rfl | exact Hp.cell H 0 rfl rfl | exact Hp.cell H 1 rfl rfl | exact hpB H 0 rfl rfl | exact hpB H 1 rfl rfl | exact hpC H 0 rfl rfl | exact hpC H 1 rfl rfl) ?_ | with_reducible refine ldT_of (by with_unfolding_all first | exact hpA H 0 rfl rfl | exact hpA H 1 rfl rfl | exact Hp.cell H 0 rfl rfl | exact Hp.cell H 1 rfl rfl | exact hpB H 0 rfl rfl | exact hpB H 1 rfl rfl | exact hpC H 0 rfl rfl | exact hpC H 1 rfl rfl) ?_ | with_reducible refine stA H 0 (by with_unfolding_all exact rfl) (by with_unfolding_all exact rfl) (by with_unfolding_all exact rfl) fun h H => ?_ | with_reducible refine stA H 1 (by with_unfolding_all exact rfl) (by with_unfolding_all exact rfl) (by with_unfolding_all exact rfl) fun h H => ?_ | with_reducible refine st0 H 0 (by with_unfolding_all exact rfl) (by with_unfolding_all exact rfl) (by with_unfolding_all exact rfl) fun h H => ?_ | with_reducible refine st0 H 1 (by with_unfolding_all exact rfl) (by with_unfolding_all exact rfl) (by with_unfolding_all exact rfl) fun h H => ?_ | with_reducible refine stB H 0 (by with_unfolding_all exact rfl) (by with_unfolding_all exact rfl) (by with_unfolding_all exact rfl) fun h H => ?_ | with_reducible refine stB H 1 (by with_unfolding_all exact rfl) (by with_unfolding_all exact rfl) (by with_unfolding_all exact rfl) fun h H => ?_
    exact hk 70 0 0 [] _ [] none 0 _ (.inr (.inr (.inl ⟨hm, hs, (fun hh => by rw [hbt.2 hh] at h4; cases h4), rfl, rfl, rfl, rfl, rfl⟩))) (Slot.nil _ _) (H.take 0)
  have hsh := hbt.1 h4
  obtain ⟨W, X, rfl, rfl, hW1, hW2, hX1, hX2, hWX⟩ := size_nat hs
  obtain ⟨W2, X2, rfl, rfl, _, _, _, _, _⟩ := size_nat hm.1
  repeat first | with_reducible refine ldI_of (by with_unfolding_all first | exact hpA H 0 rfl rfl | exact hpA H 1 rfl rfl | exact Hp.cell H 0 rfl rfl | exact Hp.cell H 1 rfl rfl | exact hpB H 0 rfl rfl | exact hpB H 1 rfl rfl | exact hpC H 0 rfl rfl | exact hpC H 1 rfl rfl) ?_ | with_reducible refine ldS_of (by with_unfolding_all first | exact hpA H 0 rfl rfl | exact hpA H 1 rfl rfl | exact Hp.cell H 0 rfl rfl | exact Hp.cell H 1 rfl rfl | exact hpB H 0 rfl rfl | exact hpB H 1 rfl rfl | exact hpC H 0 rfl rfl | exact hpC H 1 rfl rfl) ?_ | with_reducible refine ldP_of (by with_unfolding_all first | exact hpA H 0 rfl rfl | exact hpA H 1 rfl rfl | exact Hp.cell H 0 rfl rfl | exact Hp.cell H 1 rfl rfl | exact hpB H 0 rfl rfl | exact hpB H 1 rfl rfl | exact hpC H 0 rfl rfl | exact hpC H 1 rfl rfl) ?_ | with_reducible refine ldB_of (by with_unfolding_all first | exact hpA H 0 rfl rfl | exact hpA H 1 rfl rfl | exact Hp.cell H 0 rfl rfl | exact Hp.cell H 1 rfl rfl | exact hpB H 0 rfl rfl | exact hpB H 1 rfl rfl | exact hpC H 0 rfl rfl | exact hpC H 1 rfl rfl) ?_ | with_reducible refine ldT_of (by with_unfolding_all first | exact hpA H 0 rfl rfl | exact hpA H 1 rfl rfl | exact Hp.cell H 0 rfl rfl | exact Hp.cell H 1 rfl rfl | exact hpB H 0 rfl rfl | exact hpB H 1 rfl rfl | exact hpC H 0 rfl rfl | exact hpC H 1 rfl rfl) ?_
  refine Go.Ar.rnewD_ok (n := 8192) (by decide) hbb hbl (H.rdO hr) fun A eb bp bc h' hbo H' => ?_
  have hw5 := hbo.1
  have e5 := H'.hext
  replace H := H.join H' (by simp [refD, Go.Ar.sideL, hbo.1])
  clear H'
  refine ⟨_, rfl, e5, ?_⟩
  have hpx := size_px hs
  simp only [Int.toNat_natCast] at hpx
  refine rrGet_ok (base := 0) (n0 := 0) H.rot hbo hbl (newD_ok hbb 8192) (by decide) (by decide) (by decide) hr2 hw2 hs hm hsh hpx fun bs s' q h' hrun hlen hww hwz hok H => ?_
  refine ⟨_, _, _, _, _, _, rfl, ?_⟩
  have H : Hp hB [] h' ([] ++ refD A eb bp bc s' ++ ([⟨r4, true, T_api_Bitmap, [.int .i64 (W2 : Nat), .int .i64 (X2 : Nat), .slice q2 ws2.length c2]⟩, ⟨r6, true, T_api_Bitmap, [.int .i64 0, .int .i64 0, .slice none 0 0]⟩, ⟨q, true, T_uint64, u64s bs ++ []⟩])) := H.as (by simp)
  have H := Hp.suf H
  repeat first | with_reducible refine ldI_of (by with_unfolding_all first | exact hpA H 0 rfl rfl | exact hpA H 1 rfl rfl | exact hpA H 2 rfl rfl | exact Hp.cell H 0 rfl rfl | exact Hp.cell H 1 rfl rfl | exact Hp.cell H 2 rfl rfl | exact hpB H 0 rfl rfl | exact hpB H 1 rfl rfl | exact hpB H 2 rfl rfl | exact hpC H 0 rfl rfl | exact hpC H 1 rfl rfl | exact hpC H 2 rfl rfl) ?_ | with_reducible refine ldS_of (by with_unfolding_all first | exact hpA H 0 rfl rfl | exact hpA H 1 rfl rfl | exact hpA H 2 rfl rfl | exact Hp.cell H 0 rfl rfl | exact Hp.cell H 1 rfl rfl | exact Hp.cell H 2 rfl rfl | exact hpB H 0 rfl rfl | exact hpB H 1 rfl rfl | exact hpB H 2 rfl rfl | exact hpC H 0 rfl rfl | exact hpC H 1 rfl rfl | exact hpC H 2 rfl rfl) ?_ | with_reducible refine ldP_of (by with_unfolding_all first | exact hpA H 0 rfl rfl | exact hpA H 1 rfl rfl | exact hpA H 2 rfl rfl | exact Hp.cell H 0 rfl rfl | exact Hp.cell H 1 rfl rfl | exact Hp.cell H 2 rfl rfl | exact hpB H 0 rfl rfl | exact hpB H 1 rfl rfl | exact hpB H 2 rfl rfl | exact hpC H 0 rfl rfl | exact hpC H 1 rfl rfl | exact hpC H 2 rfl rfl) ?_ | with_reducible refine ldB_of (by with_unfolding_all first | exact hpA H 0 rfl rfl | exact hpA H 1 rfl rfl | exact hpA H 2 rfl rfl | exact Hp.cell H 0 rfl rfl | exact Hp.cell H 1 rfl rfl | exact Hp.cell H 2 rfl rfl | exact hpB H 0 rfl rfl | exact hpB H 1 rfl rfl | exact hpB H 2 rfl rfl | exact hpC H 0 rfl rfl | exact hpC H 1 rfl rfl | exact hpC H 2 rfl rfl) ?_ | with_reducible refine ldT_of (by with_unfolding_all first | exact hpA H 0 rfl rfl | exact hpA H 1 rfl rfl | exact hpA H 2 rfl rfl | exact Hp.cell H 0 rfl rfl | exact Hp.cell H 1 rfl rfl | exact Hp.cell H 2 rfl rfl | exact hpB H 0 rfl rfl | exact hpB H 1 rfl rfl | exact hpB H 2 rfl rfl | exact hpC H 0 rfl rfl | exact hpC H 1 rfl rfl | exact hpC H 2 rfl rfl) ?_ | with_reducible refine stA H 0 (by with_unfolding_all exact rfl) (by with_unfolding_all exact rfl) (by with_unfolding_all exact rfl) fun h H => ?_ | with_reducible refine stA H 1 (by with_unfolding_all exact rfl) (by with_unfolding_all exact rfl) (by with_unfolding_all exact rfl) fun h H => ?_ | with_reducible refine stA H 2 (by with_unfolding_all exact rfl) (by with_unfolding_all exact rfl) (by with_unfolding_all exact rfl) fun h H => ?_ | with_reducible refine st0 H 0 (by with_unfolding_all exact rfl) (by with_unfolding_all exact rfl) (by with_unfolding_all exact rfl) fun h H => ?_ | with_reducible refine st0 H 1 (by with_unfolding_all exact rfl) (by with_unfolding_all exact rfl) (by with_unfolding_all exact rfl) fun h H => ?_ | with_reducible refine st0 H 2 (by with_unfolding_all exact rfl) (by with_unfolding_all exact rfl) (by with_unfolding_all exact rfl) fun h H => ?_ | with_reducible refine stB H 0 (by with_unfolding_all exact rfl) (by with_unfolding_all exact rfl) (by with_unfolding_all exact rfl) fun h H => ?_ | with_reducible refine stB H 1 (by with_unfolding_all exact rfl) (by with_unfolding_all exact rfl) (by with_unfolding_all exact rfl) fun h H => ?_ | with_reducible refine stB H 2 (by with_unfolding_all exact rfl) (by with_unfolding_all exact rfl) (by with_unfolding_all exact rfl) fun h H => ?_
  have H : Hp hB [] h ([⟨r4, true, T_api_Bitmap, [.int .i64 (W2 : Nat), .int .i64 (X2 : Nat), .slice q2 ws2.length c2]⟩, ⟨r6, true, T_api_Bitmap, [.int .i64 (W : Nat), .int .i64 (X : Nat), .slice (at0 q) bs.length bs.length]⟩] ++ [⟨q, true, T_uint64, u64s bs ++ []⟩]) := H
  refine hk 0 _ _ bs s' [⟨q, true, T_uint64, u64s bs ++ []⟩] _ _ h (.inr (.inr (.inr (.inr ⟨hm, hs, hsh, ⟨by omega, by omega⟩, rfl, rfl, rfl, by simpa using hrun, by simpa using hlen, hww, by simpa using hwz, by simpa using hok⟩)))) (Slot.one (by rw [u64s_length, Nat.mul_one]) (by rw [List.length_append, u64s_length, Nat.mul_one]; simp)) (Hp.suf H)
end Go.Bm

/- Written by gen.py: the conditions of the functions of law8x. -/
set_option linter.unusedVariables false
set_option linter.unusedSimpArgs false
namespace Go.Den.Ytcicfilkdhhnmaa
open Go Go.Den

/- burin/burinlaw8.light -/
set_option maxRecDepth 100000 in
def burinlaw8_light (C : CallP) (b_1 : Int) (b_2 : Int) (b_3 : Option Addr) (b_3n : Nat) (b_3c : Nat) (h : Heap) (K : Value → Heap → Prop) (Kp : List PanicEntry → Heap → Prop) : Prop :=
newC h [.int .i64 b_1, .int .i64 b_2, .slice b_3 b_3n b_3c] T_api_Bitmap fun r_4 h_5 =>
ldS h_5 ((⟨r_4, 0, none⟩ : Addr).add 2) fun x_6 x_6n x_6c =>
bcase (decide ((x_6n : Int) ≤ (1000 : Int))) (
ldI h_5 ((⟨r_4, 0, none⟩ : Addr).add 0) .i64 fun x_7 =>
ldI h_5 ((⟨r_4, 0, none⟩ : Addr).add 1) .i64 fun x_8 =>
ldS h_5 ((⟨r_4, 0, none⟩ : Addr).add 2) fun x_9 x_9n x_9c =>
C F_burinref0_May #[.agg #[.int .i64 x_7, .int .i64 x_8, .slice x_9 x_9n x_9c]] h_5 (fun v_10 h_11 =>
∃ (r_12 : Bool), v_10 = .bool r_12 ∧ (
bcase (!r_12) (
K (.bool true) h_11) <|
ldI h_11 ((⟨r_4, 0, none⟩ : Addr).add 0) .i64 fun x_13 =>
ldI h_11 ((⟨r_4, 0, none⟩ : Addr).add 1) .i64 fun x_14 =>
bindI (IntKind.i64.wrap (x_13 * x_14)) fun z_15 =>
K (.bool (decide (z_15 ≤ (4000 : Int)))) h_11)) (Kp)) <|
K (.bool false) h_5

/- burin/burinlaw8.wakes -/
set_option maxRecDepth 100000 in
def burinlaw8_wakes (C : CallP)  (h : Heap) (K : Value → Heap → Prop) (Kp : List PanicEntry → Heap → Prop) : Prop :=
newC h [.int .u64 4611686018427387904] T_uint64 fun r_1 h_2 =>
newC h_2 [.int .i64 0, .int .i64 0, .slice none 0 0] T_api_Bitmap fun r_3 h_4 =>
stV h_4 ((⟨r_3, 0, none⟩ : Addr).add 0) (.int .i64 3) fun h_5 =>
stV h_5 ((⟨r_3, 0, none⟩ : Addr).add 1) (.int .i64 1) fun h_6 =>
stV h_6 ((⟨r_3, 0, none⟩ : Addr).add 2) (.slice (some ⟨r_1, 0, none⟩) 1 1) fun h_7 =>
newC h_7 [.int .u64 6917529027641081856] T_uint64 fun r_8 h_9 =>
newC h_9 [.int .i64 0, .int .i64 0, .slice none 0 0] T_api_Bitmap fun r_10 h_11 =>
stV h_11 ((⟨r_10, 0, none⟩ : Addr).add 0) (.int .i64 3) fun h_12 =>
stV h_12 ((⟨r_10, 0, none⟩ : Addr).add 1) (.int .i64 1) fun h_13 =>
stV h_13 ((⟨r_10, 0, none⟩ : Addr).add 2) (.slice (some ⟨r_8, 0, none⟩) 1 1) fun h_14 =>
ldI h_14 ((⟨r_3, 0, none⟩ : Addr).add 0) .i64 fun x_15 =>
ldI h_14 ((⟨r_3, 0, none⟩ : Addr).add 1) .i64 fun x_16 =>
ldS h_14 ((⟨r_3, 0, none⟩ : Addr).add 2) fun x_17 x_17n x_17c =>
ldI h_14 ((⟨r_10, 0, none⟩ : Addr).add 0) .i64 fun x_18 =>
ldI h_14 ((⟨r_10, 0, none⟩ : Addr).add 1) .i64 fun x_19 =>
ldS h_14 ((⟨r_10, 0, none⟩ : Addr).add 2) fun x_20 x_20n x_20c =>
C F_refine_Encode #[.agg #[.int .i64 x_15, .int .i64 x_16, .slice x_17 x_17n x_17c], .agg #[.int .i64 x_18, .int .i64 x_19, .slice x_20 x_20n x_20c], .int .i64 0, .int .i64 0] h_14 (fun v_21 h_22 =>
∃ (r_23 : Option Addr) (r_23n : Nat) (r_23c : Nat), ∃ (r_24 : Int), v_21 = .tuple #[.slice r_23 r_23n r_23c, .int .i64 r_24] ∧ (
ldI h_22 ((⟨r_10, 0, none⟩ : Addr).add 0) .i64 fun x_25 =>
ldI h_22 ((⟨r_10, 0, none⟩ : Addr).add 1) .i64 fun x_26 =>
ldS h_22 ((⟨r_10, 0, none⟩ : Addr).add 2) fun x_27 x_27n x_27c =>
C F_refine_Decode #[.slice r_23 r_23n r_23c, .int .i64 3, .int .i64 1, .agg #[.int .i64 x_25, .int .i64 x_26, .slice x_27 x_27n x_27c], .int .i64 0, .int .i64 0] h_22 (fun v_28 h_29 =>
∃ (r_30 : Int) (r_31 : Int) (r_32 : Option Addr) (r_32n : Nat) (r_32c : Nat), ∃ (r_33 : Int), v_28 = .tuple #[.agg #[.int .i64 r_30, .int .i64 r_31, .slice r_32 r_32n r_32c], .int .i64 r_33] ∧ (
newC h_29 [.int .i64 0, .int .i64 0, .slice none 0 0] T_api_Bitmap fun r_34 h_35 =>
stV h_35 ((⟨r_34, 0, none⟩ : Addr).add 0) (.int .i64 r_30) fun h_36 =>
stV h_36 ((⟨r_34, 0, none⟩ : Addr).add 1) (.int .i64 r_31) fun h_37 =>
stV h_37 ((⟨r_34, 0, none⟩ : Addr).add 2) (.slice r_32 r_32n r_32c) fun h_38 =>
bcase (r_24 == (0 : Int)) (
bcase (r_33 == (0 : Int)) (
bcase (decide ((r_23n : Int) > (0 : Int))) (
ldI h_38 ((⟨r_3, 0, none⟩ : Addr).add 0) .i64 fun x_39 =>
ldI h_38 ((⟨r_3, 0, none⟩ : Addr).add 1) .i64 fun x_40 =>
ldS h_38 ((⟨r_3, 0, none⟩ : Addr).add 2) fun x_41 x_41n x_41c =>
ldI h_38 ((⟨r_34, 0, none⟩ : Addr).add 0) .i64 fun x_42 =>
ldI h_38 ((⟨r_34, 0, none⟩ : Addr).add 1) .i64 fun x_43 =>
ldS h_38 ((⟨r_34, 0, none⟩ : Addr).add 2) fun x_44 x_44n x_44c =>
C F_burinref0_EqBitmap #[.agg #[.int .i64 x_39, .int .i64 x_40, .slice x_41 x_41n x_41c], .agg #[.int .i64 x_42, .int .i64 x_43, .slice x_44 x_44n x_44c]] h_38 (fun v_45 h_46 =>
∃ (r_47 : Bool), v_45 = .bool r_47 ∧ (
K (.bool r_47) h_46)) (Kp)) <|
K (.bool false) h_38) <|
K (.bool false) h_38) <|
K (.bool false) h_38)) (Kp))) (Kp)

end Go.Den.Ytcicfilkdhhnmaa

/- Written by gen.py: each condition of the functions of law8x is the one of its body; so it is enough for its call. -/
set_option linter.unusedVariables false
set_option linter.unusedSimpArgs false
namespace Go.Den.Ytcicfilkdhhnmaa
open Go Go.Den

noncomputable def hints_burinlaw8_light : Hints := Hints.mk (fun i => none)
  (fun i => none)
  (fun i => none) []
set_option maxRecDepth 100000 in
theorem eq_burinlaw8_light (C : CallP) (b_1 : Int) (b_2 : Int) (b_3 : Option Addr) (b_3n : Nat) (b_3c : Nat) (h : Heap) (K : Value → Heap → Prop) (Kp : List PanicEntry → Heap → Prop) :
    fnD Go.Proofs.Try.prog C hints_burinlaw8_light Go.Proofs.Try.f25 [.agg #[.int .i64 b_1, .int .i64 b_2, .slice b_3 b_3n b_3c]] h K Kp = burinlaw8_light C b_1 b_2 b_3 b_3n b_3c h K Kp := by kernel_rfl

theorem call_burinlaw8_light {b_1 : Int} {b_2 : Int} {b_3 : Option Addr} {b_3n : Nat} {b_3c : Nat} {h : Heap} {K : Value → Heap → Prop} {Kp : List PanicEntry → Heap → Prop} (H : burinlaw8_light (CallsHP Go.Proofs.Try.prog) b_1 b_2 b_3 b_3n b_3c h K Kp) : CallsHP Go.Proofs.Try.prog F_burinlaw8_light #[.agg #[.int .i64 b_1, .int .i64 b_2, .slice b_3 b_3n b_3c]] h K Kp :=
  callsHP_of hints_burinlaw8_light (by kernel_rfl) Go.Proofs.Try.func25 (by kernel_rfl) (by rw [eq_burinlaw8_light]; exact H)

noncomputable def hints_burinlaw8_wakes : Hints := Hints.mk (fun i => none)
  (fun i => none)
  (fun i => none) []
set_option maxRecDepth 100000 in
theorem eq_burinlaw8_wakes (C : CallP)  (h : Heap) (K : Value → Heap → Prop) (Kp : List PanicEntry → Heap → Prop) :
    fnD Go.Proofs.Try.prog C hints_burinlaw8_wakes Go.Proofs.Try.f30 [] h K Kp = burinlaw8_wakes C  h K Kp := by kernel_rfl

theorem call_burinlaw8_wakes  {h : Heap} {K : Value → Heap → Prop} {Kp : List PanicEntry → Heap → Prop} (H : burinlaw8_wakes (CallsHP Go.Proofs.Try.prog)  h K Kp) : CallsHP Go.Proofs.Try.prog F_burinlaw8_wakes #[] h K Kp :=
  callsHP_of hints_burinlaw8_wakes (by kernel_rfl) Go.Proofs.Try.func30 (by kernel_rfl) (by rw [eq_burinlaw8_wakes]; exact H)

end Go.Den.Ytcicfilkdhhnmaa

/- RfN: burinlaw8.wakes. -/
set_option linter.unusedVariables false
set_option linter.unusedSimpArgs false
namespace Go.Bm
open Go Go.Den Go.Den.Ytcicfilkdhhnmaa
open Go.Ar (Cod Dec codN decN newC newD idx bytesM flushM)

theorem EncR.bytes {w b w2 b2 : Int} {ws ws2 : List Nat} {dx dy e : Int} {bs : List Nat} (h : EncR w b w2 b2 ws ws2 dx dy e bs) : (∀ x ∈ bs, x < 256) ∧ bs.length < 140737488351300 := by
  rcases h with ⟨_, _, rfl⟩ | ⟨_, _, _, rfl⟩ | ⟨_, _, _, G, s', _, hok, rfl⟩
  · exact ⟨(fun x hx => by cases hx), by decide⟩
  · exact ⟨(fun x hx => by cases hx), by decide⟩
  · refine ⟨Go.Ar.flushM_lt hok.wf, ?_⟩
    have h1 := Go.Ar.flushM_len s'
    have h2 := hok.wf.len
    have h3 := hok.wf.n
    omega
theorem wakes8_len : Nat.blt 0 (bytesM (flushM (codN (kf (getP [4611686018427387904] 3 1) (getP [6917529027641081856] 3 1) 3 8192 0 0 0) (bf (getP [4611686018427387904] 3 1) 3) 8192 3))).length = true := by kernel_rfl

set_option maxRecDepth 100000 in
theorem wakes8_ok {hB : Heap} {K : Value → Heap → Prop} {Kp : List PanicEntry → Heap → Prop} (hk : ∀ h', hext hB h' → K (.bool true) h') : CP F_burinlaw8_wakes #[] hB K Kp := by
  refine call_burinlaw8_wakes ?_
  unfold burinlaw8_wakes
  have H := Hp.nil hB []
  refine newC_hp H fun r1 h H => ?_
  refine newC_hp H fun r3 h H => ?_
  rw [add_mk, add_mk, add_mk]
  refine stV_hp H 1 rfl (Nat.le_of_ble_eq_true rfl) rfl fun h hs2 H => ?_
  refine stV_hp H 1 rfl (Nat.le_of_ble_eq_true rfl) rfl fun h hs2 H => ?_
  refine stV_hp H 1 rfl (Nat.le_of_ble_eq_true rfl) rfl fun h hs2 H => ?_
  refine newC_hp H fun r8 h H => ?_
  refine newC_hp H fun r10 h H => ?_
  rw [add_mk, add_mk, add_mk]
  refine stV_hp H 3 rfl (Nat.le_of_ble_eq_true rfl) rfl fun h hs2 H => ?_
  refine stV_hp H 3 rfl (Nat.le_of_ble_eq_true rfl) rfl fun h hs2 H => ?_
  refine stV_hp H 3 rfl (Nat.le_of_ble_eq_true rfl) rfl fun h hs2 H => ?_
  have H : Hp hB [] h [⟨r1, true, T_uint64, u64s [4611686018427387904] ++ []⟩, ⟨r3, true, T_api_Bitmap, [.int .i64 3, .int .i64 1, .slice (some ⟨r1, 0, none⟩) 1 1]⟩, ⟨r8, true, T_uint64, u64s [6917529027641081856] ++ []⟩, ⟨r10, true, T_api_Bitmap, [.int .i64 3, .int .i64 1, .slice (some ⟨r8, 0, none⟩) 1 1]⟩] := H
  refine ldI_of (Hp.cellA H 1 rfl (i := 0) rfl) ?_
  refine ldI_of (Hp.cellA H 1 rfl (i := 1) rfl) ?_
  refine ldS_of (Hp.cellA H 1 rfl (i := 2) rfl) ?_
  refine ldI_of (Hp.cellA H 3 rfl (i := 0) rfl) ?_
  refine ldI_of (Hp.cellA H 3 rfl (i := 1) rfl) ?_
  refine ldS_of (Hp.cellA H 3 rfl (i := 2) rfl) ?_
  refine rfEnc_ok (ws := [4611686018427387904]) (ws2 := [6917529027641081856]) (row_rdO H 0 rfl) (fun v hv => by simp at hv; rw [hv]; decide) (by decide) (row_rdO H 2 rfl) (fun v hv => by simp at hv; rw [hv]; decide) (by decide) fun e bs D qo c h' henc hsl H' => ?_
  replace H := H.join H' hsl.w
  clear H'
  refine ⟨_, _, _, _, rfl, ?_⟩
  refine ldI_of (Hp.cellA H 3 rfl (i := 0) rfl) ?_
  refine ldI_of (Hp.cellA H 3 rfl (i := 1) rfl) ?_
  refine ldS_of (Hp.cellA H 3 rfl (i := 2) rfl) ?_
  refine rfDec_ok (bytes := bs) henc.bytes.1 henc.bytes.2 (Slot.rdO' hsl H fun e he => List.mem_append_right _ he) (ws2 := [6917529027641081856]) (row_rdO H 2 rfl) (fun v hv => by simp at hv; rw [hv]; decide) (by decide) fun e' w' b' bs' s' D2 qo2 c2 h' hget hsl2 H' => ?_
  replace H := H.join H' hsl2.w
  clear H'
  have hm1 : MayP ((3 : Nat) : Int) ((1 : Nat) : Int) [4611686018427387904] := ⟨by unfold SizeP; omega, by decide, fun y hy => by simp at hy; subst hy; decide⟩
  have hm2 : MayP 3 1 [6917529027641081856] := ⟨by unfold SizeP; omega, by decide, fun y hy => by simp at hy; subst hy; decide⟩
  have hpos : 0 < bs.length := by
    rcases henc with ⟨a, _⟩ | ⟨_, a, _⟩ | ⟨_, _, _, Gz, sz, hrun, hok, rfl⟩
    · exact absurd ⟨hm1, hm2⟩ a
    · exact absurd ⟨⟨by omega, by omega⟩, by omega, by omega⟩ a
    · have hrun : runN 3 (getP [6917529027641081856] 3 1) 0 0 (stepP 8192 0) 3 (getP [4611686018427387904] 3 1, newC 8192) = .inl (Gz, sz) := hrun
      rw [enc_run] at hrun
      injection hrun with hrun
      injection hrun with _ hrun
      subst hrun
      exact Nat.le_of_ble_eq_true wakes8_len
  obtain ⟨rfl, rfl, rfl, rfl, rfl⟩ := rf_back (W := 3) (X := 1) hm1 (fun v hv => by simp at hv; rw [hv]; decide) hm2 ⟨⟨by omega, by omega⟩, by omega, by omega⟩ henc hget
  refine ⟨_, _, _, _, _, _, rfl, ?_⟩
  refine newC_hp H fun r34 h H => ?_
  have H := H.rot
  rw [add_mk, add_mk, add_mk]
  refine stV_hp H 0 rfl (Nat.le_of_ble_eq_true rfl) rfl fun h hs2 H => ?_
  refine stV_hp H 0 rfl (Nat.le_of_ble_eq_true rfl) rfl fun h hs2 H => ?_
  refine stV_hp H 0 rfl (Nat.le_of_ble_eq_true rfl) rfl fun h hs2 H => ?_
  have H : Hp hB [] h ([⟨r34, true, T_api_Bitmap, [.int .i64 3, .int .i64 1, .slice qo2 1 c2]⟩] ++ ([⟨r1, true, T_uint64, u64s [4611686018427387904] ++ []⟩, ⟨r3, true, T_api_Bitmap, [.int .i64 3, .int .i64 1, .slice (some ⟨r1, 0, none⟩) 1 1]⟩, ⟨r8, true, T_uint64, u64s [6917529027641081856] ++ []⟩, ⟨r10, true, T_api_Bitmap, [.int .i64 3, .int .i64 1, .slice (some ⟨r8, 0, none⟩) 1 1]⟩] ++ D ++ D2)) := H
  refine bcase_true (by rfl) ?_
  refine bcase_true (by rfl) ?_
  refine bcase_dec (fun h1 => ?_) fun h1 => absurd (by omega) h1
  refine ldI_of (Hp.cellA H 2 rfl (i := 0) rfl) ?_
  refine ldI_of (Hp.cellA H 2 rfl (i := 1) rfl) ?_
  refine ldS_of (Hp.cellA H 2 rfl (i := 2) rfl) ?_
  refine ldI_of (H.cell 0 rfl (i := 0) rfl) ?_
  refine ldI_of (H.cell 0 rfl (i := 1) rfl) ?_
  refine ldS_of (H.cell 0 rfl (i := 2) rfl) ?_
  refine eqB_ok (xs := [4611686018427387904]) (ys := [4611686018427387904]) (row_rdO H 1 rfl) (Slot.rdO' hsl2 H fun e he => List.mem_append_right _ (List.mem_append_right _ he)) (by decide) fun h' e => ?_
  refine ⟨_, rfl, ?_⟩
  have := hk h' (H.hext.trans e)
  simpa using this
end Go.Bm

/- RfO: burinlaw8.light. -/
set_option linter.unusedVariables false
set_option linter.unusedSimpArgs false
namespace Go.Bm
open Go Go.Den Go.Den.Ytcicfilkdhhnmaa

theorem light_ok {hB : Heap} {w b : Int} {q : Option Addr} {c : Nat} {ws : List Nat} (hr : rdO hB q (ws.length * 1) (u64s ws)) (hw : W64 ws) (hl : ws.length < 140737488351300) {K : Value → Heap → Prop} {Kp : List PanicEntry → Heap → Prop}
    (hk : ∀ (bb : Bool) h', (bb = true → ws.length ≤ 1000 ∧ (MayP w b ws → w * b ≤ 4000)) → hext hB h' → K (.bool bb) h') : CP F_burinlaw8_light #[.agg #[.int .i64 w, .int .i64 b, .slice q ws.length c]] hB K Kp := by
  refine call_burinlaw8_light ?_
  unfold burinlaw8_light
  have H := Hp.nil hB []
  refine newC_hp H fun r h H => ?_
  refine ldS_of (Hp.cellA H 0 rfl (i := 2) rfl) ?_
  refine bcase_dec (fun h1 => ?_) fun h1 => hk false _ (fun h => by cases h) H.hext
  refine ldI_of (Hp.cellA H 0 rfl (i := 0) rfl) ?_
  refine ldI_of (Hp.cellA H 0 rfl (i := 1) rfl) ?_
  refine ldS_of (Hp.cellA H 0 rfl (i := 2) rfl) ?_
  refine may_ok (H.rdO hr) hw hl fun bm h2 hbm e2 => ?_
  have H := H.ext e2
  refine ⟨_, rfl, ?_⟩
  refine bcase_not (fun h3 => ?_) fun h3 => ?_
  · exact hk true _ (fun _ => ⟨by omega, fun hm => by rw [hbm.2 hm] at h3; cases h3⟩) H.hext
  · have hm := hbm.1 h3
    obtain ⟨W, X, rfl, rfl, hW1, hW2, hX1, hX2, hWX⟩ := size_nat hm.1
    refine ldI_of (Hp.cellA H 0 rfl (i := 0) rfl) ?_
    refine ldI_of (Hp.cellA H 0 rfl (i := 1) rfl) ?_
    refine bindI_of (((W * X : Nat) : Int)) (by exact i64_at _ _ mul_cast (by omega) (by omega)) ?_
    exact hk _ _ (fun h => ⟨by omega, fun _ => by rw [mul_cast]; exact of_decide_eq_true h⟩) H.hext
end Go.Bm

/- Written by gen.py: the conditions of the functions of law8RefineTop. -/
set_option linter.unusedVariables false
set_option linter.unusedSimpArgs false
namespace Go.Den.Ytcicfilkdhhnmaa
open Go Go.Den

/- burin/burinlaw8.RefineTop -/
set_option maxRecDepth 100000 in
def burinlaw8_RefineTop (C : CallP) (a0_1 : Int) (a0_2 : Int) (a0_3 : Option Addr) (a0_3n : Nat) (a0_3c : Nat) (a0_4 : Int) (a0_5 : Int) (a0_6 : Option Addr) (a0_6n : Nat) (a0_6c : Nat) (a0_7 : Int) (a0_8 : Int) (h : Heap) (K : Value → Heap → Prop) (Kp : List PanicEntry → Heap → Prop) : Prop :=
newC h [.int .i64 a0_1, .int .i64 a0_2, .slice a0_3 a0_3n a0_3c, .int .i64 a0_4, .int .i64 a0_5, .slice a0_6 a0_6n a0_6c, .int .i64 a0_7, .int .i64 a0_8] T_burinlaw8_Ask fun r_9 h_10 =>
ldI h_10 (((⟨r_9, 0, none⟩ : Addr).add 0).add 0) .i64 fun x_11 =>
ldI h_10 (((⟨r_9, 0, none⟩ : Addr).add 0).add 1) .i64 fun x_12 =>
ldS h_10 (((⟨r_9, 0, none⟩ : Addr).add 0).add 2) fun x_13 x_13n x_13c =>
C F_burinref0_May #[.agg #[.int .i64 x_11, .int .i64 x_12, .slice x_13 x_13n x_13c]] h_10 (fun v_14 h_15 =>
∃ (r_16 : Bool), v_14 = .bool r_16 ∧ (
bcase (!r_16) (
C F_burinlaw8_wakes #[] h_15 (fun v_17 h_18 =>
∃ (r_19 : Bool), v_17 = .bool r_19 ∧ (
K (.bool r_19) h_18)) (Kp)) <|
ldI h_15 (((⟨r_9, 0, none⟩ : Addr).add 3).add 0) .i64 fun x_20 =>
ldI h_15 (((⟨r_9, 0, none⟩ : Addr).add 3).add 1) .i64 fun x_21 =>
ldS h_15 (((⟨r_9, 0, none⟩ : Addr).add 3).add 2) fun x_22 x_22n x_22c =>
C F_burinref0_May #[.agg #[.int .i64 x_20, .int .i64 x_21, .slice x_22 x_22n x_22c]] h_15 (fun v_23 h_24 =>
∃ (r_25 : Bool), v_23 = .bool r_25 ∧ (
bcase (!r_25) (
C F_burinlaw8_wakes #[] h_24 (fun v_26 h_27 =>
∃ (r_28 : Bool), v_26 = .bool r_28 ∧ (
K (.bool r_28) h_27)) (Kp)) <|
ldI h_24 (((⟨r_9, 0, none⟩ : Addr).add 0).add 0) .i64 fun x_29 =>
ldI h_24 (((⟨r_9, 0, none⟩ : Addr).add 0).add 1) .i64 fun x_30 =>
ldS h_24 (((⟨r_9, 0, none⟩ : Addr).add 0).add 2) fun x_31 x_31n x_31c =>
C F_burinlaw8_light #[.agg #[.int .i64 x_29, .int .i64 x_30, .slice x_31 x_31n x_31c]] h_24 (fun v_32 h_33 =>
∃ (r_34 : Bool), v_32 = .bool r_34 ∧ (
bcase (!r_34) (
C F_burinlaw8_wakes #[] h_33 (fun v_35 h_36 =>
∃ (r_37 : Bool), v_35 = .bool r_37 ∧ (
K (.bool r_37) h_36)) (Kp)) <|
ldI h_33 (((⟨r_9, 0, none⟩ : Addr).add 3).add 0) .i64 fun x_38 =>
ldI h_33 (((⟨r_9, 0, none⟩ : Addr).add 3).add 1) .i64 fun x_39 =>
ldS h_33 (((⟨r_9, 0, none⟩ : Addr).add 3).add 2) fun x_40 x_40n x_40c =>
C F_burinlaw8_light #[.agg #[.int .i64 x_38, .int .i64 x_39, .slice x_40 x_40n x_40c]] h_33 (fun v_41 h_42 =>
∃ (r_43 : Bool), v_41 = .bool r_43 ∧ (
bcase (!r_43) (
C F_burinlaw8_wakes #[] h_42 (fun v_44 h_45 =>
∃ (r_46 : Bool), v_44 = .bool r_46 ∧ (
K (.bool r_46) h_45)) (Kp)) <|
ldI h_42 (((⟨r_9, 0, none⟩ : Addr).add 0).add 0) .i64 fun x_47 =>
ldI h_42 (((⟨r_9, 0, none⟩ : Addr).add 0).add 1) .i64 fun x_48 =>
ldS h_42 (((⟨r_9, 0, none⟩ : Addr).add 0).add 2) fun x_49 x_49n x_49c =>
ldI h_42 (((⟨r_9, 0, none⟩ : Addr).add 3).add 0) .i64 fun x_50 =>
ldI h_42 (((⟨r_9, 0, none⟩ : Addr).add 3).add 1) .i64 fun x_51 =>
ldS h_42 (((⟨r_9, 0, none⟩ : Addr).add 3).add 2) fun x_52 x_52n x_52c =>
C F_refine_Encode #[.agg #[.int .i64 x_47, .int .i64 x_48, .slice x_49 x_49n x_49c], .agg #[.int .i64 x_50, .int .i64 x_51, .slice x_52 x_52n x_52c], .int .i64 0, .int .i64 0] h_42 (fun v_53 h_54 =>
∃ (r_55 : Option Addr) (r_55n : Nat) (r_55c : Nat), ∃ (r_56 : Int), v_53 = .tuple #[.slice r_55 r_55n r_55c, .int .i64 r_56] ∧ (
bcase (r_56 != (0 : Int)) (
K (.bool false) h_54) <|
∃ J_57 : Nat → List Value → Heap → Prop, (∃ n_59, J_57 n_59 [.int .i64 1] h_54) ∧ ∀ (n_59 : Nat) (h_60 : Heap) (u_61 : Nat → Value) (x_62 : Int), J_57 n_59 [.int .i64 x_62] h_60 → (
ldI h_60 (((⟨r_9, 0, none⟩ : Addr).add 0).add 1) .i64 fun x_63 =>
bcase (decide (x_62 ≤ x_63)) (
ldI h_60 (((⟨r_9, 0, none⟩ : Addr).add 0).add 0) .i64 fun x_64 =>
ldI h_60 (((⟨r_9, 0, none⟩ : Addr).add 3).add 0) .i64 fun x_65 =>
ldI h_60 (((⟨r_9, 0, none⟩ : Addr).add 3).add 1) .i64 fun x_66 =>
ldS h_60 (((⟨r_9, 0, none⟩ : Addr).add 3).add 2) fun x_67 x_67n x_67c =>
C F_refine_Decode #[.slice r_55 r_55n r_55c, .int .i64 x_64, .int .i64 x_62, .agg #[.int .i64 x_65, .int .i64 x_66, .slice x_67 x_67n x_67c], .int .i64 0, .int .i64 0] h_60 (fun v_68 h_69 =>
∃ (r_70 : Int) (r_71 : Int) (r_72 : Option Addr) (r_72n : Nat) (r_72c : Nat), ∃ (r_73 : Int), v_68 = .tuple #[.agg #[.int .i64 r_70, .int .i64 r_71, .slice r_72 r_72n r_72c], .int .i64 r_73] ∧ (
newC h_69 [.int .i64 0, .int .i64 0, .slice none 0 0] T_api_Bitmap fun r_74 h_75 =>
stV h_75 ((⟨r_74, 0, none⟩ : Addr).add 0) (.int .i64 r_70) fun h_76 =>
stV h_76 ((⟨r_74, 0, none⟩ : Addr).add 1) (.int .i64 r_71) fun h_77 =>
stV h_77 ((⟨r_74, 0, none⟩ : Addr).add 2) (.slice r_72 r_72n r_72c) fun h_78 =>
ldI h_78 (((⟨r_9, 0, none⟩ : Addr).add 0).add 0) .i64 fun x_79 =>
C F_burinref0_White #[.int .i64 x_79, .int .i64 x_62] h_78 (fun v_80 h_81 =>
∃ (r_82 : Int) (r_83 : Int) (r_84 : Option Addr) (r_84n : Nat) (r_84c : Nat), v_80 = .agg #[.int .i64 r_82, .int .i64 r_83, .slice r_84 r_84n r_84c] ∧ (
newC h_81 [.int .i64 0, .int .i64 0, .slice none 0 0] T_api_Bitmap fun r_85 h_86 =>
stV h_86 ((⟨r_85, 0, none⟩ : Addr).add 0) (.int .i64 r_82) fun h_87 =>
stV h_87 ((⟨r_85, 0, none⟩ : Addr).add 1) (.int .i64 r_83) fun h_88 =>
stV h_88 ((⟨r_85, 0, none⟩ : Addr).add 2) (.slice r_84 r_84n r_84c) fun h_89 =>
ldI h_89 ((⟨r_85, 0, none⟩ : Addr).add 0) .i64 fun x_90 =>
ldI h_89 ((⟨r_85, 0, none⟩ : Addr).add 1) .i64 fun x_91 =>
ldS h_89 ((⟨r_85, 0, none⟩ : Addr).add 2) fun x_92 x_92n x_92c =>
ldI h_89 (((⟨r_9, 0, none⟩ : Addr).add 0).add 0) .i64 fun x_93 =>
ldI h_89 (((⟨r_9, 0, none⟩ : Addr).add 0).add 1) .i64 fun x_94 =>
ldS h_89 (((⟨r_9, 0, none⟩ : Addr).add 0).add 2) fun x_95 x_95n x_95c =>
C F_burinref0_Lay #[.agg #[.int .i64 x_90, .int .i64 x_91, .slice x_92 x_92n x_92c], .int .i64 0, .int .i64 0, .int .i64 4, .agg #[.int .i64 x_93, .int .i64 x_94, .slice x_95 x_95n x_95c]] h_89 (fun v_96 h_97 =>
bcase (r_73 != (0 : Int)) (
K (.bool false) h_97) <|
ldI h_97 ((⟨r_74, 0, none⟩ : Addr).add 0) .i64 fun x_98 =>
ldI h_97 ((⟨r_74, 0, none⟩ : Addr).add 1) .i64 fun x_99 =>
ldS h_97 ((⟨r_74, 0, none⟩ : Addr).add 2) fun x_100 x_100n x_100c =>
ldI h_97 ((⟨r_85, 0, none⟩ : Addr).add 0) .i64 fun x_101 =>
ldI h_97 ((⟨r_85, 0, none⟩ : Addr).add 1) .i64 fun x_102 =>
ldS h_97 ((⟨r_85, 0, none⟩ : Addr).add 2) fun x_103 x_103n x_103c =>
C F_burinref0_EqBitmap #[.agg #[.int .i64 x_98, .int .i64 x_99, .slice x_100 x_100n x_100c], .agg #[.int .i64 x_101, .int .i64 x_102, .slice x_103 x_103n x_103c]] h_97 (fun v_104 h_105 =>
∃ (r_106 : Bool), v_104 = .bool r_106 ∧ (
bcase (!r_106) (
K (.bool false) h_105) <|
bindI (IntKind.i64.wrap (x_62 + (1 : Int))) fun z_107 =>
ldI h_105 (((⟨r_9, 0, none⟩ : Addr).add 0).add 1) .i64 fun x_108 =>
bindI (IntKind.i64.wrap (x_108.tdiv (5 : Int))) fun z_109 =>
bindI (IntKind.i64.wrap (z_107 + z_109)) fun z_110 =>
∃ m_58, m_58 < n_59 ∧ J_57 m_58 [.int .i64 z_110] h_105)) (Kp)) (Kp))) (Kp))) (Kp)) <|
C F_burinlaw8_wakes #[] h_60 (fun v_111 h_112 =>
∃ (r_113 : Bool), v_111 = .bool r_113 ∧ (
K (.bool r_113) h_112)) (Kp)))) (Kp))) (Kp))) (Kp))) (Kp))) (Kp)

end Go.Den.Ytcicfilkdhhnmaa

/- Written by gen.py: each condition of the functions of law8RefineTop is the one of its body; so it is enough for its call. -/
set_option linter.unusedVariables false
set_option linter.unusedSimpArgs false
namespace Go.Den.Ytcicfilkdhhnmaa
open Go Go.Den

noncomputable def hints_burinlaw8_RefineTop : Hints := Hints.mk (fun i => none)
  (fun i => bif Nat.beq i 7 then some ([(5, .int .i64)], 4835703278454118652314084) else (none))
  (fun i => none) []
set_option maxRecDepth 100000 in
theorem eq_burinlaw8_RefineTop (C : CallP) (a0_1 : Int) (a0_2 : Int) (a0_3 : Option Addr) (a0_3n : Nat) (a0_3c : Nat) (a0_4 : Int) (a0_5 : Int) (a0_6 : Option Addr) (a0_6n : Nat) (a0_6c : Nat) (a0_7 : Int) (a0_8 : Int) (h : Heap) (K : Value → Heap → Prop) (Kp : List PanicEntry → Heap → Prop) :
    fnD Go.Proofs.Try.prog C hints_burinlaw8_RefineTop Go.Proofs.Try.f10 [.agg #[.int .i64 a0_1, .int .i64 a0_2, .slice a0_3 a0_3n a0_3c, .int .i64 a0_4, .int .i64 a0_5, .slice a0_6 a0_6n a0_6c, .int .i64 a0_7, .int .i64 a0_8]] h K Kp = burinlaw8_RefineTop C a0_1 a0_2 a0_3 a0_3n a0_3c a0_4 a0_5 a0_6 a0_6n a0_6c a0_7 a0_8 h K Kp := by kernel_rfl

theorem call_burinlaw8_RefineTop {a0_1 : Int} {a0_2 : Int} {a0_3 : Option Addr} {a0_3n : Nat} {a0_3c : Nat} {a0_4 : Int} {a0_5 : Int} {a0_6 : Option Addr} {a0_6n : Nat} {a0_6c : Nat} {a0_7 : Int} {a0_8 : Int} {h : Heap} {K : Value → Heap → Prop} {Kp : List PanicEntry → Heap → Prop} (H : burinlaw8_RefineTop (CallsHP Go.Proofs.Try.prog) a0_1 a0_2 a0_3 a0_3n a0_3c a0_4 a0_5 a0_6 a0_6n a0_6c a0_7 a0_8 h K Kp) : CallsHP Go.Proofs.Try.prog F_burinlaw8_RefineTop #[.agg #[.int .i64 a0_1, .int .i64 a0_2, .slice a0_3 a0_3n a0_3c, .int .i64 a0_4, .int .i64 a0_5, .slice a0_6 a0_6n a0_6c, .int .i64 a0_7, .int .i64 a0_8]] h K Kp :=
  callsHP_of hints_burinlaw8_RefineTop (by kernel_rfl) Go.Proofs.Try.func10 (by kernel_rfl) (by rw [eq_burinlaw8_RefineTop]; exact H)

end Go.Den.Ytcicfilkdhhnmaa

/- RfU: the law RefineTop, said of memory. -/
set_option linter.unusedVariables false
set_option linter.unusedSimpArgs false
namespace Go.Bm
open Go Go.Den Go.Den.Ytcicfilkdhhnmaa
open Go.Ar (Dec idx newD newD_ok u8s)
set_option maxRecDepth 100000 in
set_option maxHeartbeats 4000000 in
theorem refTop_law {hB : Heap} {w b w2 b2 : Int} {q1 q2 : Option Addr} {c1 c2 : Nat} {ws ws2 : List Nat} {x y : Int} (hr1 : rdO hB q1 (ws.length * 1) (u64s ws)) (hw1 : W64 ws) (hl1 : ws.length < 140737488351300) (hr2 : rdO hB q2 (ws2.length * 1) (u64s ws2)) (hw2 : W64 ws2) (hl2 : ws2.length < 140737488351300)
    {K : Value → Heap → Prop} {Kp : List PanicEntry → Heap → Prop} (hk : ∀ h', hext hB h' → K (.bool true) h') :
    CP F_burinlaw8_RefineTop #[.agg #[.int .i64 w, .int .i64 b, .slice q1 ws.length c1, .int .i64 w2, .int .i64 b2, .slice q2 ws2.length c2, .int .i64 x, .int .i64 y]] hB K Kp := by
  refine call_burinlaw8_RefineTop ?_
  unfold burinlaw8_RefineTop
  have H := Hp.nil hB []
  refine newC_hp H fun r9 h H => ?_
  repeat first | with_reducible refine ldI_of (by with_unfolding_all first | exact hpA H 0 rfl rfl | exact Hp.cell H 0 rfl rfl | exact hpB H 0 rfl rfl | exact hpC H 0 rfl rfl) ?_ | with_reducible refine ldS_of (by with_unfolding_all first | exact hpA H 0 rfl rfl | exact Hp.cell H 0 rfl rfl | exact hpB H 0 rfl rfl | exact hpC H 0 rfl rfl) ?_ | with_reducible refine ldP_of (by with_unfolding_all first | exact hpA H 0 rfl rfl | exact Hp.cell H 0 rfl rfl | exact hpB H 0 rfl rfl | exact hpC H 0 rfl rfl) ?_ | with_reducible refine ldB_of (by with_unfolding_all first | exact hpA H 0 rfl rfl | exact Hp.cell H 0 rfl rfl | exact hpB H 0 rfl rfl | exact hpC H 0 rfl rfl) ?_ | with_reducible refine ldT_of (by with_unfolding_all first | exact hpA H 0 rfl rfl | exact Hp.cell H 0 rfl rfl | exact hpB H 0 rfl rfl | exact hpC H 0 rfl rfl) ?_
  refine may_ok (H.rdO hr1) hw1 hl1 fun bm0 h1 hbm0 e1 => ?_
  have H := H.ext e1
  clear e1
  refine ⟨_, rfl, ?_⟩
  refine bcase_not (fun h2 => wakes8_ok fun h' e => ⟨_, rfl, hk _ (H.hext.trans e)⟩) fun hc0 => ?_
  repeat first | with_reducible refine ldI_of (by with_unfolding_all first | exact hpA H 0 rfl rfl | exact Hp.cell H 0 rfl rfl | exact hpB H 0 rfl rfl | exact hpC H 0 rfl rfl) ?_ | with_reducible refine ldS_of (by with_unfolding_all first | exact hpA H 0 rfl rfl | exact Hp.cell H 0 rfl rfl | exact hpB H 0 rfl rfl | exact hpC H 0 rfl rfl) ?_ | with_reducible refine ldP_of (by with_unfolding_all first | exact hpA H 0 rfl rfl | exact Hp.cell H 0 rfl rfl | exact hpB H 0 rfl rfl | exact hpC H 0 rfl rfl) ?_ | with_reducible refine ldB_of (by with_unfolding_all first | exact hpA H 0 rfl rfl | exact Hp.cell H 0 rfl rfl | exact hpB H 0 rfl rfl | exact hpC H 0 rfl rfl) ?_ | with_reducible refine ldT_of (by with_unfolding_all first | exact hpA H 0 rfl rfl | exact Hp.cell H 0 rfl rfl | exact hpB H 0 rfl rfl | exact hpC H 0 rfl rfl) ?_
  refine may_ok (H.rdO hr2) hw2 hl2 fun bm1 h1 hbm1 e1 => ?_
  have H := H.ext e1
  clear e1
  refine ⟨_, rfl, ?_⟩
  refine bcase_not (fun h2 => wakes8_ok fun h' e => ⟨_, rfl, hk _ (H.hext.trans e)⟩) fun hc1 => ?_
  repeat first | with_reducible refine ldI_of (by with_unfolding_all first | exact hpA H 0 rfl rfl | exact Hp.cell H 0 rfl rfl | exact hpB H 0 rfl rfl | exact hpC H 0 rfl rfl) ?_ | with_reducible refine ldS_of (by with_unfolding_all first | exact hpA H 0 rfl rfl | exact Hp.cell H 0 rfl rfl | exact hpB H 0 rfl rfl | exact hpC H 0 rfl rfl) ?_ | with_reducible refine ldP_of (by with_unfolding_all first | exact hpA H 0 rfl rfl | exact Hp.cell H 0 rfl rfl | exact hpB H 0 rfl rfl | exact hpC H 0 rfl rfl) ?_ | with_reducible refine ldB_of (by with_unfolding_all first | exact hpA H 0 rfl rfl | exact Hp.cell H 0 rfl rfl | exact hpB H 0 rfl rfl | exact hpC H 0 rfl rfl) ?_ | with_reducible refine ldT_of (by with_unfolding_all first | exact hpA H 0 rfl rfl | exact Hp.cell H 0 rfl rfl | exact hpB H 0 rfl rfl | exact hpC H 0 rfl rfl) ?_
  refine light_ok (H.rdO hr1) hw1 hl1 fun bm2 h1 hbm2 e1 => ?_
  have H := H.ext e1
  clear e1
  refine ⟨_, rfl, ?_⟩
  refine bcase_not (fun h2 => wakes8_ok fun h' e => ⟨_, rfl, hk _ (H.hext.trans e)⟩) fun hc2 => ?_
  repeat first | with_reducible refine ldI_of (by with_unfolding_all first | exact hpA H 0 rfl rfl | exact Hp.cell H 0 rfl rfl | exact hpB H 0 rfl rfl | exact hpC H 0 rfl rfl) ?_ | with_reducible refine ldS_of (by with_unfolding_all first | exact hpA H 0 rfl rfl | exact Hp.cell H 0 rfl rfl | exact hpB H 0 rfl rfl | exact hpC H 0 rfl rfl) ?_ | with_reducible refine ldP_of (by with_unfolding_all first | exact hpA H 0 rfl rfl | exact Hp.cell H 0 rfl rfl | exact hpB H 0 rfl rfl | exact hpC H 0 rfl rfl) ?_ | with_reducible refine ldB_of (by with_unfolding_all first | exact hpA H 0 rfl rfl | exact Hp.cell H 0 rfl rfl | exact hpB H 0 rfl rfl | exact hpC H 0 rfl rfl) ?_ | with_reducible refine ldT_of (by with_unfolding_all first | exact hpA H 0 rfl rfl | exact Hp.cell H 0 rfl rfl | exact hpB H 0 rfl rfl | exact hpC H 0 rfl rfl) ?_
  refine light_ok (H.rdO hr2) hw2 hl2 fun bm3 h1 hbm3 e1 => ?_
  have H := H.ext e1
  clear e1
  refine ⟨_, rfl, ?_⟩
  refine bcase_not (fun h2 => wakes8_ok fun h' e => ⟨_, rfl, hk _ (H.hext.trans e)⟩) fun hc3 => ?_
  have hm1 := hbm0.1 hc0
  have hm2 := hbm1.1 hc1
  have hg1 := hbm2 hc2
  have hg2 := hbm3 hc3
  obtain ⟨W, X, rfl, rfl, hW1, hW2, hX1, hX2, hWX⟩ := size_nat hm1.1
  obtain ⟨W2, X2, rfl, rfl, hV1, hV2, hY1, hY2, hVY⟩ := size_nat hm2.1
  have hs0 : ShiftP 0 0 := ⟨⟨by omega, by omega⟩, by omega, by omega⟩
  repeat first | with_reducible refine ldI_of (by with_unfolding_all first | exact hpA H 0 rfl rfl | exact Hp.cell H 0 rfl rfl | exact hpB H 0 rfl rfl | exact hpC H 0 rfl rfl) ?_ | with_reducible refine ldS_of (by with_unfolding_all first | exact hpA H 0 rfl rfl | exact Hp.cell H 0 rfl rfl | exact hpB H 0 rfl rfl | exact hpC H 0 rfl rfl) ?_ | with_reducible refine ldP_of (by with_unfolding_all first | exact hpA H 0 rfl rfl | exact Hp.cell H 0 rfl rfl | exact hpB H 0 rfl rfl | exact hpC H 0 rfl rfl) ?_ | with_reducible refine ldB_of (by with_unfolding_all first | exact hpA H 0 rfl rfl | exact Hp.cell H 0 rfl rfl | exact hpB H 0 rfl rfl | exact hpC H 0 rfl rfl) ?_ | with_reducible refine ldT_of (by with_unfolding_all first | exact hpA H 0 rfl rfl | exact Hp.cell H 0 rfl rfl | exact hpB H 0 rfl rfl | exact hpC H 0 rfl rfl) ?_
  refine rfEnc_ok (H.rdO hr1) hw1 hl1 (H.rdO hr2) hw2 hl2 fun e bs D qo c h' henc hsl H' => ?_
  replace H := H.join H' hsl.w
  clear H'
  refine ⟨_, _, _, _, rfl, ?_⟩
  obtain rfl := henc.ok hm1 hm2 hs0
  refine bcase_false (by rfl) ?_
  refine ⟨fun n vs h' => ∃ i : Nat, 1 ≤ i ∧ i ≤ 2 * X + 2 ∧ i + n = 2 * X + 2 ∧ vs = [.int .i64 (i : Int)] ∧ Hp hB [] h' ([⟨r9, true, T_burinlaw8_Ask, [.int .i64 (W : Nat), .int .i64 (X : Nat), .slice q1 ws.length c1, .int .i64 (W2 : Nat), .int .i64 (X2 : Nat), .slice q2 ws2.length c2, .int .i64 x, .int .i64 y]⟩] ++ D), ⟨2 * X + 1, 1, by omega, by omega, by omega, rfl, H⟩, ?_⟩
  clear H
  rintro n h u xx ⟨i, hi1, hi2, hin, hxx, H⟩
  injection hxx with hxx
  injection hxx with _ hxx
  subst hxx
  repeat first | with_reducible refine ldI_of (by with_unfolding_all first | exact hpA H 0 rfl rfl | exact Hp.cell H 0 rfl rfl | exact hpB H 0 rfl rfl | exact hpC H 0 rfl rfl) ?_ | with_reducible refine ldS_of (by with_unfolding_all first | exact hpA H 0 rfl rfl | exact Hp.cell H 0 rfl rfl | exact hpB H 0 rfl rfl | exact hpC H 0 rfl rfl) ?_ | with_reducible refine ldP_of (by with_unfolding_all first | exact hpA H 0 rfl rfl | exact Hp.cell H 0 rfl rfl | exact hpB H 0 rfl rfl | exact hpC H 0 rfl rfl) ?_ | with_reducible refine ldB_of (by with_unfolding_all first | exact hpA H 0 rfl rfl | exact Hp.cell H 0 rfl rfl | exact hpB H 0 rfl rfl | exact hpC H 0 rfl rfl) ?_ | with_reducible refine ldT_of (by with_unfolding_all first | exact hpA H 0 rfl rfl | exact Hp.cell H 0 rfl rfl | exact hpB H 0 rfl rfl | exact hpC H 0 rfl rfl) ?_
  refine bcase_dec (fun h1 => ?_) fun h1 => wakes8_ok fun h' e => ⟨_, rfl, hk _ (H.hext.trans e)⟩
  have hiX : i ≤ X := by omega
  repeat first | with_reducible refine ldI_of (by with_unfolding_all first | exact hpA H 0 rfl rfl | exact Hp.cell H 0 rfl rfl | exact hpB H 0 rfl rfl | exact hpC H 0 rfl rfl) ?_ | with_reducible refine ldS_of (by with_unfolding_all first | exact hpA H 0 rfl rfl | exact Hp.cell H 0 rfl rfl | exact hpB H 0 rfl rfl | exact hpC H 0 rfl rfl) ?_ | with_reducible refine ldP_of (by with_unfolding_all first | exact hpA H 0 rfl rfl | exact Hp.cell H 0 rfl rfl | exact hpB H 0 rfl rfl | exact hpC H 0 rfl rfl) ?_ | with_reducible refine ldB_of (by with_unfolding_all first | exact hpA H 0 rfl rfl | exact Hp.cell H 0 rfl rfl | exact hpB H 0 rfl rfl | exact hpC H 0 rfl rfl) ?_ | with_reducible refine ldT_of (by with_unfolding_all first | exact hpA H 0 rfl rfl | exact Hp.cell H 0 rfl rfl | exact hpB H 0 rfl rfl | exact hpC H 0 rfl rfl) ?_
  refine rfDec_ok (bytes := bs) henc.bytes.1 henc.bytes.2 (Slot.rdO' hsl H fun e he => List.mem_append_right _ he) (H.rdO hr2) hw2 hl2 fun e' w' b' bs' s' D2 qo2 c3 h' hget hsl2 H' => ?_
  replace H := H.join H' hsl2.w
  clear H'
  refine ⟨_, _, _, _, _, _, rfl, ?_⟩
  obtain ⟨rfl, rfl, rfl, g1, g2, g3, g4⟩ := rf_top hiX hi1 hm1 hm2 hs0 henc hget
  refine newC_hp H fun r74 h H => ?_
  have H := H.rot
  repeat first | with_reducible refine stA H 0 (by with_unfolding_all exact rfl) (by with_unfolding_all exact rfl) (by with_unfolding_all exact rfl) fun h H => ?_ | with_reducible refine st0 H 0 (by with_unfolding_all exact rfl) (by with_unfolding_all exact rfl) (by with_unfolding_all exact rfl) fun h H => ?_ | with_reducible refine stB H 0 (by with_unfolding_all exact rfl) (by with_unfolding_all exact rfl) (by with_unfolding_all exact rfl) fun h H => ?_
  repeat first | with_reducible refine ldI_of (by with_unfolding_all first | exact hpA H 0 rfl rfl | exact hpA H 1 rfl rfl | exact Hp.cell H 0 rfl rfl | exact Hp.cell H 1 rfl rfl | exact hpB H 0 rfl rfl | exact hpB H 1 rfl rfl | exact hpC H 0 rfl rfl | exact hpC H 1 rfl rfl) ?_ | with_reducible refine ldS_of (by with_unfolding_all first | exact hpA H 0 rfl rfl | exact hpA H 1 rfl rfl | exact Hp.cell H 0 rfl rfl | exact Hp.cell H 1 rfl rfl | exact hpB H 0 rfl rfl | exact hpB H 1 rfl rfl | exact hpC H 0 rfl rfl | exact hpC H 1 rfl rfl) ?_ | with_reducible refine ldP_of (by with_unfolding_all first | exact hpA H 0 rfl rfl | exact hpA H 1 rfl rfl | exact Hp.cell H 0 rfl rfl | exact Hp.cell H 1 rfl rfl | exact hpB H 0 rfl rfl | exact hpB H 1 rfl rfl | exact hpC H 0 rfl rfl | exact hpC H 1 rfl rfl) ?_ | with_reducible refine ldB_of (by with_unfolding_all first | exact hpA H 0 rfl rfl | exact hpA H 1 rfl rfl | exact Hp.cell H 0 rfl rfl | exact Hp.cell H 1 rfl rfl | exact hpB H 0 rfl rfl | exact hpB H 1 rfl rfl | exact hpC H 0 rfl rfl | exact hpC H 1 rfl rfl) ?_ | with_reducible refine ldT_of (by with_unfolding_all first | exact hpA H 0 rfl rfl | exact hpA H 1 rfl rfl | exact Hp.cell H 0 rfl rfl | exact Hp.cell H 1 rfl rfl | exact hpB H 0 rfl rfl | exact hpB H 1 rfl rfl | exact hpC H 0 rfl rfl | exact hpC H 1 rfl rfl) ?_
  have hWi : W * i ≤ W * X := Nat.mul_le_mul_left _ hiX
  have hsi : SizeP (W : Int) (i : Int) := by
    refine ⟨by omega, by omega, by omega, by omega, ?_⟩
    rw [mul_cast]
    omega
  refine white_ok hsi fun q h' H' => ?_
  replace H := (H.join H' rfl).rot
  clear H'
  refine ⟨_, _, _, _, _, rfl, ?_⟩
  refine newC_hp H fun r85 h H => ?_
  have H := H.rot
  repeat first | with_reducible refine stA H 0 (by with_unfolding_all exact rfl) (by with_unfolding_all exact rfl) (by with_unfolding_all exact rfl) fun h H => ?_ | with_reducible refine st0 H 0 (by with_unfolding_all exact rfl) (by with_unfolding_all exact rfl) (by with_unfolding_all exact rfl) fun h H => ?_ | with_reducible refine stB H 0 (by with_unfolding_all exact rfl) (by with_unfolding_all exact rfl) (by with_unfolding_all exact rfl) fun h H => ?_
  have H : Hp hB [] h (([⟨r85, true, T_api_Bitmap, [.int .i64 (W : Nat), .int .i64 (i : Nat), .slice (at0 q) (i * wds W) (i * wds W)]⟩, ⟨q, true, T_uint64, u64s (List.replicate (i * wds W) 0) ++ []⟩, ⟨r74, true, T_api_Bitmap, [.int .i64 (W : Nat), .int .i64 (i : Nat), .slice qo2 bs'.length c3]⟩, ⟨r9, true, T_burinlaw8_Ask, [.int .i64 (W : Nat), .int .i64 (X : Nat), .slice q1 ws.length c1, .int .i64 (W2 : Nat), .int .i64 (X2 : Nat), .slice q2 ws2.length c2, .int .i64 x, .int .i64 y]⟩] ++ D) ++ D2) := H.as (by simp)
  repeat first | with_reducible refine ldI_of (by with_unfolding_all first | exact hpA H 0 rfl rfl | exact hpA H 1 rfl rfl | exact hpA H 2 rfl rfl | exact hpA H 3 rfl rfl | exact Hp.cell H 0 rfl rfl | exact Hp.cell H 1 rfl rfl | exact Hp.cell H 2 rfl rfl | exact Hp.cell H 3 rfl rfl | exact hpB H 0 rfl rfl | exact hpB H 1 rfl rfl | exact hpB H 2 rfl rfl | exact hpB H 3 rfl rfl | exact hpC H 0 rfl rfl | exact hpC H 1 rfl rfl | exact hpC H 2 rfl rfl | exact hpC H 3 rfl rfl) ?_ | with_reducible refine ldS_of (by with_unfolding_all first | exact hpA H 0 rfl rfl | exact hpA H 1 rfl rfl | exact hpA H 2 rfl rfl | exact hpA H 3 rfl rfl | exact Hp.cell H 0 rfl rfl | exact Hp.cell H 1 rfl rfl | exact Hp.cell H 2 rfl rfl | exact Hp.cell H 3 rfl rfl | exact hpB H 0 rfl rfl | exact hpB H 1 rfl rfl | exact hpB H 2 rfl rfl | exact hpB H 3 rfl rfl | exact hpC H 0 rfl rfl | exact hpC H 1 rfl rfl | exact hpC H 2 rfl rfl | exact hpC H 3 rfl rfl) ?_ | with_reducible refine ldP_of (by with_unfolding_all first | exact hpA H 0 rfl rfl | exact hpA H 1 rfl rfl | exact hpA H 2 rfl rfl | exact hpA H 3 rfl rfl | exact Hp.cell H 0 rfl rfl | exact Hp.cell H 1 rfl rfl | exact Hp.cell H 2 rfl rfl | exact Hp.cell H 3 rfl rfl | exact hpB H 0 rfl rfl | exact hpB H 1 rfl rfl | exact hpB H 2 rfl rfl | exact hpB H 3 rfl rfl | exact hpC H 0 rfl rfl | exact hpC H 1 rfl rfl | exact hpC H 2 rfl rfl | exact hpC H 3 rfl rfl) ?_ | with_reducible refine ldB_of (by with_unfolding_all first | exact hpA H 0 rfl rfl | exact hpA H 1 rfl rfl | exact hpA H 2 rfl rfl | exact hpA H 3 rfl rfl | exact Hp.cell H 0 rfl rfl | exact Hp.cell H 1 rfl rfl | exact Hp.cell H 2 rfl rfl | exact Hp.cell H 3 rfl rfl | exact hpB H 0 rfl rfl | exact hpB H 1 rfl rfl | exact hpB H 2 rfl rfl | exact hpB H 3 rfl rfl | exact hpC H 0 rfl rfl | exact hpC H 1 rfl rfl | exact hpC H 2 rfl rfl | exact hpC H 3 rfl rfl) ?_ | with_reducible refine ldT_of (by with_unfolding_all first | exact hpA H 0 rfl rfl | exact hpA H 1 rfl rfl | exact hpA H 2 rfl rfl | exact hpA H 3 rfl rfl | exact Hp.cell H 0 rfl rfl | exact Hp.cell H 1 rfl rfl | exact Hp.cell H 2 rfl rfl | exact Hp.cell H 3 rfl rfl | exact hpB H 0 rfl rfl | exact hpB H 1 rfl rfl | exact hpB H 2 rfl rfl | exact hpB H 3 rfl rfl | exact hpC H 0 rfl rfl | exact hpC H 1 rfl rfl | exact hpC H 2 rfl rfl | exact hpC H 3 rfl rfl) ?_
  have hZw : W64 (List.replicate (i * wds W) 0) := W64.zero _
  have hZp : ∀ x y, pix (List.replicate (i * wds W) 0) (wds W) x y = false := fun x y => pix_zero _ _ _ _
  have hrl : (List.replicate (i * wds W) 0).length = i * wds W := List.length_replicate
  generalize List.replicate (i * wds W) 0 = Z at H hZw hZp hrl
  rw [← hrl] at H ⊢
  refine part_ok (ws := Z) (rest := []) (X := X) (j := 0) (op := 4) (ws2 := ws) H 1 rfl hsi hrl hZw hZp (fun h' R H' => H'.rdO hr1) hm1 hw1 (by omega) (.inr rfl) fun R h' k1 k2 k3 k4 H => ?_
  refine bcase_false (by rfl) ?_
  rw [hrl] at H
  have H : Hp hB [] h' (([⟨r85, true, T_api_Bitmap, [.int .i64 (W : Nat), .int .i64 (i : Nat), .slice (at0 q) (i * wds W) (i * wds W)]⟩, ⟨q, true, T_uint64, u64s R ++ []⟩, ⟨r74, true, T_api_Bitmap, [.int .i64 (W : Nat), .int .i64 (i : Nat), .slice qo2 bs'.length c3]⟩, ⟨r9, true, T_burinlaw8_Ask, [.int .i64 (W : Nat), .int .i64 (X : Nat), .slice q1 ws.length c1, .int .i64 (W2 : Nat), .int .i64 (X2 : Nat), .slice q2 ws2.length c2, .int .i64 x, .int .i64 y]⟩] ++ D) ++ D2) := H
  have hRb : bs' = R := by
    refine getP_ext g1 k1 g2 k2 g3 (fun y hy x h1 h2 => pix_of_may k3 hy h1 h2) ?_
    rw [g4]
    funext x y
    unfold getP
    by_cases hh : 0 ≤ x ∧ 0 ≤ y ∧ x < W ∧ y < i
    · rw [decide_eq_true hh, decide_eq_true (show y < i by omega), decide_eq_true (show 0 ≤ x ∧ 0 ≤ y ∧ x < W ∧ y < X by omega)]
      have hx64 : x.toNat < 64 * wds W := by unfold wds; omega
      rw [k4 y.toNat (by omega) x.toNat hx64]
      rfl
    · rw [decide_eq_false hh, Bool.false_and]
      by_cases h5 : y < i
      · rw [decide_eq_false (show ¬ (0 ≤ x ∧ 0 ≤ y ∧ x < W ∧ y < X) by omega)]
        simp
      · rw [decide_eq_false h5, Bool.false_and]
  repeat first | with_reducible refine ldI_of (by with_unfolding_all first | exact hpA H 0 rfl rfl | exact hpA H 1 rfl rfl | exact hpA H 2 rfl rfl | exact hpA H 3 rfl rfl | exact Hp.cell H 0 rfl rfl | exact Hp.cell H 1 rfl rfl | exact Hp.cell H 2 rfl rfl | exact Hp.cell H 3 rfl rfl | exact hpB H 0 rfl rfl | exact hpB H 1 rfl rfl | exact hpB H 2 rfl rfl | exact hpB H 3 rfl rfl | exact hpC H 0 rfl rfl | exact hpC H 1 rfl rfl | exact hpC H 2 rfl rfl | exact hpC H 3 rfl rfl) ?_ | with_reducible refine ldS_of (by with_unfolding_all first | exact hpA H 0 rfl rfl | exact hpA H 1 rfl rfl | exact hpA H 2 rfl rfl | exact hpA H 3 rfl rfl | exact Hp.cell H 0 rfl rfl | exact Hp.cell H 1 rfl rfl | exact Hp.cell H 2 rfl rfl | exact Hp.cell H 3 rfl rfl | exact hpB H 0 rfl rfl | exact hpB H 1 rfl rfl | exact hpB H 2 rfl rfl | exact hpB H 3 rfl rfl | exact hpC H 0 rfl rfl | exact hpC H 1 rfl rfl | exact hpC H 2 rfl rfl | exact hpC H 3 rfl rfl) ?_ | with_reducible refine ldP_of (by with_unfolding_all first | exact hpA H 0 rfl rfl | exact hpA H 1 rfl rfl | exact hpA H 2 rfl rfl | exact hpA H 3 rfl rfl | exact Hp.cell H 0 rfl rfl | exact Hp.cell H 1 rfl rfl | exact Hp.cell H 2 rfl rfl | exact Hp.cell H 3 rfl rfl | exact hpB H 0 rfl rfl | exact hpB H 1 rfl rfl | exact hpB H 2 rfl rfl | exact hpB H 3 rfl rfl | exact hpC H 0 rfl rfl | exact hpC H 1 rfl rfl | exact hpC H 2 rfl rfl | exact hpC H 3 rfl rfl) ?_ | with_reducible refine ldB_of (by with_unfolding_all first | exact hpA H 0 rfl rfl | exact hpA H 1 rfl rfl | exact hpA H 2 rfl rfl | exact hpA H 3 rfl rfl | exact Hp.cell H 0 rfl rfl | exact Hp.cell H 1 rfl rfl | exact Hp.cell H 2 rfl rfl | exact Hp.cell H 3 rfl rfl | exact hpB H 0 rfl rfl | exact hpB H 1 rfl rfl | exact hpB H 2 rfl rfl | exact hpB H 3 rfl rfl | exact hpC H 0 rfl rfl | exact hpC H 1 rfl rfl | exact hpC H 2 rfl rfl | exact hpC H 3 rfl rfl) ?_ | with_reducible refine ldT_of (by with_unfolding_all first | exact hpA H 0 rfl rfl | exact hpA H 1 rfl rfl | exact hpA H 2 rfl rfl | exact hpA H 3 rfl rfl | exact Hp.cell H 0 rfl rfl | exact Hp.cell H 1 rfl rfl | exact Hp.cell H 2 rfl rfl | exact Hp.cell H 3 rfl rfl | exact hpB H 0 rfl rfl | exact hpB H 1 rfl rfl | exact hpB H 2 rfl rfl | exact hpB H 3 rfl rfl | exact hpC H 0 rfl rfl | exact hpC H 1 rfl rfl | exact hpC H 2 rfl rfl | exact hpC H 3 rfl rfl) ?_
  rw [← k1] at H ⊢
  refine eqB_ok (xs := bs') (ys := R) (Slot.rdO' hsl2 H fun e he => List.mem_append_right _ he) (row_rdO H 1 rfl) (by rw [g1, ← k1, k1]; exact Nat.lt_of_le_of_lt (hw_le hW1 (by omega : W * i ≤ 1048576)) (by decide)) fun h' e => ?_
  have H := H.ext e
  refine ⟨_, rfl, ?_⟩
  refine bcase_false (by rw [hRb]; simp) ?_
  refine bindI_of (((i + 1 : Nat) : Int)) (by exact i64_at _ _ (by omega) (by omega) (by omega)) ?_
  repeat first | with_reducible refine ldI_of (by with_unfolding_all first | exact hpA H 0 rfl rfl | exact hpA H 1 rfl rfl | exact hpA H 2 rfl rfl | exact hpA H 3 rfl rfl | exact Hp.cell H 0 rfl rfl | exact Hp.cell H 1 rfl rfl | exact Hp.cell H 2 rfl rfl | exact Hp.cell H 3 rfl rfl | exact hpB H 0 rfl rfl | exact hpB H 1 rfl rfl | exact hpB H 2 rfl rfl | exact hpB H 3 rfl rfl | exact hpC H 0 rfl rfl | exact hpC H 1 rfl rfl | exact hpC H 2 rfl rfl | exact hpC H 3 rfl rfl) ?_ | with_reducible refine ldS_of (by with_unfolding_all first | exact hpA H 0 rfl rfl | exact hpA H 1 rfl rfl | exact hpA H 2 rfl rfl | exact hpA H 3 rfl rfl | exact Hp.cell H 0 rfl rfl | exact Hp.cell H 1 rfl rfl | exact Hp.cell H 2 rfl rfl | exact Hp.cell H 3 rfl rfl | exact hpB H 0 rfl rfl | exact hpB H 1 rfl rfl | exact hpB H 2 rfl rfl | exact hpB H 3 rfl rfl | exact hpC H 0 rfl rfl | exact hpC H 1 rfl rfl | exact hpC H 2 rfl rfl | exact hpC H 3 rfl rfl) ?_ | with_reducible refine ldP_of (by with_unfolding_all first | exact hpA H 0 rfl rfl | exact hpA H 1 rfl rfl | exact hpA H 2 rfl rfl | exact hpA H 3 rfl rfl | exact Hp.cell H 0 rfl rfl | exact Hp.cell H 1 rfl rfl | exact Hp.cell H 2 rfl rfl | exact Hp.cell H 3 rfl rfl | exact hpB H 0 rfl rfl | exact hpB H 1 rfl rfl | exact hpB H 2 rfl rfl | exact hpB H 3 rfl rfl | exact hpC H 0 rfl rfl | exact hpC H 1 rfl rfl | exact hpC H 2 rfl rfl | exact hpC H 3 rfl rfl) ?_ | with_reducible refine ldB_of (by with_unfolding_all first | exact hpA H 0 rfl rfl | exact hpA H 1 rfl rfl | exact hpA H 2 rfl rfl | exact hpA H 3 rfl rfl | exact Hp.cell H 0 rfl rfl | exact Hp.cell H 1 rfl rfl | exact Hp.cell H 2 rfl rfl | exact Hp.cell H 3 rfl rfl | exact hpB H 0 rfl rfl | exact hpB H 1 rfl rfl | exact hpB H 2 rfl rfl | exact hpB H 3 rfl rfl | exact hpC H 0 rfl rfl | exact hpC H 1 rfl rfl | exact hpC H 2 rfl rfl | exact hpC H 3 rfl rfl) ?_ | with_reducible refine ldT_of (by with_unfolding_all first | exact hpA H 0 rfl rfl | exact hpA H 1 rfl rfl | exact hpA H 2 rfl rfl | exact hpA H 3 rfl rfl | exact Hp.cell H 0 rfl rfl | exact Hp.cell H 1 rfl rfl | exact Hp.cell H 2 rfl rfl | exact Hp.cell H 3 rfl rfl | exact hpB H 0 rfl rfl | exact hpB H 1 rfl rfl | exact hpB H 2 rfl rfl | exact hpB H 3 rfl rfl | exact hpC H 0 rfl rfl | exact hpC H 1 rfl rfl | exact hpC H 2 rfl rfl | exact hpC H 3 rfl rfl) ?_
  refine bindI_of (((X / 5 : Nat) : Int)) (by exact i64_at _ _ (tdiv_nat X 5) (by omega) (by omega)) ?_
  refine bindI_of (((i + 1 + X / 5 : Nat) : Int)) (by exact i64_at _ _ (by omega) (by omega) (by omega)) ?_
  refine ⟨n - (1 + X / 5), by omega, i + 1 + X / 5, by omega, by omega, by omega, rfl, ?_⟩
  exact (Hp.pre (Y := D2) H).sub (List.Sublist.append (by simp) (List.Sublist.refl D))
end Go.Bm

/- Written by gen.py: the conditions of the functions of law8RefineEncodes. -/
set_option linter.unusedVariables false
set_option linter.unusedSimpArgs false
namespace Go.Den.Ytcicfilkdhhnmaa
open Go Go.Den

/- burin/burinlaw8.RefineEncodes -/
set_option maxRecDepth 100000 in
def burinlaw8_RefineEncodes (C : CallP) (a0 : Option Addr) (a0n : Nat) (a0c : Nat) (h : Heap) (K : Value → Heap → Prop) (Kp : List PanicEntry → Heap → Prop) : Prop :=
∃ J_1 : Nat → List Value → Heap → Prop, (∃ n_3, J_1 n_3 [.int .i64 0] h) ∧ ∀ (n_3 : Nat) (h_4 : Heap) (u_5 : Nat → Value) (x_6 : Int), J_1 n_3 [.int .i64 x_6] h_4 → (
bcase (decide (x_6 < (a0n : Int))) (
bcase (decide (x_6 < (6 : Int))) (
needs (0 ≤ x_6 ∧ x_6 < (a0n : Int)) <|
ptr a0 fun a_7 =>
ldI h_4 (((a_7.add (x_6.toNat * 8)).add 0).add 0) .i64 fun x_8 =>
ldI h_4 (((a_7.add (x_6.toNat * 8)).add 0).add 1) .i64 fun x_9 =>
ldS h_4 (((a_7.add (x_6.toNat * 8)).add 0).add 2) fun x_10 x_10n x_10c =>
C F_burinlaw8_light #[.agg #[.int .i64 x_8, .int .i64 x_9, .slice x_10 x_10n x_10c]] h_4 (fun v_11 h_12 =>
∃ (r_13 : Bool), v_11 = .bool r_13 ∧ (
bcase (!r_13) (
bindI (IntKind.i64.wrap (x_6 + (1 : Int))) fun z_14 =>
∃ m_2, m_2 < n_3 ∧ J_1 m_2 [.int .i64 z_14] h_12) <|
needs (0 ≤ x_6 ∧ x_6 < (a0n : Int)) <|
ptr a0 fun a_15 =>
ldI h_12 (((a_15.add (x_6.toNat * 8)).add 3).add 0) .i64 fun x_16 =>
ldI h_12 (((a_15.add (x_6.toNat * 8)).add 3).add 1) .i64 fun x_17 =>
ldS h_12 (((a_15.add (x_6.toNat * 8)).add 3).add 2) fun x_18 x_18n x_18c =>
C F_burinlaw8_light #[.agg #[.int .i64 x_16, .int .i64 x_17, .slice x_18 x_18n x_18c]] h_12 (fun v_19 h_20 =>
∃ (r_21 : Bool), v_19 = .bool r_21 ∧ (
bcase (!r_21) (
bindI (IntKind.i64.wrap (x_6 + (1 : Int))) fun z_22 =>
∃ m_2, m_2 < n_3 ∧ J_1 m_2 [.int .i64 z_22] h_20) <|
needs (0 ≤ x_6 ∧ x_6 < (a0n : Int)) <|
ptr a0 fun a_23 =>
ldI h_20 (((a_23.add (x_6.toNat * 8)).add 0).add 0) .i64 fun x_24 =>
ldI h_20 (((a_23.add (x_6.toNat * 8)).add 0).add 1) .i64 fun x_25 =>
ldS h_20 (((a_23.add (x_6.toNat * 8)).add 0).add 2) fun x_26 x_26n x_26c =>
C F_burinkit_LendBitmap #[.agg #[.int .i64 x_24, .int .i64 x_25, .slice x_26 x_26n x_26c]] h_20 (fun v_27 h_28 =>
∃ (r_29 : Int) (r_30 : Int) (r_31 : Option Addr) (r_31n : Nat) (r_31c : Nat), v_27 = .agg #[.int .i64 r_29, .int .i64 r_30, .slice r_31 r_31n r_31c] ∧ (
newC h_28 [.int .i64 0, .int .i64 0, .slice none 0 0] T_api_Bitmap fun r_32 h_33 =>
stV h_33 ((⟨r_32, 0, none⟩ : Addr).add 0) (.int .i64 r_29) fun h_34 =>
stV h_34 ((⟨r_32, 0, none⟩ : Addr).add 1) (.int .i64 r_30) fun h_35 =>
stV h_35 ((⟨r_32, 0, none⟩ : Addr).add 2) (.slice r_31 r_31n r_31c) fun h_36 =>
needs (0 ≤ x_6 ∧ x_6 < (a0n : Int)) <|
ptr a0 fun a_37 =>
ldI h_36 (((a_37.add (x_6.toNat * 8)).add 3).add 0) .i64 fun x_38 =>
ldI h_36 (((a_37.add (x_6.toNat * 8)).add 3).add 1) .i64 fun x_39 =>
ldS h_36 (((a_37.add (x_6.toNat * 8)).add 3).add 2) fun x_40 x_40n x_40c =>
C F_burinkit_LendBitmap #[.agg #[.int .i64 x_38, .int .i64 x_39, .slice x_40 x_40n x_40c]] h_36 (fun v_41 h_42 =>
∃ (r_43 : Int) (r_44 : Int) (r_45 : Option Addr) (r_45n : Nat) (r_45c : Nat), v_41 = .agg #[.int .i64 r_43, .int .i64 r_44, .slice r_45 r_45n r_45c] ∧ (
newC h_42 [.int .i64 0, .int .i64 0, .slice none 0 0] T_api_Bitmap fun r_46 h_47 =>
stV h_47 ((⟨r_46, 0, none⟩ : Addr).add 0) (.int .i64 r_43) fun h_48 =>
stV h_48 ((⟨r_46, 0, none⟩ : Addr).add 1) (.int .i64 r_44) fun h_49 =>
stV h_49 ((⟨r_46, 0, none⟩ : Addr).add 2) (.slice r_45 r_45n r_45c) fun h_50 =>
needs (0 ≤ x_6 ∧ x_6 < (a0n : Int)) <|
ptr a0 fun a_51 =>
needs (0 ≤ x_6 ∧ x_6 < (a0n : Int)) <|
ptr a0 fun a_52 =>
ldI h_50 ((⟨r_32, 0, none⟩ : Addr).add 0) .i64 fun x_53 =>
ldI h_50 ((⟨r_32, 0, none⟩ : Addr).add 1) .i64 fun x_54 =>
ldS h_50 ((⟨r_32, 0, none⟩ : Addr).add 2) fun x_55 x_55n x_55c =>
ldI h_50 ((⟨r_46, 0, none⟩ : Addr).add 0) .i64 fun x_56 =>
ldI h_50 ((⟨r_46, 0, none⟩ : Addr).add 1) .i64 fun x_57 =>
ldS h_50 ((⟨r_46, 0, none⟩ : Addr).add 2) fun x_58 x_58n x_58c =>
ldI h_50 ((a_51.add (x_6.toNat * 8)).add 6) .i64 fun x_59 =>
ldI h_50 ((a_52.add (x_6.toNat * 8)).add 7) .i64 fun x_60 =>
C F_refine_Encode #[.agg #[.int .i64 x_53, .int .i64 x_54, .slice x_55 x_55n x_55c], .agg #[.int .i64 x_56, .int .i64 x_57, .slice x_58 x_58n x_58c], .int .i64 x_59, .int .i64 x_60] h_50 (fun v_61 h_62 =>
∃ (r_63 : Option Addr) (r_63n : Nat) (r_63c : Nat), ∃ (r_64 : Int), v_61 = .tuple #[.slice r_63 r_63n r_63c, .int .i64 r_64] ∧ (
needs (0 ≤ x_6 ∧ x_6 < (a0n : Int)) <|
ptr a0 fun a_65 =>
needs (0 ≤ x_6 ∧ x_6 < (a0n : Int)) <|
ptr a0 fun a_66 =>
needs (0 ≤ x_6 ∧ x_6 < (a0n : Int)) <|
ptr a0 fun a_67 =>
needs (0 ≤ x_6 ∧ x_6 < (a0n : Int)) <|
ptr a0 fun a_68 =>
ldI h_62 (((a_65.add (x_6.toNat * 8)).add 0).add 0) .i64 fun x_69 =>
ldI h_62 (((a_65.add (x_6.toNat * 8)).add 0).add 1) .i64 fun x_70 =>
ldS h_62 (((a_65.add (x_6.toNat * 8)).add 0).add 2) fun x_71 x_71n x_71c =>
ldI h_62 (((a_66.add (x_6.toNat * 8)).add 3).add 0) .i64 fun x_72 =>
ldI h_62 (((a_66.add (x_6.toNat * 8)).add 3).add 1) .i64 fun x_73 =>
ldS h_62 (((a_66.add (x_6.toNat * 8)).add 3).add 2) fun x_74 x_74n x_74c =>
ldI h_62 ((a_67.add (x_6.toNat * 8)).add 6) .i64 fun x_75 =>
ldI h_62 ((a_68.add (x_6.toNat * 8)).add 7) .i64 fun x_76 =>
C F_burinref8_Encode #[.agg #[.int .i64 x_69, .int .i64 x_70, .slice x_71 x_71n x_71c], .agg #[.int .i64 x_72, .int .i64 x_73, .slice x_74 x_74n x_74c], .int .i64 x_75, .int .i64 x_76] h_62 (fun v_77 h_78 =>
∃ (r_79 : Option Addr) (r_79n : Nat) (r_79c : Nat), ∃ (r_80 : Int), v_77 = .tuple #[.slice r_79 r_79n r_79c, .int .i64 r_80] ∧ (
needs (0 ≤ x_6 ∧ x_6 < (a0n : Int)) <|
ptr a0 fun a_81 =>
ldI h_78 ((⟨r_32, 0, none⟩ : Addr).add 0) .i64 fun x_82 =>
ldI h_78 ((⟨r_32, 0, none⟩ : Addr).add 1) .i64 fun x_83 =>
ldS h_78 ((⟨r_32, 0, none⟩ : Addr).add 2) fun x_84 x_84n x_84c =>
ldI h_78 (((a_81.add (x_6.toNat * 8)).add 0).add 0) .i64 fun x_85 =>
ldI h_78 (((a_81.add (x_6.toNat * 8)).add 0).add 1) .i64 fun x_86 =>
ldS h_78 (((a_81.add (x_6.toNat * 8)).add 0).add 2) fun x_87 x_87n x_87c =>
C F_burinkit_BackBitmap #[.agg #[.int .i64 x_82, .int .i64 x_83, .slice x_84 x_84n x_84c], .agg #[.int .i64 x_85, .int .i64 x_86, .slice x_87 x_87n x_87c]] h_78 (fun v_88 h_89 =>
∃ (r_90 : Bool), v_88 = .bool r_90 ∧ (
bcase (!r_90) (
K (.bool false) h_89) <|
needs (0 ≤ x_6 ∧ x_6 < (a0n : Int)) <|
ptr a0 fun a_91 =>
ldI h_89 ((⟨r_46, 0, none⟩ : Addr).add 0) .i64 fun x_92 =>
ldI h_89 ((⟨r_46, 0, none⟩ : Addr).add 1) .i64 fun x_93 =>
ldS h_89 ((⟨r_46, 0, none⟩ : Addr).add 2) fun x_94 x_94n x_94c =>
ldI h_89 (((a_91.add (x_6.toNat * 8)).add 3).add 0) .i64 fun x_95 =>
ldI h_89 (((a_91.add (x_6.toNat * 8)).add 3).add 1) .i64 fun x_96 =>
ldS h_89 (((a_91.add (x_6.toNat * 8)).add 3).add 2) fun x_97 x_97n x_97c =>
C F_burinkit_BackBitmap #[.agg #[.int .i64 x_92, .int .i64 x_93, .slice x_94 x_94n x_94c], .agg #[.int .i64 x_95, .int .i64 x_96, .slice x_97 x_97n x_97c]] h_89 (fun v_98 h_99 =>
∃ (r_100 : Bool), v_98 = .bool r_100 ∧ (
bcase (!r_100) (
K (.bool false) h_99) <|
bcase (r_64 != r_80) (
K (.bool false) h_99) <|
C F_burinref0_Eq #[.slice r_63 r_63n r_63c, .slice r_79 r_79n r_79c] h_99 (fun v_101 h_102 =>
∃ (r_103 : Bool), v_101 = .bool r_103 ∧ (
bcase (!r_103) (
K (.bool false) h_102) <|
bindI (IntKind.i64.wrap (x_6 + (1 : Int))) fun z_104 =>
∃ m_2, m_2 < n_3 ∧ J_1 m_2 [.int .i64 z_104] h_102)) (Kp))) (Kp))) (Kp))) (Kp))) (Kp))) (Kp))) (Kp))) (Kp))) (Kp)) <|
C F_burinlaw8_wakes #[] h_4 (fun v_105 h_106 =>
∃ (r_107 : Bool), v_105 = .bool r_107 ∧ (
K (.bool r_107) h_106)) (Kp)) <|
C F_burinlaw8_wakes #[] h_4 (fun v_108 h_109 =>
∃ (r_110 : Bool), v_108 = .bool r_110 ∧ (
K (.bool r_110) h_109)) (Kp))

end Go.Den.Ytcicfilkdhhnmaa

/- Written by gen.py: each condition of the functions of law8RefineEncodes is the one of its body; so it is enough for its call. -/
set_option linter.unusedVariables false
set_option linter.unusedSimpArgs false
namespace Go.Den.Ytcicfilkdhhnmaa
open Go Go.Den

noncomputable def hints_burinlaw8_RefineEncodes : Hints := Hints.mk (fun i => bif Nat.beq i 7 then some ([12], .take 2 <| .take 3 <| .take 4 <| .take 5 <| .take 7 <| .take 8 <| .take 9 <| .take 10 <| .take 0 <| .take 1 <| .take 6 <| .take 11 <| .bar 12 [] <| .take 13 <| .take 14 <| .take 15 <| .take 16 <| .take 17 <| .done) else (bif Nat.beq i 8 then some ([20], .take 0 <| .take 1 <| .take 2 <| .take 3 <| .take 5 <| .take 6 <| .take 7 <| .take 8 <| .take 10 <| .take 11 <| .take 12 <| .take 13 <| .take 15 <| .take 16 <| .take 17 <| .take 18 <| .take 4 <| .take 9 <| .take 14 <| .take 19 <| .bar 20 [] <| .take 21 <| .take 22 <| .take 23 <| .take 24 <| .take 25 <| .done) else (bif Nat.beq i 9 then some ([6, 15, 26], .take 1 <| .take 2 <| .take 3 <| .take 4 <| .take 0 <| .take 5 <| .bar 6 [15, 26] <| .take 7 <| .take 8 <| .take 10 <| .take 11 <| .take 12 <| .take 13 <| .take 9 <| .take 14 <| .bar 15 [26] <| .take 16 <| .take 17 <| .take 18 <| .take 19 <| .take 20 <| .take 21 <| .take 22 <| .take 23 <| .take 24 <| .take 25 <| .bar 26 [] <| .take 27 <| .take 28 <| .done) else (none))))
  (fun i => bif Nat.beq i 2 then some ([(3, .int .i64)], 166153499473114484112975882535043068) else (none))
  (fun i => none) []
set_option maxRecDepth 100000 in
theorem eq_burinlaw8_RefineEncodes (C : CallP) (a0 : Option Addr) (a0n : Nat) (a0c : Nat) (h : Heap) (K : Value → Heap → Prop) (Kp : List PanicEntry → Heap → Prop) :
    fnD Go.Proofs.Try.prog C hints_burinlaw8_RefineEncodes Go.Proofs.Try.f6 [.slice a0 a0n a0c] h K Kp = burinlaw8_RefineEncodes C a0 a0n a0c h K Kp := by kernel_rfl

theorem call_burinlaw8_RefineEncodes {a0 : Option Addr} {a0n : Nat} {a0c : Nat} {h : Heap} {K : Value → Heap → Prop} {Kp : List PanicEntry → Heap → Prop} (H : burinlaw8_RefineEncodes (CallsHP Go.Proofs.Try.prog) a0 a0n a0c h K Kp) : CallsHP Go.Proofs.Try.prog F_burinlaw8_RefineEncodes #[.slice a0 a0n a0c] h K Kp :=
  callsHP_of hints_burinlaw8_RefineEncodes (by kernel_rfl) Go.Proofs.Try.func6 (by kernel_rfl) (by rw [eq_burinlaw8_RefineEncodes]; exact H)

end Go.Den.Ytcicfilkdhhnmaa

/- RfP: the law RefineEncodes, said of memory. -/
set_option linter.unusedVariables false
set_option linter.unusedSimpArgs false
namespace Go.Bm
open Go Go.Den Go.Den.Ytcicfilkdhhnmaa

theorem add_pos (a : Addr) (k j : Nat) (hk : 0 < k) : (a.add k).add j = a.add (k + j) := by
  unfold Addr.add
  have h1 : ¬ k = 0 := by omega
  by_cases hj : j = 0
  · subst hj; simp [h1]
  · simp [h1, hj]; omega
/-- A bitmap, its reference and a shift, as they lie in memory. -/
structure AskV (h : Heap) (a : Addr) (w b : Int) (ws : List Nat) (w2 b2 : Int) (ws2 : List Nat) (x y : Int) : Prop where
  c0 : hcell h ((a.add 0).add 0) = some (.int .i64 w)
  c1 : hcell h ((a.add 0).add 1) = some (.int .i64 b)
  c2 : ∃ q c, hcell h ((a.add 0).add 2) = some (.slice q ws.length c) ∧ rdO h q (ws.length * 1) (u64s ws)
  c3 : hcell h ((a.add 3).add 0) = some (.int .i64 w2)
  c4 : hcell h ((a.add 3).add 1) = some (.int .i64 b2)
  c5 : ∃ q c, hcell h ((a.add 3).add 2) = some (.slice q ws2.length c) ∧ rdO h q (ws2.length * 1) (u64s ws2)
  c6 : hcell h (a.add 6) = some (.int .i64 x)
  c7 : hcell h (a.add 7) = some (.int .i64 y)
  w1 : W64 ws
  w2' : W64 ws2
  l1 : ws.length < 140737488351300
  l2 : ws2.length < 140737488351300
def AsksV (h : Heap) (sq : Option Addr) (slen : Nat) : Prop := ∀ i, i < slen → ∃ a w b ws w2 b2 ws2 x y, sq = some a ∧ AskV h (a.add (i * 8)) w b ws w2 b2 ws2 x y
set_option maxRecDepth 100000 in
set_option maxHeartbeats 2000000 in
theorem refEncodes_law {hB : Heap} {sq : Option Addr} {slen scap : Nat} (hv : AsksV hB sq slen) {K : Value → Heap → Prop} {Kp : List PanicEntry → Heap → Prop} (hk : ∀ h', hext hB h' → K (.bool true) h') :
    CP F_burinlaw8_RefineEncodes #[.slice sq slen scap] hB K Kp := by
  refine call_burinlaw8_RefineEncodes ?_
  unfold burinlaw8_RefineEncodes
  refine ⟨fun n vs h' => ∃ i : Nat, i + n = 6 ∧ vs = [.int .i64 (i : Int)] ∧ Hp hB [] h' [], ⟨6, 0, rfl, rfl, Hp.nil hB []⟩, ?_⟩
  rintro n h u xx ⟨i, hin, hxx, H⟩
  injection hxx with hxx
  injection hxx with _ hxx
  subst hxx
  refine bcase_dec (fun h3 => ?_) fun h3 => wakes8_ok fun h' e => ⟨_, rfl, hk _ (H.hext.trans e)⟩
  refine bcase_dec (fun h4 => ?_) fun h4 => wakes8_ok fun h' e => ⟨_, rfl, hk _ (H.hext.trans e)⟩
  have h3 : i < slen := by omega
  have h4 : i < 6 := by omega
  obtain ⟨a, w, b, ws, w2, b2, ws2, x, y, hsq, ha⟩ := hv i h3
  subst hsq
  obtain ⟨q1, c1, hc2, hr1⟩ := ha.c2
  obtain ⟨q2, c2, hc5, hr2⟩ := ha.c5
  have fr : ∀ {h : Heap} {L : List Ent} {c : Addr} {v : Value}, Hp hB [] h L → hcell hB c = some v → hcell h c = some v := fun H hc => H.fr.cell (by simp) hc
  have next : ∀ h' L, Hp hB [] h' L → ∃ m, m < n ∧ ∃ i' : Nat, i' + m = 6 ∧ [Value.int .i64 ((i + 1 : Nat) : Int)] = [.int .i64 (i' : Int)] ∧ Hp hB [] h' [] := fun h' L H => ⟨n - 1, by omega, i + 1, by omega, rfl, H.take 0⟩
  have hnd : 0 ≤ (i : Int) ∧ (i : Int) < (slen : Int) := by omega
  refine needs_of hnd (ptr_of (a := a) ?_)
  refine ldI_of (fr H ha.c0) (ldI_of (fr H ha.c1) (ldS_of (fr H hc2) ?_))
  refine light_ok (H.rdO hr1) ha.w1 ha.l1 fun bb h1 hbb e1 => ?_
  have H := H.ext e1
  refine ⟨_, rfl, ?_⟩
  refine bcase_not (fun h5 => ?_) fun h5 => ?_
  · refine bindI_of (((i + 1 : Nat) : Int)) (by exact i64_at _ _ (by omega) (by omega) (by omega)) ?_
    exact next _ _ H
  have hl1 := (hbb h5).1
  refine needs_of hnd (ptr_of (a := a) ?_)
  refine ldI_of (fr H ha.c3) (ldI_of (fr H ha.c4) (ldS_of (fr H hc5) ?_))
  refine light_ok (H.rdO hr2) ha.w2' ha.l2 fun bb h1 hbb e1 => ?_
  have H := H.ext e1
  refine ⟨_, rfl, ?_⟩
  refine bcase_not (fun h5 => ?_) fun h5 => ?_
  · refine bindI_of (((i + 1 : Nat) : Int)) (by exact i64_at _ _ (by omega) (by omega) (by omega)) ?_
    exact next _ _ H
  have hl2 := (hbb h5).1
  refine needs_of hnd (ptr_of (a := a) ?_)
  refine ldI_of (fr H ha.c0) (ldI_of (fr H ha.c1) (ldS_of (fr H hc2) ?_))
  refine lendB_ok (H.rdO hr1) (by omega) fun o1 l1 k1 h6 hk1 H' => ?_
  replace H := H.join H' rfl
  clear H'
  refine ⟨_, _, _, _, _, rfl, ?_⟩
  refine newC_hp H fun r32 h H => ?_
  rw [add_mk, add_mk, add_mk]
  refine stV_hp H 1 rfl (Nat.le_of_ble_eq_true rfl) rfl fun h hs2 H => ?_
  refine stV_hp H 1 rfl (Nat.le_of_ble_eq_true rfl) rfl fun h hs2 H => ?_
  refine stV_hp H 1 rfl (Nat.le_of_ble_eq_true rfl) rfl fun h hs2 H => ?_
  refine needs_of hnd (ptr_of (a := a) ?_)
  refine ldI_of (fr H ha.c3) (ldI_of (fr H ha.c4) (ldS_of (fr H hc5) ?_))
  refine lendB_ok (H.rdO hr2) (by omega) fun o2 l2 k2 h7 hk2 H' => ?_
  replace H := H.join H' rfl
  clear H'
  refine ⟨_, _, _, _, _, rfl, ?_⟩
  refine newC_hp H fun r46 h H => ?_
  rw [add_mk, add_mk, add_mk]
  refine stV_hp H 3 rfl (Nat.le_of_ble_eq_true rfl) rfl fun h hs2 H => ?_
  refine stV_hp H 3 rfl (Nat.le_of_ble_eq_true rfl) rfl fun h hs2 H => ?_
  refine stV_hp H 3 rfl (Nat.le_of_ble_eq_true rfl) rfl fun h hs2 H => ?_
  have H : Hp hB [] h [⟨o1, true, T_uint64, u64s ws ++ (u64s (List.replicate 7 42405) ++ l1)⟩, ⟨r32, true, T_api_Bitmap, [.int .i64 w, .int .i64 b, .slice (at0 o1) ws.length k1]⟩, ⟨o2, true, T_uint64, u64s ws2 ++ (u64s (List.replicate 7 42405) ++ l2)⟩, ⟨r46, true, T_api_Bitmap, [.int .i64 w2, .int .i64 b2, .slice (at0 o2) ws2.length k2]⟩] := H
  refine needs_of hnd (ptr_of (a := a) (needs_of hnd (ptr_of (a := a) ?_)))
  refine ldI_of (Hp.cellA H 1 rfl (i := 0) rfl) (ldI_of (Hp.cellA H 1 rfl (i := 1) rfl) (ldS_of (Hp.cellA H 1 rfl (i := 2) rfl) ?_))
  refine ldI_of (Hp.cellA H 3 rfl (i := 0) rfl) (ldI_of (Hp.cellA H 3 rfl (i := 1) rfl) (ldS_of (Hp.cellA H 3 rfl (i := 2) rfl) ?_))
  refine ldI_of (fr H ha.c6) (ldI_of (fr H ha.c7) ?_)
  refine rfEnc_ok (row_rdO H 0 rfl) ha.w1 ha.l1 (row_rdO H 2 rfl) ha.w2' ha.l2 fun e bs D qo c h' henc hsl H' => ?_
  replace H := H.join H' hsl.w
  clear H'
  refine ⟨_, _, _, _, rfl, ?_⟩
  refine needs_of hnd (ptr_of (a := a) (needs_of hnd (ptr_of (a := a) (needs_of hnd (ptr_of (a := a) (needs_of hnd (ptr_of (a := a) ?_)))))))
  refine ldI_of (fr H ha.c0) (ldI_of (fr H ha.c1) (ldS_of (fr H hc2) ?_))
  refine ldI_of (fr H ha.c3) (ldI_of (fr H ha.c4) (ldS_of (fr H hc5) ?_))
  refine ldI_of (fr H ha.c6) (ldI_of (fr H ha.c7) ?_)
  refine rrEnc_ok (H.rdO hr1) ha.w1 ha.l1 (H.rdO hr2) ha.w2' ha.l2 fun e' bs' D2 qo2 c2 h' henc2 hsl2 H' => ?_
  replace H := H.join H' hsl2.w
  clear H'
  obtain ⟨rfl, rfl⟩ := henc.det henc2
  refine ⟨_, _, _, _, rfl, ?_⟩
  refine needs_of hnd (ptr_of (a := a) ?_)
  refine ldI_of (Hp.cellA H 1 rfl (i := 0) rfl) (ldI_of (Hp.cellA H 1 rfl (i := 1) rfl) (ldS_of (Hp.cellA H 1 rfl (i := 2) rfl) ?_))
  refine ldI_of (fr H ha.c0) (ldI_of (fr H ha.c1) (ldS_of (fr H hc2) ?_))
  refine backB_ok (H.give [0] (by decide) rfl) (H.rdO hr1) (by omega) hk1 fun cs1 h' H' => ?_
  replace H := H.put [0] (by decide) rfl rfl H' rfl rfl
  clear H'
  refine ⟨_, rfl, ?_⟩
  refine bcase_false (by rfl) ?_
  have H : Hp hB [] h' ([⟨o1, true, T_uint64, cs1⟩, ⟨r32, true, T_api_Bitmap, [.int .i64 w, .int .i64 b, .slice (at0 o1) ws.length k1]⟩, ⟨o2, true, T_uint64, u64s ws2 ++ (u64s (List.replicate 7 42405) ++ l2)⟩, ⟨r46, true, T_api_Bitmap, [.int .i64 w2, .int .i64 b2, .slice (at0 o2) ws2.length k2]⟩] ++ D ++ D2) := H
  refine needs_of hnd (ptr_of (a := a) ?_)
  refine ldI_of (Hp.cellA H 3 rfl (i := 0) rfl) (ldI_of (Hp.cellA H 3 rfl (i := 1) rfl) (ldS_of (Hp.cellA H 3 rfl (i := 2) rfl) ?_))
  refine ldI_of (fr H ha.c3) (ldI_of (fr H ha.c4) (ldS_of (fr H hc5) ?_))
  refine backB_ok (H.give [2] (by decide) rfl) (H.rdO hr2) (by omega) hk2 fun cs2 h' H' => ?_
  replace H := H.put [2] (by decide) rfl rfl H' rfl rfl
  clear H'
  refine ⟨_, rfl, ?_⟩
  refine bcase_false (by rfl) ?_
  refine bcase_false (by simp) ?_
  have H : Hp hB [] h' ([⟨o1, true, T_uint64, cs1⟩, ⟨r32, true, T_api_Bitmap, [.int .i64 w, .int .i64 b, .slice (at0 o1) ws.length k1]⟩, ⟨o2, true, T_uint64, cs2⟩, ⟨r46, true, T_api_Bitmap, [.int .i64 w2, .int .i64 b2, .slice (at0 o2) ws2.length k2]⟩] ++ D ++ D2) := H
  refine Go.Ar.eq_ok (xs := bs) (ys := bs) (Slot.rdO' hsl (Hp.pre (Y := D2) H) fun e he => List.mem_append_right _ he) (Slot.rdO' hsl2 H fun e he => List.mem_append_right _ he) henc.bytes.2 ?_
  refine ⟨_, rfl, ?_⟩
  refine bcase_false (by simp) ?_
  refine bindI_of (((i + 1 : Nat) : Int)) (by exact i64_at _ _ (by omega) (by omega) (by omega)) ?_
  exact next _ _ H

end Go.Bm

/- RfQ: asks as they come in as an argument. -/
set_option linter.unusedVariables false
set_option linter.unusedSimpArgs false
namespace Go.Bm
open Go Go.Den Go.Den.Ytcicfilkdhhnmaa

theorem list8 {α : Type} {l : List α} (h : l.length = 8) : ∃ a b c d e f g i, l = [a, b, c, d, e, f, g, i] := by
  match l, h with
  | [a, b, c, d, e, f, g, i], _ => exact ⟨a, b, c, d, e, f, g, i, rfl⟩
theorem asks_of {h : Heap} {cs : List Value} (H : WDx TP h T_s_burinlaw8_Ask cs) : ∃ q len cap, cs = [.slice q len cap] ∧ AsksV h q len := by
  obtain ⟨q, len, cap, rfl, _, _, _, h4⟩ := wd_slice Go.Proofs.Try.underlying39 H
  refine ⟨q, len, cap, rfl, fun i hi => ?_⟩
  obtain ⟨a, cs', ha, hr, hd⟩ := h4 i hi
  obtain ⟨hl, hf⟩ := wd_struct Go.Proofs.Try.underlying45 hd
  have k : TP.cellsOf T_burinlaw8_Ask = 8 := by kernel_rfl
  rw [k] at hl hr
  obtain ⟨v0, v1, v2, v3, v4, v5, v6, v7, rfl⟩ := list8 hl
  have kb : TP.cellsOf T_api_Bitmap = 3 := by kernel_rfl
  have f0 : WDx TP h T_api_Bitmap (([v0, v1, v2, v3, v4, v5, v6, v7].drop 0).take (TP.cellsOf T_api_Bitmap)) := hf 0 _ rfl
  have f1 : WDx TP h T_api_Bitmap (([v0, v1, v2, v3, v4, v5, v6, v7].drop 3).take (TP.cellsOf T_api_Bitmap)) := hf 1 _ rfl
  rw [kb] at f0 f1
  obtain ⟨w, b, q1, cap1, ws, e0, _, _, g1, g2, g3⟩ := wd_bitmap f0
  obtain ⟨w2, b2, q2, cap2, ws2, e1, _, _, g4, g5, g6⟩ := wd_bitmap f1
  obtain ⟨x, e2, _⟩ := wd_int Go.Proofs.Try.underlying3 (one_of k_int (hf 2 _ rfl) (v := v6) rfl)
  obtain ⟨y, e3, _⟩ := wd_int Go.Proofs.Try.underlying3 (one_of k_int (hf 3 _ rfl) (v := v7) rfl)
  simp only [List.drop_succ_cons, List.drop_zero, List.take_succ_cons, List.take_zero, List.cons.injEq, and_true] at e0 e1 e2 e3
  obtain ⟨e00, e01, e02⟩ := e0
  obtain ⟨e10, e11, e12⟩ := e1
  subst e00 e01 e02 e10 e11 e12 e2 e3
  have c := fun j v hj => hr.2 j v hj
  refine ⟨a, w, b, ws, w2, b2, ws2, x, y, ha, ⟨?_, ?_, ⟨q1, cap1, ?_, g2⟩, ?_, ?_, ⟨q2, cap2, ?_, g5⟩, c 6 _ rfl, c 7 _ rfl, g3, g6, g1, g4⟩⟩
  · rw [add_zero', add_zero', ← add_zero' (a.add (i * 8))]; exact c 0 _ rfl
  · rw [add_zero']; exact c 1 _ rfl
  · rw [add_zero']; exact c 2 _ rfl
  · rw [add_zero']; exact c 3 _ rfl
  · rw [add_pos _ _ _ (by decide)]; exact c 4 _ rfl
  · rw [add_pos _ _ _ (by decide)]; exact c 5 _ rfl
end Go.Bm

/- RdB: the law ArithReads, said of memory. -/
set_option linter.unusedVariables false
set_option linter.unusedSimpArgs false
namespace Go.Ar
open Go Go.Den Go.Den.Ytcicfilkdhhnmaa

end Go.Ar

/- RdC: a reading as it comes in as an argument: the law ArithReads over it. -/
set_option linter.unusedVariables false
set_option linter.unusedSimpArgs false
namespace Go.Ar
open Go Go.Den Go.Den.Ytcicfilkdhhnmaa

theorem u8s_ints {l : List Int} (h : ∀ x ∈ l, IntKind.u8.min ≤ x ∧ x ≤ IntKind.u8.max) : (l.map fun x => (.int .u8 x : Value)) = u8s (l.map Int.toNat) ∧ ∀ x ∈ l.map Int.toNat, x < 256 := by
  have hb : ∀ x ∈ l, 0 ≤ x ∧ x ≤ 255 := fun x hx => by have := h x hx; simpa [IntKind.min, IntKind.max, IntKind.signed, IntKind.bits] using this
  constructor
  · unfold u8s
    rw [List.map_map]
    refine List.map_congr_left fun x hx => ?_
    have := hb x hx
    show Value.int .u8 x = .int .u8 ((x.toNat : Nat) : Int)
    rw [Int.toNat_of_nonneg this.1]
  · intro y hy
    obtain ⟨x, hx, rfl⟩ := List.mem_map.1 hy
    have := hb x hx
    omega
/-- Bytes that come in. -/
theorem wd_bytes {h : Heap} {cs : List Value} (H : WDx Go.Proofs.Try.prog h T_s_uint8 cs) :
    ∃ q cap, ∃ bs : List Nat, cs = [.slice q bs.length cap] ∧ bs.length ≤ cap ∧ cap < 140737488351300 ∧ (q = none → cap = 0) ∧ rdO h q (bs.length * 1) (u8s bs) ∧ ∀ x ∈ bs, x < 256 := by
  obtain ⟨q, cap, l, rfl, h1, h2, h3, h4, h5⟩ := wd_ints (k := .u8) Go.Proofs.Try.underlying24 Go.Proofs.Try.underlying5 (by kernel_rfl) H
  obtain ⟨e1, e2⟩ := u8s_ints h5
  have k1 : Go.Proofs.Try.prog.bytesOf T_uint8 = 1 := by kernel_rfl
  rw [k1] at h2
  have hr : reachBytes = 140737488351232 := rfl
  rw [e1] at h4
  refine ⟨q, cap, l.map Int.toNat, by simp, by simpa using h1, by omega, h3, by simpa using h4, e2⟩

end Go.Ar

/- Written by gen.py: the conditions of the functions of law8RefineReads. -/
set_option linter.unusedVariables false
set_option linter.unusedSimpArgs false
namespace Go.Den.Ytcicfilkdhhnmaa
open Go Go.Den

/- burin/burinlaw8.RefineReads -/
set_option maxRecDepth 100000 in
def burinlaw8_RefineReads (C : CallP) (a0 : Option Addr) (a0n : Nat) (a0c : Nat) (h : Heap) (K : Value → Heap → Prop) (Kp : List PanicEntry → Heap → Prop) : Prop :=
∃ J_1 : Nat → List Value → Heap → Prop, (∃ n_3, J_1 n_3 [.int .i64 0] h) ∧ ∀ (n_3 : Nat) (h_4 : Heap) (u_5 : Nat → Value) (x_6 : Int), J_1 n_3 [.int .i64 x_6] h_4 → (
bcase (decide (x_6 < (a0n : Int))) (
bcase (decide (x_6 < (6 : Int))) (
needs (0 ≤ x_6 ∧ x_6 < (a0n : Int)) <|
ptr a0 fun a_7 =>
ldS h_4 ((a_7.add (x_6.toNat * 11)).add 0) fun x_8 x_8n x_8c =>
ldI h_4 ((a_7.add (x_6.toNat * 11)).add 1) .i64 fun x_9 =>
ldI h_4 ((a_7.add (x_6.toNat * 11)).add 2) .i64 fun x_10 =>
ldI h_4 ((a_7.add (x_6.toNat * 11)).add 3) .i64 fun x_11 =>
ldI h_4 ((a_7.add (x_6.toNat * 11)).add 4) .i64 fun x_12 =>
ldS h_4 ((a_7.add (x_6.toNat * 11)).add 5) fun x_13 x_13n x_13c =>
ldI h_4 ((a_7.add (x_6.toNat * 11)).add 6) .i64 fun x_14 =>
ldI h_4 ((a_7.add (x_6.toNat * 11)).add 7) .i64 fun x_15 =>
ldS h_4 ((a_7.add (x_6.toNat * 11)).add 8) fun x_16 x_16n x_16c =>
ldI h_4 ((a_7.add (x_6.toNat * 11)).add 9) .i64 fun x_17 =>
ldI h_4 ((a_7.add (x_6.toNat * 11)).add 10) .i64 fun x_18 =>
newC h_4 [.slice none 0 0, .int .i64 0, .int .i64 0, .int .i64 0, .int .i64 0, .slice none 0 0, .int .i64 0, .int .i64 0, .slice none 0 0, .int .i64 0, .int .i64 0] T_burinlaw8_Reading fun r_19 h_20 =>
stVs h_20 (⟨r_19, 0, none⟩ : Addr) 0 [.slice x_8 x_8n x_8c, .int .i64 x_9, .int .i64 x_10, .int .i64 x_11, .int .i64 x_12, .slice x_13 x_13n x_13c, .int .i64 x_14, .int .i64 x_15, .slice x_16 x_16n x_16c, .int .i64 x_17, .int .i64 x_18] fun h_21 =>
∃ K_22 : List Value → Heap → Prop, (
ldI h_21 ((⟨r_19, 0, none⟩ : Addr).add 1) .i64 fun x_25 =>
ldI h_21 ((⟨r_19, 0, none⟩ : Addr).add 2) .i64 fun x_26 =>
C F_burinref0_Size #[.int .i64 x_25, .int .i64 x_26] h_21 (fun v_27 h_28 =>
∃ (r_29 : Bool), v_27 = .bool r_29 ∧ (
bcase r_29 (
ldI h_28 ((⟨r_19, 0, none⟩ : Addr).add 1) .i64 fun x_30 =>
ldI h_28 ((⟨r_19, 0, none⟩ : Addr).add 2) .i64 fun x_31 =>
bindI (IntKind.i64.wrap (x_30 * x_31)) fun z_32 =>
bcase (decide (z_32 > (4000 : Int))) (
bindI (IntKind.i64.wrap (x_6 + (1 : Int))) fun z_33 =>
∃ m_2, m_2 < n_3 ∧ J_1 m_2 [.int .i64 z_33] h_28) <|
ldI h_28 ((⟨r_19, 0, none⟩ : Addr).add 2) .i64 fun x_34 =>
bcase (decide (x_34 > (1000 : Int))) (
bindI (IntKind.i64.wrap (x_6 + (1 : Int))) fun z_35 =>
∃ m_2, m_2 < n_3 ∧ J_1 m_2 [.int .i64 z_35] h_28) <|
ldI h_28 ((((⟨r_19, 0, none⟩ : Addr).add 3).add 3).add 0) .i64 fun x_36 =>
ldI h_28 ((((⟨r_19, 0, none⟩ : Addr).add 3).add 3).add 1) .i64 fun x_37 =>
ldS h_28 ((((⟨r_19, 0, none⟩ : Addr).add 3).add 3).add 2) fun x_38 x_38n x_38c =>
C F_burinlaw8_light #[.agg #[.int .i64 x_36, .int .i64 x_37, .slice x_38 x_38n x_38c]] h_28 (fun v_39 h_40 =>
∃ (r_41 : Bool), v_39 = .bool r_41 ∧ (
bcase (!r_41) (
bindI (IntKind.i64.wrap (x_6 + (1 : Int))) fun z_42 =>
∃ m_2, m_2 < n_3 ∧ J_1 m_2 [.int .i64 z_42] h_40) <|
K_22 [] h_40)) (Kp)) <|
ldI h_28 ((((⟨r_19, 0, none⟩ : Addr).add 3).add 3).add 0) .i64 fun x_43 =>
ldI h_28 ((((⟨r_19, 0, none⟩ : Addr).add 3).add 3).add 1) .i64 fun x_44 =>
ldS h_28 ((((⟨r_19, 0, none⟩ : Addr).add 3).add 3).add 2) fun x_45 x_45n x_45c =>
C F_burinlaw8_light #[.agg #[.int .i64 x_43, .int .i64 x_44, .slice x_45 x_45n x_45c]] h_28 (fun v_46 h_47 =>
∃ (r_48 : Bool), v_46 = .bool r_48 ∧ (
bcase (!r_48) (
bindI (IntKind.i64.wrap (x_6 + (1 : Int))) fun z_49 =>
∃ m_2, m_2 < n_3 ∧ J_1 m_2 [.int .i64 z_49] h_47) <|
K_22 [] h_47)) (Kp))) (Kp)) ∧ ∀ (h_23 : Heap) (u_24 : Nat → Value) , K_22 [] h_23 → (
ldS h_23 ((⟨r_19, 0, none⟩ : Addr).add 0) fun x_50 x_50n x_50c =>
C F_burinkit_Lend #[.slice x_50 x_50n x_50c] h_23 (fun v_51 h_52 =>
∃ (r_53 : Option Addr) (r_53n : Nat) (r_53c : Nat), v_51 = .slice r_53 r_53n r_53c ∧ (
ldI h_52 ((⟨r_19, 0, none⟩ : Addr).add 1) .i64 fun x_54 =>
ldI h_52 ((⟨r_19, 0, none⟩ : Addr).add 2) .i64 fun x_55 =>
ldI h_52 ((((⟨r_19, 0, none⟩ : Addr).add 3).add 3).add 0) .i64 fun x_56 =>
ldI h_52 ((((⟨r_19, 0, none⟩ : Addr).add 3).add 3).add 1) .i64 fun x_57 =>
ldS h_52 ((((⟨r_19, 0, none⟩ : Addr).add 3).add 3).add 2) fun x_58 x_58n x_58c =>
ldI h_52 (((⟨r_19, 0, none⟩ : Addr).add 3).add 6) .i64 fun x_59 =>
ldI h_52 (((⟨r_19, 0, none⟩ : Addr).add 3).add 7) .i64 fun x_60 =>
C F_refine_Decode #[.slice r_53 r_53n r_53c, .int .i64 x_54, .int .i64 x_55, .agg #[.int .i64 x_56, .int .i64 x_57, .slice x_58 x_58n x_58c], .int .i64 x_59, .int .i64 x_60] h_52 (fun v_61 h_62 =>
∃ (r_63 : Int) (r_64 : Int) (r_65 : Option Addr) (r_65n : Nat) (r_65c : Nat), ∃ (r_66 : Int), v_61 = .tuple #[.agg #[.int .i64 r_63, .int .i64 r_64, .slice r_65 r_65n r_65c], .int .i64 r_66] ∧ (
newC h_62 [.int .i64 0, .int .i64 0, .slice none 0 0] T_api_Bitmap fun r_67 h_68 =>
stV h_68 ((⟨r_67, 0, none⟩ : Addr).add 0) (.int .i64 r_63) fun h_69 =>
stV h_69 ((⟨r_67, 0, none⟩ : Addr).add 1) (.int .i64 r_64) fun h_70 =>
stV h_70 ((⟨r_67, 0, none⟩ : Addr).add 2) (.slice r_65 r_65n r_65c) fun h_71 =>
ldS h_71 ((⟨r_19, 0, none⟩ : Addr).add 0) fun x_72 x_72n x_72c =>
ldI h_71 ((⟨r_19, 0, none⟩ : Addr).add 1) .i64 fun x_73 =>
ldI h_71 ((⟨r_19, 0, none⟩ : Addr).add 2) .i64 fun x_74 =>
ldI h_71 ((((⟨r_19, 0, none⟩ : Addr).add 3).add 3).add 0) .i64 fun x_75 =>
ldI h_71 ((((⟨r_19, 0, none⟩ : Addr).add 3).add 3).add 1) .i64 fun x_76 =>
ldS h_71 ((((⟨r_19, 0, none⟩ : Addr).add 3).add 3).add 2) fun x_77 x_77n x_77c =>
ldI h_71 (((⟨r_19, 0, none⟩ : Addr).add 3).add 6) .i64 fun x_78 =>
ldI h_71 (((⟨r_19, 0, none⟩ : Addr).add 3).add 7) .i64 fun x_79 =>
C F_burinref8_Decode #[.slice x_72 x_72n x_72c, .int .i64 x_73, .int .i64 x_74, .agg #[.int .i64 x_75, .int .i64 x_76, .slice x_77 x_77n x_77c], .int .i64 x_78, .int .i64 x_79] h_71 (fun v_80 h_81 =>
∃ (r_82 : Int) (r_83 : Int) (r_84 : Option Addr) (r_84n : Nat) (r_84c : Nat), ∃ (r_85 : Int), v_80 = .tuple #[.agg #[.int .i64 r_82, .int .i64 r_83, .slice r_84 r_84n r_84c], .int .i64 r_85] ∧ (
newC h_81 [.int .i64 0, .int .i64 0, .slice none 0 0] T_api_Bitmap fun r_86 h_87 =>
stV h_87 ((⟨r_86, 0, none⟩ : Addr).add 0) (.int .i64 r_82) fun h_88 =>
stV h_88 ((⟨r_86, 0, none⟩ : Addr).add 1) (.int .i64 r_83) fun h_89 =>
stV h_89 ((⟨r_86, 0, none⟩ : Addr).add 2) (.slice r_84 r_84n r_84c) fun h_90 =>
ldS h_90 ((⟨r_19, 0, none⟩ : Addr).add 0) fun x_91 x_91n x_91c =>
C F_burinkit_Back #[.slice r_53 r_53n r_53c, .slice x_91 x_91n x_91c] h_90 (fun v_92 h_93 =>
∃ (r_94 : Bool), v_92 = .bool r_94 ∧ (
bcase (!r_94) (
K (.bool false) h_93) <|
bcase (r_66 != r_85) (
K (.bool false) h_93) <|
ldI h_93 ((⟨r_67, 0, none⟩ : Addr).add 0) .i64 fun x_95 =>
ldI h_93 ((⟨r_67, 0, none⟩ : Addr).add 1) .i64 fun x_96 =>
ldS h_93 ((⟨r_67, 0, none⟩ : Addr).add 2) fun x_97 x_97n x_97c =>
ldI h_93 ((⟨r_86, 0, none⟩ : Addr).add 0) .i64 fun x_98 =>
ldI h_93 ((⟨r_86, 0, none⟩ : Addr).add 1) .i64 fun x_99 =>
ldS h_93 ((⟨r_86, 0, none⟩ : Addr).add 2) fun x_100 x_100n x_100c =>
C F_burinref0_EqBitmap #[.agg #[.int .i64 x_95, .int .i64 x_96, .slice x_97 x_97n x_97c], .agg #[.int .i64 x_98, .int .i64 x_99, .slice x_100 x_100n x_100c]] h_93 (fun v_101 h_102 =>
∃ (r_103 : Bool), v_101 = .bool r_103 ∧ (
bcase (!r_103) (
K (.bool false) h_102) <|
bindI (IntKind.i64.wrap (x_6 + (1 : Int))) fun z_104 =>
∃ m_2, m_2 < n_3 ∧ J_1 m_2 [.int .i64 z_104] h_102)) (Kp))) (Kp))) (Kp))) (Kp))) (Kp))) <|
C F_burinlaw8_wakes #[] h_4 (fun v_105 h_106 =>
∃ (r_107 : Bool), v_105 = .bool r_107 ∧ (
K (.bool r_107) h_106)) (Kp)) <|
C F_burinlaw8_wakes #[] h_4 (fun v_108 h_109 =>
∃ (r_110 : Bool), v_108 = .bool r_110 ∧ (
K (.bool r_110) h_109)) (Kp))

end Go.Den.Ytcicfilkdhhnmaa

/- Written by gen.py: each condition of the functions of law8RefineReads is the one of its body; so it is enough for its call. -/
set_option linter.unusedVariables false
set_option linter.unusedSimpArgs false
namespace Go.Den.Ytcicfilkdhhnmaa
open Go Go.Den

noncomputable def hints_burinlaw8_RefineReads : Hints := Hints.mk (fun i => none)
  (fun i => bif Nat.beq i 2 then some ([(3, .int .i64)], 40564819207303340847894502572028) else (none))
  (fun i => bif Nat.beq i 6 then some ([], 562949936644096) else (none)) []
set_option maxRecDepth 100000 in
theorem eq_burinlaw8_RefineReads (C : CallP) (a0 : Option Addr) (a0n : Nat) (a0c : Nat) (h : Heap) (K : Value → Heap → Prop) (Kp : List PanicEntry → Heap → Prop) :
    fnD Go.Proofs.Try.prog C hints_burinlaw8_RefineReads Go.Proofs.Try.f7 [.slice a0 a0n a0c] h K Kp = burinlaw8_RefineReads C a0 a0n a0c h K Kp := by kernel_rfl

theorem call_burinlaw8_RefineReads {a0 : Option Addr} {a0n : Nat} {a0c : Nat} {h : Heap} {K : Value → Heap → Prop} {Kp : List PanicEntry → Heap → Prop} (H : burinlaw8_RefineReads (CallsHP Go.Proofs.Try.prog) a0 a0n a0c h K Kp) : CallsHP Go.Proofs.Try.prog F_burinlaw8_RefineReads #[.slice a0 a0n a0c] h K Kp :=
  callsHP_of hints_burinlaw8_RefineReads (by kernel_rfl) Go.Proofs.Try.func7 (by kernel_rfl) (by rw [eq_burinlaw8_RefineReads]; exact H)

end Go.Den.Ytcicfilkdhhnmaa

/- RfX: the law RefineReads, said of memory; readings and asks as they come in as an argument. -/
set_option linter.unusedVariables false
set_option linter.unusedSimpArgs false
namespace Go.Bm
open Go Go.Den Go.Den.Ytcicfilkdhhnmaa
open Go.Ar (Dec idx newD newD_ok u8s wd_bytes)

theorem GetR.len {bytes : List Nat} {m n0 : Nat} {base w b w2 b2 : Int} {ws2 : List Nat} {dx dy : Int} {s : Dec} {e a c : Int} {bs : List Nat} {s' : Dec} (h : GetR bytes m n0 base w b w2 b2 ws2 dx dy s e a c bs s') : bs.length < 140737488351300 := by
  rcases h with ⟨_, _, _, _, rfl, _⟩ | ⟨_, _, _, _, _, rfl, _⟩ | ⟨_, _, _, _, _, _, rfl, _⟩ | ⟨_, _, _, _, _, _, _, rfl, _⟩ | ⟨_, p2, _, _, _, _, _, _, l, _⟩
  · decide
  · decide
  · decide
  · decide
  · obtain ⟨W, X, rfl, rfl, hW1, hW2, hX1, hX2, hWX⟩ := size_nat p2
    simp only [Int.toNat_natCast] at l
    have := hw_le hW1 hWX
    omega
structure ReadV (h : Heap) (a : Addr) (bs : List Nat) (w b w2 b2 : Int) (ws2 : List Nat) (x y : Int) : Prop where
  c0 : ∃ q c, hcell h (a.add 0) = some (.slice q bs.length c) ∧ rdO h q (bs.length * 1) (u8s bs)
  c1 : hcell h (a.add 1) = some (.int .i64 w)
  c2 : hcell h (a.add 2) = some (.int .i64 b)
  c3 : ∃ v, hcell h (a.add 3) = some (.int .i64 v)
  c4 : ∃ v, hcell h (a.add 4) = some (.int .i64 v)
  c5 : ∃ q n c, hcell h (a.add 5) = some (.slice q n c)
  c6 : hcell h (a.add 6) = some (.int .i64 w2)
  c7 : hcell h (a.add 7) = some (.int .i64 b2)
  c8 : ∃ q c, hcell h (a.add 8) = some (.slice q ws2.length c) ∧ rdO h q (ws2.length * 1) (u64s ws2)
  c9 : hcell h (a.add 9) = some (.int .i64 x)
  c10 : hcell h (a.add 10) = some (.int .i64 y)
  b8 : ∀ x ∈ bs, x < 256
  bl : bs.length < 140737488351300
  w2' : W64 ws2
  l2 : ws2.length < 140737488351300
def ReadsV (h : Heap) (sq : Option Addr) (slen : Nat) : Prop := ∀ i, i < slen → ∃ a bs w b w2 b2 ws2 x y, sq = some a ∧ ReadV h (a.add (i * 11)) bs w b w2 b2 ws2 x y

set_option maxRecDepth 100000 in
set_option maxHeartbeats 4000000 in
theorem refReads_law {hB : Heap} {sq : Option Addr} {slen scap : Nat} (hv : ReadsV hB sq slen) {K : Value → Heap → Prop} {Kp : List PanicEntry → Heap → Prop} (hk : ∀ h', hext hB h' → K (.bool true) h') :
    CP F_burinlaw8_RefineReads #[.slice sq slen scap] hB K Kp := by
  refine call_burinlaw8_RefineReads ?_
  unfold burinlaw8_RefineReads
  refine ⟨fun n vs h' => ∃ i : Nat, i + n = 6 ∧ vs = [.int .i64 (i : Int)] ∧ Hp hB [] h' [], ⟨6, 0, rfl, rfl, Hp.nil hB []⟩, ?_⟩
  rintro n h u xx ⟨i, hin, hxx, H⟩
  injection hxx with hxx
  injection hxx with _ hxx
  subst hxx
  refine bcase_dec (fun h3 => ?_) fun h3 => wakes8_ok fun h' e => ⟨_, rfl, hk _ (H.hext.trans e)⟩
  refine bcase_dec (fun h4 => ?_) fun h4 => wakes8_ok fun h' e => ⟨_, rfl, hk _ (H.hext.trans e)⟩
  have h3 : i < slen := by omega
  have h4 : i < 6 := by omega
  obtain ⟨a, bs, w, b, w2, b2, ws2, x, y, hsq, ha⟩ := hv i h3
  subst hsq
  obtain ⟨q1, c1, hc0, hr1⟩ := ha.c0
  obtain ⟨v3, hc3⟩ := ha.c3
  obtain ⟨v4, hc4⟩ := ha.c4
  obtain ⟨q5, n5, k5, hc5⟩ := ha.c5
  obtain ⟨q2, c2, hc8, hr2⟩ := ha.c8
  have fr : ∀ {h : Heap} {L : List Ent} {c : Addr} {v : Value}, Hp hB [] h L → hcell hB c = some v → hcell h c = some v := fun H hc => H.fr.cell (by simp) hc
  have next : ∀ h' L, Hp hB [] h' L → ∃ m, m < n ∧ ∃ i' : Nat, i' + m = 6 ∧ [Value.int .i64 ((i + 1 : Nat) : Int)] = [.int .i64 (i' : Int)] ∧ Hp hB [] h' [] := fun h' L H => ⟨n - 1, by omega, i + 1, by omega, rfl, H.take 0⟩
  refine needs_of (by omega) (ptr_of (a := a) ?_)
  rw [Int.toNat_natCast]
  refine ldS_of (fr H hc0) (ldI_of (fr H ha.c1) (ldI_of (fr H ha.c2) (ldI_of (fr H hc3) (ldI_of (fr H hc4) (ldS_of (fr H hc5) (ldI_of (fr H ha.c6) (ldI_of (fr H ha.c7) (ldS_of (fr H hc8) (ldI_of (fr H ha.c9) (ldI_of (fr H ha.c10) ?_))))))))))
  refine newC_hp H fun r19 h H => ?_
  refine stVsA H 0 rfl rfl rfl fun h H => ?_
  have H : Hp hB [] h [⟨r19, true, T_burinlaw8_Reading, [.slice q1 bs.length c1, .int .i64 w, .int .i64 b, .int .i64 v3, .int .i64 v4, .slice q5 n5 k5, .int .i64 w2, .int .i64 b2, .slice q2 ws2.length c2, .int .i64 x, .int .i64 y]⟩] := H
  refine ⟨fun _ h' => Hp hB [] h' [⟨r19, true, T_burinlaw8_Reading, [.slice q1 bs.length c1, .int .i64 w, .int .i64 b, .int .i64 v3, .int .i64 v4, .slice q5 n5 k5, .int .i64 w2, .int .i64 b2, .slice q2 ws2.length c2, .int .i64 x, .int .i64 y]⟩], ?_, ?_⟩
  · repeat first | with_reducible refine ldI_of (by with_unfolding_all first | exact hpA H 0 rfl rfl | exact Hp.cell H 0 rfl rfl | exact hpB H 0 rfl rfl | exact hpC H 0 rfl rfl) ?_ | with_reducible refine ldS_of (by with_unfolding_all first | exact hpA H 0 rfl rfl | exact Hp.cell H 0 rfl rfl | exact hpB H 0 rfl rfl | exact hpC H 0 rfl rfl) ?_ | with_reducible refine ldP_of (by with_unfolding_all first | exact hpA H 0 rfl rfl | exact Hp.cell H 0 rfl rfl | exact hpB H 0 rfl rfl | exact hpC H 0 rfl rfl) ?_ | with_reducible refine ldB_of (by with_unfolding_all first | exact hpA H 0 rfl rfl | exact Hp.cell H 0 rfl rfl | exact hpB H 0 rfl rfl | exact hpC H 0 rfl rfl) ?_ | with_reducible refine ldT_of (by with_unfolding_all first | exact hpA H 0 rfl rfl | exact Hp.cell H 0 rfl rfl | exact hpB H 0 rfl rfl | exact hpC H 0 rfl rfl) ?_
    refine rsize_ok fun bsz hbsz => ?_
    refine ⟨_, rfl, ?_⟩
    refine bcase_of (fun h5 => ?_) fun h5 => ?_
    · repeat first | with_reducible refine ldI_of (by with_unfolding_all first | exact hpA H 0 rfl rfl | exact Hp.cell H 0 rfl rfl | exact hpB H 0 rfl rfl | exact hpC H 0 rfl rfl) ?_ | with_reducible refine ldS_of (by with_unfolding_all first | exact hpA H 0 rfl rfl | exact Hp.cell H 0 rfl rfl | exact hpB H 0 rfl rfl | exact hpC H 0 rfl rfl) ?_ | with_reducible refine ldP_of (by with_unfolding_all first | exact hpA H 0 rfl rfl | exact Hp.cell H 0 rfl rfl | exact hpB H 0 rfl rfl | exact hpC H 0 rfl rfl) ?_ | with_reducible refine ldB_of (by with_unfolding_all first | exact hpA H 0 rfl rfl | exact Hp.cell H 0 rfl rfl | exact hpB H 0 rfl rfl | exact hpC H 0 rfl rfl) ?_ | with_reducible refine ldT_of (by with_unfolding_all first | exact hpA H 0 rfl rfl | exact Hp.cell H 0 rfl rfl | exact hpB H 0 rfl rfl | exact hpC H 0 rfl rfl) ?_
      refine bindI_gen fun z hz => ?_
      refine bcase_dec (fun h6 => ?_) fun h6 => ?_
      · refine bindI_of (((i + 1 : Nat) : Int)) (by exact i64_at _ _ (by omega) (by omega) (by omega)) ?_
        exact next _ _ H
      repeat first | with_reducible refine ldI_of (by with_unfolding_all first | exact hpA H 0 rfl rfl | exact Hp.cell H 0 rfl rfl | exact hpB H 0 rfl rfl | exact hpC H 0 rfl rfl) ?_ | with_reducible refine ldS_of (by with_unfolding_all first | exact hpA H 0 rfl rfl | exact Hp.cell H 0 rfl rfl | exact hpB H 0 rfl rfl | exact hpC H 0 rfl rfl) ?_ | with_reducible refine ldP_of (by with_unfolding_all first | exact hpA H 0 rfl rfl | exact Hp.cell H 0 rfl rfl | exact hpB H 0 rfl rfl | exact hpC H 0 rfl rfl) ?_ | with_reducible refine ldB_of (by with_unfolding_all first | exact hpA H 0 rfl rfl | exact Hp.cell H 0 rfl rfl | exact hpB H 0 rfl rfl | exact hpC H 0 rfl rfl) ?_ | with_reducible refine ldT_of (by with_unfolding_all first | exact hpA H 0 rfl rfl | exact Hp.cell H 0 rfl rfl | exact hpB H 0 rfl rfl | exact hpC H 0 rfl rfl) ?_
      refine bcase_dec (fun h6 => ?_) fun h6 => ?_
      · refine bindI_of (((i + 1 : Nat) : Int)) (by exact i64_at _ _ (by omega) (by omega) (by omega)) ?_
        exact next _ _ H
      repeat first | with_reducible refine ldI_of (by with_unfolding_all first | exact hpA H 0 rfl rfl | exact Hp.cell H 0 rfl rfl | exact hpB H 0 rfl rfl | exact hpC H 0 rfl rfl) ?_ | with_reducible refine ldS_of (by with_unfolding_all first | exact hpA H 0 rfl rfl | exact Hp.cell H 0 rfl rfl | exact hpB H 0 rfl rfl | exact hpC H 0 rfl rfl) ?_ | with_reducible refine ldP_of (by with_unfolding_all first | exact hpA H 0 rfl rfl | exact Hp.cell H 0 rfl rfl | exact hpB H 0 rfl rfl | exact hpC H 0 rfl rfl) ?_ | with_reducible refine ldB_of (by with_unfolding_all first | exact hpA H 0 rfl rfl | exact Hp.cell H 0 rfl rfl | exact hpB H 0 rfl rfl | exact hpC H 0 rfl rfl) ?_ | with_reducible refine ldT_of (by with_unfolding_all first | exact hpA H 0 rfl rfl | exact Hp.cell H 0 rfl rfl | exact hpB H 0 rfl rfl | exact hpC H 0 rfl rfl) ?_
      refine light_ok (H.rdO hr2) ha.w2' ha.l2 fun bb h1 hbb e1 => ?_
      have H := H.ext e1
      refine ⟨_, rfl, ?_⟩
      refine bcase_not (fun h7 => ?_) fun h7 => H
      refine bindI_of (((i + 1 : Nat) : Int)) (by exact i64_at _ _ (by omega) (by omega) (by omega)) ?_
      exact next _ _ H
    · repeat first | with_reducible refine ldI_of (by with_unfolding_all first | exact hpA H 0 rfl rfl | exact Hp.cell H 0 rfl rfl | exact hpB H 0 rfl rfl | exact hpC H 0 rfl rfl) ?_ | with_reducible refine ldS_of (by with_unfolding_all first | exact hpA H 0 rfl rfl | exact Hp.cell H 0 rfl rfl | exact hpB H 0 rfl rfl | exact hpC H 0 rfl rfl) ?_ | with_reducible refine ldP_of (by with_unfolding_all first | exact hpA H 0 rfl rfl | exact Hp.cell H 0 rfl rfl | exact hpB H 0 rfl rfl | exact hpC H 0 rfl rfl) ?_ | with_reducible refine ldB_of (by with_unfolding_all first | exact hpA H 0 rfl rfl | exact Hp.cell H 0 rfl rfl | exact hpB H 0 rfl rfl | exact hpC H 0 rfl rfl) ?_ | with_reducible refine ldT_of (by with_unfolding_all first | exact hpA H 0 rfl rfl | exact Hp.cell H 0 rfl rfl | exact hpB H 0 rfl rfl | exact hpC H 0 rfl rfl) ?_
      refine light_ok (H.rdO hr2) ha.w2' ha.l2 fun bb h1 hbb e1 => ?_
      have H := H.ext e1
      refine ⟨_, rfl, ?_⟩
      refine bcase_not (fun h7 => ?_) fun h7 => H
      refine bindI_of (((i + 1 : Nat) : Int)) (by exact i64_at _ _ (by omega) (by omega) (by omega)) ?_
      exact next _ _ H
  · clear H
    intro h u H
    repeat first | with_reducible refine ldI_of (by with_unfolding_all first | exact hpA H 0 rfl rfl | exact Hp.cell H 0 rfl rfl | exact hpB H 0 rfl rfl | exact hpC H 0 rfl rfl) ?_ | with_reducible refine ldS_of (by with_unfolding_all first | exact hpA H 0 rfl rfl | exact Hp.cell H 0 rfl rfl | exact hpB H 0 rfl rfl | exact hpC H 0 rfl rfl) ?_ | with_reducible refine ldP_of (by with_unfolding_all first | exact hpA H 0 rfl rfl | exact Hp.cell H 0 rfl rfl | exact hpB H 0 rfl rfl | exact hpC H 0 rfl rfl) ?_ | with_reducible refine ldB_of (by with_unfolding_all first | exact hpA H 0 rfl rfl | exact Hp.cell H 0 rfl rfl | exact hpB H 0 rfl rfl | exact hpC H 0 rfl rfl) ?_ | with_reducible refine ldT_of (by with_unfolding_all first | exact hpA H 0 rfl rfl | exact Hp.cell H 0 rfl rfl | exact hpB H 0 rfl rfl | exact hpC H 0 rfl rfl) ?_
    refine Go.Ar.lend_ok (H.rdO hr1) ha.bl fun o rest c h' hc H' => ?_
    replace H := H.join H' rfl
    clear H'
    refine ⟨_, _, _, rfl, ?_⟩
    repeat first | with_reducible refine ldI_of (by with_unfolding_all first | exact hpA H 0 rfl rfl | exact Hp.cell H 0 rfl rfl | exact hpB H 0 rfl rfl | exact hpC H 0 rfl rfl) ?_ | with_reducible refine ldS_of (by with_unfolding_all first | exact hpA H 0 rfl rfl | exact Hp.cell H 0 rfl rfl | exact hpB H 0 rfl rfl | exact hpC H 0 rfl rfl) ?_ | with_reducible refine ldP_of (by with_unfolding_all first | exact hpA H 0 rfl rfl | exact Hp.cell H 0 rfl rfl | exact hpB H 0 rfl rfl | exact hpC H 0 rfl rfl) ?_ | with_reducible refine ldB_of (by with_unfolding_all first | exact hpA H 0 rfl rfl | exact Hp.cell H 0 rfl rfl | exact hpB H 0 rfl rfl | exact hpC H 0 rfl rfl) ?_ | with_reducible refine ldT_of (by with_unfolding_all first | exact hpA H 0 rfl rfl | exact Hp.cell H 0 rfl rfl | exact hpB H 0 rfl rfl | exact hpC H 0 rfl rfl) ?_
    refine rfDec_ok (bytes := bs) ha.b8 ha.bl (Go.Ar.row_rdO H 1 rfl) (H.rdO hr2) ha.w2' ha.l2 fun e w' b' ys s' D qo k1 h' hg hsl H' => ?_
    replace H := H.join H' hsl.w
    clear H'
    refine ⟨_, _, _, _, _, _, rfl, ?_⟩
    refine newC_hp H fun r67 h H => ?_
    have H := H.rot
    repeat first | with_reducible refine stA H 0 (by with_unfolding_all exact rfl) (by with_unfolding_all exact rfl) (by with_unfolding_all exact rfl) fun h H => ?_ | with_reducible refine st0 H 0 (by with_unfolding_all exact rfl) (by with_unfolding_all exact rfl) (by with_unfolding_all exact rfl) fun h H => ?_ | with_reducible refine stB H 0 (by with_unfolding_all exact rfl) (by with_unfolding_all exact rfl) (by with_unfolding_all exact rfl) fun h H => ?_
    repeat first | with_reducible refine ldI_of (by with_unfolding_all first | exact hpA H 0 rfl rfl | exact hpA H 1 rfl rfl | exact Hp.cell H 0 rfl rfl | exact Hp.cell H 1 rfl rfl | exact hpB H 0 rfl rfl | exact hpB H 1 rfl rfl | exact hpC H 0 rfl rfl | exact hpC H 1 rfl rfl) ?_ | with_reducible refine ldS_of (by with_unfolding_all first | exact hpA H 0 rfl rfl | exact hpA H 1 rfl rfl | exact Hp.cell H 0 rfl rfl | exact Hp.cell H 1 rfl rfl | exact hpB H 0 rfl rfl | exact hpB H 1 rfl rfl | exact hpC H 0 rfl rfl | exact hpC H 1 rfl rfl) ?_ | with_reducible refine ldP_of (by with_unfolding_all first | exact hpA H 0 rfl rfl | exact hpA H 1 rfl rfl | exact Hp.cell H 0 rfl rfl | exact Hp.cell H 1 rfl rfl | exact hpB H 0 rfl rfl | exact hpB H 1 rfl rfl | exact hpC H 0 rfl rfl | exact hpC H 1 rfl rfl) ?_ | with_reducible refine ldB_of (by with_unfolding_all first | exact hpA H 0 rfl rfl | exact hpA H 1 rfl rfl | exact Hp.cell H 0 rfl rfl | exact Hp.cell H 1 rfl rfl | exact hpB H 0 rfl rfl | exact hpB H 1 rfl rfl | exact hpC H 0 rfl rfl | exact hpC H 1 rfl rfl) ?_ | with_reducible refine ldT_of (by with_unfolding_all first | exact hpA H 0 rfl rfl | exact hpA H 1 rfl rfl | exact Hp.cell H 0 rfl rfl | exact Hp.cell H 1 rfl rfl | exact hpB H 0 rfl rfl | exact hpB H 1 rfl rfl | exact hpC H 0 rfl rfl | exact hpC H 1 rfl rfl) ?_
    refine rrDec_ok (bytes := bs) ha.b8 ha.bl (H.rdO hr1) (H.rdO hr2) ha.w2' ha.l2 fun e2 w3 b3 ys2 s2 D2 qo2 k2 h' hg2 hsl2 H' => ?_
    replace H := H.join H' hsl2.w
    clear H'
    obtain ⟨rfl, rfl, rfl, rfl, _⟩ := hg.det hg2
    refine ⟨_, _, _, _, _, _, rfl, ?_⟩
    refine newC_hp H fun r86 h H => ?_
    have H := H.rot
    repeat first | with_reducible refine stA H 0 (by with_unfolding_all exact rfl) (by with_unfolding_all exact rfl) (by with_unfolding_all exact rfl) fun h H => ?_ | with_reducible refine st0 H 0 (by with_unfolding_all exact rfl) (by with_unfolding_all exact rfl) (by with_unfolding_all exact rfl) fun h H => ?_ | with_reducible refine stB H 0 (by with_unfolding_all exact rfl) (by with_unfolding_all exact rfl) (by with_unfolding_all exact rfl) fun h H => ?_
    repeat first | with_reducible refine ldI_of (by with_unfolding_all first | exact hpA H 0 rfl rfl | exact hpA H 1 rfl rfl | exact hpA H 2 rfl rfl | exact Hp.cell H 0 rfl rfl | exact Hp.cell H 1 rfl rfl | exact Hp.cell H 2 rfl rfl | exact hpB H 0 rfl rfl | exact hpB H 1 rfl rfl | exact hpB H 2 rfl rfl | exact hpC H 0 rfl rfl | exact hpC H 1 rfl rfl | exact hpC H 2 rfl rfl) ?_ | with_reducible refine ldS_of (by with_unfolding_all first | exact hpA H 0 rfl rfl | exact hpA H 1 rfl rfl | exact hpA H 2 rfl rfl | exact Hp.cell H 0 rfl rfl | exact Hp.cell H 1 rfl rfl | exact Hp.cell H 2 rfl rfl | exact hpB H 0 rfl rfl | exact hpB H 1 rfl rfl | exact hpB H 2 rfl rfl | exact hpC H 0 rfl rfl | exact hpC H 1 rfl rfl | exact hpC H 2 rfl rfl) ?_ | with_reducible refine ldP_of (by with_unfolding_all first | exact hpA H 0 rfl rfl | exact hpA H 1 rfl rfl | exact hpA H 2 rfl rfl | exact Hp.cell H 0 rfl rfl | exact Hp.cell H 1 rfl rfl | exact Hp.cell H 2 rfl rfl | exact hpB H 0 rfl rfl | exact hpB H 1 rfl rfl | exact hpB H 2 rfl rfl | exact hpC H 0 rfl rfl | exact hpC H 1 rfl rfl | exact hpC H 2 rfl rfl) ?_ | with_reducible refine ldB_of (by with_unfolding_all first | exact hpA H 0 rfl rfl | exact hpA H 1 rfl rfl | exact hpA H 2 rfl rfl | exact Hp.cell H 0 rfl rfl | exact Hp.cell H 1 rfl rfl | exact Hp.cell H 2 rfl rfl | exact hpB H 0 rfl rfl | exact hpB H 1 rfl rfl | exact hpB H 2 rfl rfl | exact hpC H 0 rfl rfl | exact hpC H 1 rfl rfl | exact hpC H 2 rfl rfl) ?_ | with_reducible refine ldT_of (by with_unfolding_all first | exact hpA H 0 rfl rfl | exact hpA H 1 rfl rfl | exact hpA H 2 rfl rfl | exact Hp.cell H 0 rfl rfl | exact Hp.cell H 1 rfl rfl | exact Hp.cell H 2 rfl rfl | exact hpB H 0 rfl rfl | exact hpB H 1 rfl rfl | exact hpB H 2 rfl rfl | exact hpC H 0 rfl rfl | exact hpC H 1 rfl rfl | exact hpC H 2 rfl rfl) ?_
    refine Go.Ar.back_ok (H.give [3] (by decide) rfl) (H.rdO hr1) ha.bl hc fun cs1 h' H' => ?_
    replace H := H.put [3] (by decide) rfl rfl H' rfl rfl
    clear H'
    refine ⟨_, rfl, ?_⟩
    refine bcase_false (by rfl) ?_
    refine bcase_false (by simp) ?_
    have H : Hp hB [] h' ([⟨r86, true, T_api_Bitmap, [.int .i64 w', .int .i64 b', .slice qo2 ys.length k2]⟩] ++ (([⟨r67, true, T_api_Bitmap, [.int .i64 w', .int .i64 b', .slice qo ys.length k1]⟩] ++ ([⟨r19, true, T_burinlaw8_Reading, [.slice q1 bs.length c1, .int .i64 w, .int .i64 b, .int .i64 v3, .int .i64 v4, .slice q5 n5 k5, .int .i64 w2, .int .i64 b2, .slice q2 ws2.length c2, .int .i64 x, .int .i64 y]⟩, ⟨o, true, T_uint8, cs1⟩] ++ D)) ++ D2)) := H
    repeat first | with_reducible refine ldI_of (by with_unfolding_all first | exact hpA H 0 rfl rfl | exact hpA H 1 rfl rfl | exact Hp.cell H 0 rfl rfl | exact Hp.cell H 1 rfl rfl | exact hpB H 0 rfl rfl | exact hpB H 1 rfl rfl | exact hpC H 0 rfl rfl | exact hpC H 1 rfl rfl) ?_ | with_reducible refine ldS_of (by with_unfolding_all first | exact hpA H 0 rfl rfl | exact hpA H 1 rfl rfl | exact Hp.cell H 0 rfl rfl | exact Hp.cell H 1 rfl rfl | exact hpB H 0 rfl rfl | exact hpB H 1 rfl rfl | exact hpC H 0 rfl rfl | exact hpC H 1 rfl rfl) ?_ | with_reducible refine ldP_of (by with_unfolding_all first | exact hpA H 0 rfl rfl | exact hpA H 1 rfl rfl | exact Hp.cell H 0 rfl rfl | exact Hp.cell H 1 rfl rfl | exact hpB H 0 rfl rfl | exact hpB H 1 rfl rfl | exact hpC H 0 rfl rfl | exact hpC H 1 rfl rfl) ?_ | with_reducible refine ldB_of (by with_unfolding_all first | exact hpA H 0 rfl rfl | exact hpA H 1 rfl rfl | exact Hp.cell H 0 rfl rfl | exact Hp.cell H 1 rfl rfl | exact hpB H 0 rfl rfl | exact hpB H 1 rfl rfl | exact hpC H 0 rfl rfl | exact hpC H 1 rfl rfl) ?_ | with_reducible refine ldT_of (by with_unfolding_all first | exact hpA H 0 rfl rfl | exact hpA H 1 rfl rfl | exact Hp.cell H 0 rfl rfl | exact Hp.cell H 1 rfl rfl | exact hpB H 0 rfl rfl | exact hpB H 1 rfl rfl | exact hpC H 0 rfl rfl | exact hpC H 1 rfl rfl) ?_
    refine eqB_ok (xs := ys) (ys := ys) (Slot.rdO' hsl H fun e he => List.mem_append_right _ (List.mem_append_left _ (List.mem_append_right _ (List.mem_append_right _ he)))) (Slot.rdO' hsl2 H fun e he => List.mem_append_right _ (List.mem_append_right _ he)) hg.len fun h' e => ?_
    have H := H.ext e
    refine ⟨_, rfl, ?_⟩
    refine bcase_false (by simp) ?_
    refine bindI_of (((i + 1 : Nat) : Int)) (by exact i64_at _ _ (by omega) (by omega) (by omega)) ?_
    exact next _ _ H

theorem list11 {α : Type} {l : List α} (h : l.length = 11) : ∃ a b c d e f g i j k m, l = [a, b, c, d, e, f, g, i, j, k, m] := by
  match l, h with
  | [a, b, c, d, e, f, g, i, j, k, m], _ => exact ⟨a, b, c, d, e, f, g, i, j, k, m, rfl⟩
theorem wd_ask {h : Heap} {cs : List Value} (H : WDx TP h T_burinlaw8_Ask cs) : ∃ w b q1 c1 ws w2 b2 q2 c2 ws2 x y, cs = [.int .i64 w, .int .i64 b, .slice q1 (List.length ws) c1, .int .i64 w2, .int .i64 b2, .slice q2 (List.length ws2) c2, .int .i64 x, .int .i64 y] ∧
    rdO h q1 (ws.length * 1) (u64s ws) ∧ W64 ws ∧ ws.length < 140737488351300 ∧ rdO h q2 (ws2.length * 1) (u64s ws2) ∧ W64 ws2 ∧ ws2.length < 140737488351300 := by
  obtain ⟨hl, hf⟩ := wd_struct Go.Proofs.Try.underlying45 H
  have k : TP.cellsOf T_burinlaw8_Ask = 8 := by kernel_rfl
  rw [k] at hl
  obtain ⟨v0, v1, v2, v3, v4, v5, v6, v7, rfl⟩ := list8 hl
  have kb : TP.cellsOf T_api_Bitmap = 3 := by kernel_rfl
  have f0 : WDx TP h T_api_Bitmap (([v0, v1, v2, v3, v4, v5, v6, v7].drop 0).take (TP.cellsOf T_api_Bitmap)) := hf 0 _ rfl
  have f1 : WDx TP h T_api_Bitmap (([v0, v1, v2, v3, v4, v5, v6, v7].drop 3).take (TP.cellsOf T_api_Bitmap)) := hf 1 _ rfl
  rw [kb] at f0 f1
  obtain ⟨w, b, q1, cap1, ws, e0, _, _, g1, g2, g3⟩ := wd_bitmap f0
  obtain ⟨w2, b2, q2, cap2, ws2, e1, _, _, g4, g5, g6⟩ := wd_bitmap f1
  obtain ⟨x, e2, _⟩ := wd_int Go.Proofs.Try.underlying3 (one_of k_int (hf 2 _ rfl) (v := v6) rfl)
  obtain ⟨y, e3, _⟩ := wd_int Go.Proofs.Try.underlying3 (one_of k_int (hf 3 _ rfl) (v := v7) rfl)
  simp only [List.drop_succ_cons, List.drop_zero, List.take_succ_cons, List.take_zero, List.cons.injEq, and_true] at e0 e1 e2 e3
  obtain ⟨e00, e01, e02⟩ := e0
  obtain ⟨e10, e11, e12⟩ := e1
  subst e00 e01 e02 e10 e11 e12 e2 e3
  exact ⟨w, b, q1, cap1, ws, w2, b2, q2, cap2, ws2, x, y, rfl, g2, g3, g1, g5, g6, g4⟩
theorem reads8_of {h : Heap} {cs : List Value} (H : WDx TP h T_s_burinlaw8_Reading cs) : ∃ q len cap, cs = [.slice q len cap] ∧ ReadsV h q len := by
  obtain ⟨q, len, cap, rfl, _, _, _, h4⟩ := wd_slice Go.Proofs.Try.underlying50 H
  refine ⟨q, len, cap, rfl, fun i hi => ?_⟩
  obtain ⟨a, cs', ha, hr, hd⟩ := h4 i hi
  obtain ⟨hl, hf⟩ := wd_struct Go.Proofs.Try.underlying52 hd
  have k : TP.cellsOf T_burinlaw8_Reading = 11 := by kernel_rfl
  rw [k] at hl hr
  obtain ⟨v0, v1, v2, v3, v4, v5, v6, v7, v8, v9, v10, rfl⟩ := list11 hl
  have ks : TP.cellsOf T_s_uint8 = 1 := by kernel_rfl
  have ka : TP.cellsOf T_burinlaw8_Ask = 8 := by kernel_rfl
  obtain ⟨q1, cap1, bs, e0, h1, h2, h3, g1, g2⟩ := wd_bytes (one_of ks (hf 0 _ rfl) (v := v0) rfl)
  obtain ⟨w, e1, _⟩ := wd_int Go.Proofs.Try.underlying3 (one_of k_int (hf 1 _ rfl) (v := v1) rfl)
  obtain ⟨b, e2, _⟩ := wd_int Go.Proofs.Try.underlying3 (one_of k_int (hf 2 _ rfl) (v := v2) rfl)
  have f3 : WDx TP h T_burinlaw8_Ask (([v0, v1, v2, v3, v4, v5, v6, v7, v8, v9, v10].drop 3).take (TP.cellsOf T_burinlaw8_Ask)) := hf 3 _ rfl
  rw [ka] at f3
  obtain ⟨w1, b1, q3, cap3, ws, w2, b2, q2, cap2, ws2, x, y, e3, g3, g4, g5, g6, g7, g8⟩ := wd_ask f3
  simp only [List.drop_succ_cons, List.drop_zero, List.take_succ_cons, List.take_zero, List.cons.injEq, and_true] at e0 e1 e2 e3
  obtain ⟨e30, e31, e32, e33, e34, e35, e36, e37⟩ := e3
  subst e0 e1 e2 e30 e31 e32 e33 e34 e35 e36 e37
  have c := fun j v hj => hr.2 j v hj
  exact ⟨a, bs, w, b, w2, b2, ws2, x, y, ha, ⟨⟨q1, cap1, c 0 _ rfl, g1⟩, c 1 _ rfl, c 2 _ rfl, ⟨_, c 3 _ rfl⟩, ⟨_, c 4 _ rfl⟩, ⟨_, _, _, c 5 _ rfl⟩, c 6 _ rfl, c 7 _ rfl, ⟨q2, cap2, c 8 _ rfl, g6⟩, c 9 _ rfl, c 10 _ rfl, g2, by omega, g7, g8⟩⟩
end Go.Bm

/- RfATop: an ask as it comes in as an argument: the law RefineTop over it. -/
set_option linter.unusedVariables false
set_option linter.unusedSimpArgs false
namespace Go.Bm
open Go Go.Den Go.Den.Ytcicfilkdhhnmaa
theorem refTop_arg {h : Heap} {cs : Array Value} (hsz : cs.size = TP.cellsOf T_burinlaw8_Ask) (hw : WDx TP h T_burinlaw8_Ask cs.toList) {K : Value → Heap → Prop} {Kp : List PanicEntry → Heap → Prop} (hk : ∀ h', hext h h' → K (.bool true) h') :
    CP F_burinlaw8_RefineTop #[.agg cs] h K Kp := by
  obtain ⟨w, b, q1, c1, ws, w2, b2, q2, c2, ws2, x, y, e, g1, g2, g3, g4, g5, g6⟩ := wd_ask hw
  obtain rfl : cs = #[.int .i64 w, .int .i64 b, .slice q1 ws.length c1, .int .i64 w2, .int .i64 b2, .slice q2 ws2.length c2, .int .i64 x, .int .i64 y] := by
    apply Array.toList_inj.1
    rw [e]
  exact refTop_law g1 g2 g3 g4 g5 g6 hk
end Go.Bm

/- ArLink2: what a law's walk hands on. -/
namespace Go.Proofs.Ytcicfilkdhhnmaa
open Go.ChangeShapes Go.WideShapes Go.ChangeAt Go.RowKit
set_option linter.unusedVariables false

theorem own : ownKnob Try.prog.godebug = none := by kernel_rfl
theorem laidOut : laidOutB Try.prog = true := by kernel_rfl

/-- What a call that keeps all old rows leaves, as a row's statement asks it. -/
theorem below_of {W W' : World} (hk : Go.Den.keeps W W') (h : Go.Den.hext W.heap W'.heap) : Below W.heap.size W W' :=
  ⟨hk.1, hk.2.1, hk.2.2, h.1, fun k hlt => h.2 k hlt⟩

theorem walk_of {f : FuncId} {args : Array Value} {W : World}
    (h : Calls Try.prog f args W fun e w' => Go.Den.keeps W w' ∧ match e with
      | .returned v => v = .bool true ∧ Go.Den.hext W.heap w'.heap
      | .panicked c => False
      | .outgrown => False) : Calls Try.prog f args W fun e W' => e = .returned (.bool true) ∧ Below W.heap.size W W' := by
  refine h.mono fun e W' he => ?_
  obtain ⟨hk, he⟩ := he
  cases e with
  | returned v => exact ⟨by rw [he.1], below_of hk he.2⟩
  | panicked c => exact he.elim
  | outgrown => exact he.elim

end Go.Proofs.Ytcicfilkdhhnmaa
