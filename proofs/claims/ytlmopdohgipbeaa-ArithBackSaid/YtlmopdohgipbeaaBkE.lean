/- BkE: the law ArithBack, said of memory. -/
import Derived.Test.YtlmopdohgipbeaaBkD
import Derived.Test.YtlmopdohgipbeaaArH
import Derived.Test.YtlmopdohgipbeaaDenP
import Derived.Test.YtlmopdohgipbeaaBlaw4ArithBack
set_option linter.unusedVariables false
set_option linter.unusedSimpArgs false
namespace Go.Ar
open Go Go.Den Go.Den.Ytlmopdohgipbeaa

theorem eq_ok' {h : Heap} {a b : Option Addr} {ac bc nx ny : Nat} {xs ys : List Nat} (ex : xs.length = nx) (ey : ys.length = ny) (ha : rdO h a (nx * 1) (u8s xs)) (hb : rdO h b (ny * 1) (u8s ys)) (hlen : nx < 1000000000000)
    {K : Value → Heap → Prop} {Kp : List PanicEntry → Heap → Prop} (hk : K (.bool (decide (xs = ys))) h) : CP F_burinref0_Eq #[.slice a nx ac, .slice b ny bc] h K Kp := by
  subst ex ey
  exact eq_ok ha hb hlen hk
/-- The decisions that are kept. -/
def decs (C : Nat → Int) (b : Nat → Nat) : Nat → List Value
  | 0 => []
  | n + 1 => decs C b n ++ [.int .i64 (C n), .int .i64 (b n : Nat)]
theorem decs_length (C : Nat → Int) (b : Nat → Nat) : ∀ n, (decs C b n).length = n * 2
  | 0 => rfl
  | n + 1 => by rw [decs, List.length_append, decs_length C b n]; show n * 2 + 2 = _; omega
theorem decs_get (C : Nat → Int) (b : Nat → Nat) : ∀ {n i : Nat}, i < n → (decs C b n)[i * 2]? = some (.int .i64 (C i)) ∧ (decs C b n)[i * 2 + 1]? = some (.int .i64 (b i : Nat))
  | 0, i, h => by omega
  | n + 1, i, h => by
    rw [decs]
    have hl := decs_length C b n
    rcases Nat.lt_or_ge i n with h1 | h1
    · obtain ⟨g1, g2⟩ := decs_get C b h1
      exact ⟨get_app g1, get_app g2⟩
    · have : i = n := by omega
      subst this
      exact ⟨app_get (m := i * 2) hl 0 rfl, app_get (m := i * 2) hl 1 rfl⟩

/-- The rows of the states that are kept, and their slices. -/
structure Kept (m cnt : Nat) (st : Nat → List Nat) (vs : List Value) (R : List Ent) : Prop where
  row : ∀ j, j < cnt → ∃ b rest, (⟨b, true, T_uint8, u8s (st (j + 1)) ++ rest⟩ : Ent) ∈ R ∧ vs[j]? = some (.slice (some ⟨b, 0, none⟩) m (m + rest.length))
  w : R.all Ent.w = true

set_option maxRecDepth 100000 in
set_option maxHeartbeats 1000000 in
theorem back_law {hB : Heap} {n0 : Int} {sq : Option Addr} {slen scap : Nat} (hv0 : SV hB sq slen) {K : Value → Heap → Prop} {Kp : List PanicEntry → Heap → Prop} (hk : ∀ h', hext hB h' → K (.bool true) h') :
    CP F_burinlaw4_ArithBack #[.agg #[.int .i64 n0, .slice sq slen scap]] hB K Kp := by
  refine call_burinlaw4_ArithBack ?_
  unfold burinlaw4_ArithBack
  obtain ⟨C, B, hv⟩ := hv0.fn
  have H := Hp.nil hB []
  refine newC_hp H fun e h H => ?_
  try simp only [ptr_some_eq, add_mk, Nat.zero_add, Nat.add_zero]
  refine ldI_of (H.cell 0 rfl rfl) ?_
  refine within_ok (n := 40) (by decide) (by decide) ?_
  refine ⟨_, rfl, ?_⟩
  have hi40 := idx_lt n0 (n := 40) (by decide)
  generalize hm : 1 + idx n0 40 = m
  have hm1 : 1 ≤ m := by omega
  have hm2 : m ≤ 131072 := by omega
  have hm3 : m ≤ 40 := by omega
  refine bindI_of (((m : Nat) : Int)) (by exact i64_at _ _ (by omega) (by omega) (by omega)) ?_
  refine new_ok hm1 hm2 fun p q r h' H' => ?_
  replace H := H.join H' rfl
  clear H'
  refine ⟨_, _, rfl, ?_⟩
  refine bcase_false (by rfl) ?_
  refine bcase_false (by rfl) ?_
  have hbl : ∀ i : Nat, (fun i => bit1 (B i)) i ≤ 1 := fun i => bit1_le _
  generalize hcnt : min slen 6000 = cnt
  have hk1 : ∀ i, idx (C i) m < m := fun i => idx_lt _ hm1
  generalize hkk : (fun i => idx (C i) m) = k at *
  generalize hbb : (fun i => bit1 (B i)) = b at *
  have ek : ∀ i, idx (C i) m = k i := fun i => by rw [← hkk]
  have eb : ∀ i, bit1 (B i) = b i := fun i => by rw [← hbb]
  generalize hE : (⟨e, true, T_burinlaw4_Script, [.int .i64 n0, .slice sq slen scap]⟩ : Ent) = E at H
  have hJ : ∀ i, i ≤ 6000 → CodOk m i (codN k b m i) := fun i hi => codN_ok k b m i (by omega)
  refine ⟨fun vs h' => ∃ (D S R : List Ent) (qd qs : Option Addr) (cd cs : Nat) (xs : List Value) (r' : Nat) (rest' : List Value), vs = [.slice qs (min cnt 600) cs, .slice qd cnt cd] ∧
    Slot T_burinlaw4_Decision 2 D qd cnt cd (decs C b cnt) ∧ Slot T_s_uint8 1 S qs (min cnt 600) cs xs ∧ Kept m (min cnt 600) (fun j => (codN k b m j).st) xs R ∧ Hp hB [] h' ([E] ++ codL p q r' (codN k b m cnt) rest' ++ (D ++ (S ++ R))), ?_, ?_⟩
  · refine ⟨fun n vs h' => ∃ (i : Nat) (D S R : List Ent) (qd qs : Option Addr) (cd cs : Nat) (xs : List Value) (r' : Nat) (rest' : List Value), i + n = cnt ∧ vs = [.slice qs (min i 600) cs, .slice qd i cd, .int .i64 (i : Int)] ∧
      Slot T_burinlaw4_Decision 2 D qd i cd (decs C b i) ∧ Slot T_s_uint8 1 S qs (min i 600) cs xs ∧ Kept m (min i 600) (fun j => (codN k b m j).st) xs R ∧ Hp hB [] h' ([E] ++ codL p q r' (codN k b m i) rest' ++ (D ++ (S ++ R))),
      ⟨cnt, 0, [], [], [], none, none, 0, 0, [], r, [], by omega, rfl, Slot.nil _ _, Slot.nil _ _, ⟨fun j hj => by omega, rfl⟩, H⟩, ?_⟩
    clear H
    rintro n h u x1 x1n x1c x2 x2n x2c x3 ⟨i, D, S, R, qd, qs, cd, cs, xs, r', rest', hin, hx, hD, hS, hR, H⟩
    have hi6 : i ≤ 6000 := by omega
    have hok := hJ i hi6
    injection hx with hx1 hx
    injection hx with hx2 hx
    injection hx with hx3 _
    injection hx1 with hx1 hx1n hx1c
    injection hx2 with hx2 hx2n hx2c
    injection hx3 with _ hx3
    subst x1 x1n x1c x2 x2n x2c x3
    have hec : hcell h ⟨e, 1, none⟩ = some (.slice sq slen scap) := H.cell 0 (congrArg some hE.symm) rfl
    refine ldS_of hec ?_
    rcases Nat.lt_or_ge i slen with h1 | h1
    · simp only [decide_eq_true (show ((i : Nat) : Int) < ((slen : Nat) : Int) by omega)]
      refine bcase_true rfl ?_
      rcases Nat.lt_or_ge i 6000 with h2 | h2
      · simp only [decide_eq_true (show ((i : Nat) : Int) < 6000 by omega)]
        refine bcase_true rfl ?_
        obtain ⟨a, rfl, hc, hb⟩ := hv i h1
        simp only [add_zero', add_add', Int.toNat_natCast, ptr_some_eq]
        refine ldS_of hec ?_
        refine needs_of (by omega) ?_
        refine ldI_of (H.fr.cell (by simp) hc) ?_
        refine ldS_of hec ?_
        refine needs_of (by omega) ?_
        refine ldI_of (H.fr.cell (by simp) hb) ?_
        refine bindI_of (((b i : Nat) : Int)) (by exact (bit1_of (B i)).trans (by rw [eb])) ?_
        refine newC_hp H fun t h H => ?_
        have H := H.rot
        try simp only [ptr_some_eq, add_mk, Nat.zero_add, Nat.add_zero]
        refine stV_hp H 0 rfl (by first | exact Nat.le_of_ble_eq_true rfl | simp) rfl fun h hsz H => ?_
        refine stV_hp H 0 rfl (by first | exact Nat.le_of_ble_eq_true rfl | simp) rfl fun h hsz H => ?_
        have H : Hp hB [] h ([⟨t, true, T_burinlaw4_Decision, [.int .i64 (C i), .int .i64 (b i : Nat)]⟩] ++ ([E] ++ codL p q r' (codN k b m i) rest' ++ (D ++ (S ++ R)))) := H
        refine ldI_of (H.cell 0 rfl rfl) ?_
        refine ldI_of (H.cell 0 rfl rfl) ?_
        refine put_ok (H.give [2, 3, 4] (by decide) rfl) hok.wf hok.done (by rw [hok.n]; omega) (by rw [hok.len]; omega) (by rw [hok.len]; omega) (hbl i) fun r2 rest2 h' H' => ?_
        rw [hok.len, ek, show putM (codN k b m i) (k i) (b i) = codN k b m (i + 1) from rfl] at H'
        replace H := H.put [2,3,4] (by decide) rfl (by first | rfl | simp_all [decL, decE, codL, codE, BOk]) H' (by first | rfl | simp_all [decL, decE, codL, codE, BOk]) rfl
        clear H'
        have H : Hp hB [] h' ([⟨t, true, T_burinlaw4_Decision, [.int .i64 (C i), .int .i64 (b i : Nat)]⟩] ++ ([E] ++ codL p q r2 (codN k b m (i + 1)) rest2 ++ (D ++ (S ++ R)))) := H
        refine ⟨_, rfl, ?_⟩
        refine bcase_false (by rfl) ?_
        refine ldI_of (H.cell 0 rfl rfl) ?_
        refine ldI_of (H.cell 0 rfl rfl) ?_
        have H := H.suf
        refine newC_hp H fun t2 h H => ?_
        have H := H.rot
        have hr := rdO_hp H 0 (o := 0) (n := 1 * 2) rfl (Nat.le_refl _)
        have H := (H.as (L' := ([⟨t2, true, T_burinlaw4_Decision, [.int .i64 (C i), .int .i64 (b i : Nat)]⟩] ++ ([E] ++ codL p q r2 (codN k b m (i + 1)) rest2)) ++ (D ++ (S ++ R))) (by simp only [List.append_assoc]))
        refine hD.app H rfl hr rfl (fun v hv => by simp at hv; rcases hv with rfl | rfl <;> rfl) (Nat.le_refl _) (by omega) fun D' qd' cd' h' hD' H => ?_
        have hD' : Slot T_burinlaw4_Decision 2 D' qd' (i + 1) cd' (decs C b (i + 1)) := hD'
        have H : Hp hB [] h' ([E] ++ codL p q r2 (codN k b m (i + 1)) rest2 ++ (D' ++ (S ++ R))) := (H.as (by simp only [List.append_assoc])).suf (X := [⟨t2, true, T_burinlaw4_Decision, [.int .i64 (C i), .int .i64 (b i : Nat)]⟩])
        have hok2 := hJ (i + 1) (by omega)
        rcases Nat.lt_or_ge i 600 with h3 | h3
        · simp only [decide_eq_true (show ((i : Nat) : Int) < 600 by omega)]
          refine bcase_true rfl ?_
          try simp only [ptr_some_eq, add_mk, Nat.zero_add, Nat.add_zero]
          refine states_ok (st := (codN k b m (i + 1)).st) H 1 2 rfl rfl (by rw [hok2.len]; omega) (by rw [hok2.len]; omega) fun o orest h H => ?_
          refine ⟨_, _, _, rfl, ?_⟩
          refine newC_hp H fun t3 h H => ?_
          have H := H.rot
          have hr := rdO_hp H 0 (o := 0) (n := 1 * 1) rfl (Nat.le_refl _)
          have H := (H.as (L' := ([⟨t3, true, T_s_uint8, [.slice (some ⟨o, 0, none⟩) (codN k b m (i + 1)).st.length ((codN k b m (i + 1)).st.length + orest.length)]⟩] ++ ([E] ++ codL p q r2 (codN k b m (i + 1)) rest2 ++ D')) ++ (S ++ (R ++ [⟨o, true, T_uint8, u8s (codN k b m (i + 1)).st ++ orest⟩]))) (by simp only [List.append_assoc]))
          have hmin : min i 600 = i := by omega
          have hmin' : min (i + 1) 600 = i + 1 := by omega
          rw [hmin] at hS hR ⊢
          refine hS.app H rfl hr rfl (fun v hv => by simp at hv; subst hv; rfl) (Nat.le_refl _) (by omega) fun S' qs' cs' h' hS' H => ?_
          have H : Hp hB [] h' ([E] ++ codL p q r2 (codN k b m (i + 1)) rest2 ++ (D' ++ (S' ++ (R ++ [⟨o, true, T_uint8, u8s (codN k b m (i + 1)).st ++ orest⟩])))) := (H.as (by simp only [List.append_assoc])).suf (X := [⟨t3, true, T_s_uint8, [.slice (some ⟨o, 0, none⟩) (codN k b m (i + 1)).st.length ((codN k b m (i + 1)).st.length + orest.length)]⟩])
          refine bindI_of (((i + 1 : Nat) : Int)) (by exact i64_at _ _ (by omega) (by omega) (by omega)) ?_
          refine ⟨n - 1, by omega, i + 1, D', S', _, qd', qs', cd', cs', _, r2, rest2, by omega, by rw [hmin'], hD', by rw [hmin']; exact hS', ?_, H⟩
          rw [hmin']
          refine ⟨fun j hj => ?_, by rw [List.all_append, hR.w]; rfl⟩
          have hxl : xs.length = i := by have := hS.1; omega
          rcases Nat.lt_or_ge j i with h4 | h4
          · obtain ⟨b1, rest1, g1, g2⟩ := hR.row j h4
            exact ⟨b1, rest1, List.mem_append_left _ g1, get_app g2⟩
          · have : j = i := by omega
            subst this
            have hg := app_get (T := (List.drop 0 [Value.slice (at0 o) (codN k b m (j + 1)).st.length ((codN k b m (j + 1)).st.length + orest.length)]).take (1 * 1)) (m := j) hxl 0 rfl
            exact ⟨o, orest, List.mem_append_right _ (by simp), hg.trans (by rw [hok2.len])⟩
        · simp only [decide_eq_false (show ¬ ((i : Nat) : Int) < 600 by omega)]
          refine bcase_false rfl ?_
          refine bindI_of (((i + 1 : Nat) : Int)) (by exact i64_at _ _ (by omega) (by omega) (by omega)) ?_
          have hmin : min (i + 1) 600 = min i 600 := by omega
          exact ⟨n - 1, by omega, i + 1, D', S, R, qd', qs, cd', cs, xs, r2, rest2, by omega, by rw [hmin], hD', by rw [hmin]; exact hS, by rw [hmin]; exact hR, H⟩
      · simp only [decide_eq_false (show ¬ ((i : Nat) : Int) < 6000 by omega)]
        have : i = cnt := by omega
        subst this
        exact ⟨D, S, R, qd, qs, cd, cs, xs, r', rest', rfl, hD, hS, hR, H⟩
    · simp only [decide_eq_false (show ¬ ((i : Nat) : Int) < ((slen : Nat) : Int) by omega)]
      have : i = cnt := by omega
      subst this
      exact ⟨D, S, R, qd, qs, cd, cs, xs, r', rest', rfl, hD, hS, hR, H⟩
  · clear H
    rintro h u x1 x1n x1c x2 x2n x2c ⟨D, S, R, qd, qs, cd, cs, xs, r', rest', hx, hD, hS, hR, H⟩
    injection hx with hx1 hx
    injection hx with hx2 _
    injection hx1 with hx1 hx1n hx1c
    injection hx2 with hx2 hx2n hx2c
    subst x1 x1n x1c x2 x2n x2c
    have hcn : cnt ≤ 6000 := by omega
    have hok := hJ cnt hcn
    refine flush_ok (H.give [1, 2, 3] (by decide) rfl) hok.wf hok.done fun r3 rest3 o orest h' H' => ?_
    replace H := H.back [1,2,3] (by decide) rfl rfl H' (by first | rfl | simp_all [decL, decE, codL, codE, BOk]) (Nat.le_of_ble_eq_true rfl)
    clear H'
    refine ⟨_, _, _, _, rfl, ?_⟩
    have hwf := codN_wf k b m cnt (fun i _ => hbl i) cnt (Nat.le_refl _) (by omega)
    have hlt : ∀ x ∈ bytesM (flushM (codN k b m cnt)), x < 256 := flushM_lt hok.wf
    have hstf := stf_flush (codN_stf k b m cnt (fun i _ => hbl i) cnt (Nat.le_refl _) (by omega)) hwf.1
    have hbits : ∀ i, i < cnt → (getD (decN k (bytesM (flushM (codN k b m cnt))) m i) (k i)).2 = b i := fun i hi => back_bit k b m cnt (fun i _ => hbl i) (by omega) hlt hi
    have hsts : ∀ i, i ≤ cnt → (decN k (bytesM (flushM (codN k b m cnt))) m i).st = (codN k b m i).st := fun i hi => (back_run k b m cnt (fun i _ => hbl i) (by omega) hlt i hi).st
    have hst := (flushM_keep (codN k b m cnt)).1
    have hfl := fl_len hok (by omega)
    have hff := fun i hi => bytes_ff hstf (i := i) hi
    clear hstf
    have H := (H.as (L' := ([E] ++ codL p q r3 (flushM (codN k b m cnt)) rest3 ++ (D ++ (S ++ R))) ++ [⟨o, true, T_uint8, u8s (bytesM (flushM (codN k b m cnt))) ++ orest⟩]) rfl).rot
    generalize bytesM (flushM (codN k b m cnt)) = bs at H hlt hbits hsts hfl hff ⊢
    generalize flushM (codN k b m cnt) = FF at H hst ⊢
    refine newDecoder_ok hm1 hm2 hlt hfl (row_rdO H 0 rfl) fun p' q' eb bp bc h' hbo H' => ?_
    refine ⟨_, _, rfl, ?_⟩
    replace H := (H.join H' (by simp [decL, decE, hbo.1])).rot
    clear H'
    have H : Hp hB [] h' (decL p' q' eb bp bc (newD bs m) ++ ([⟨o, true, T_uint8, u8s bs ++ orest⟩] ++ ([E] ++ codL p q r3 FF rest3 ++ (D ++ (S ++ R))))) := H
    refine bcase_false (by rfl) ?_
    refine bcase_false (by rfl) ?_
    refine bcase_false (by rfl) ?_
    refine ⟨fun n vs h'' => ∃ i : Nat, i + n = bs.length ∧ vs = [.int .i64 (i : Int)] ∧ h'' = h', ⟨bs.length, 0, by omega, rfl, rfl⟩, ?_⟩
    rintro n h u x ⟨i, hin, hx, rfl⟩
    injection hx with hx
    injection hx with _ hx
    subst hx
    rcases Nat.lt_or_ge i bs.length with h1 | h1
    · simp only [decide_eq_true (show ((i : Nat) : Int) < ((bs.length : Nat) : Int) by omega)]
      refine bcase_true rfl ?_
      refine needs_of (by omega) ?_
      simp only [ptr_some_eq, add_mk, Nat.zero_add, Int.toNat_natCast, Nat.mul_one]
      have hg : bs[i]? = some bs[i] := List.getElem?_eq_getElem h1
      refine ldI_of (H.cell 3 rfl (get_app (u8s_get hg))) ?_
      refine bcase_of (fun h2 => ?_) fun h2 => ?_
      · have h2 : bs[i] = 255 := by simp at h2; omega
        rw [h2] at hg
        obtain ⟨g1, g2⟩ := hff i hg
        refine bindI_of (((bs.length - 1 : Nat) : Int)) (by exact i64_at _ _ (by omega) (by omega) (by omega)) ?_
        refine bcase_false (by simp; omega) ?_
        refine bindI_of (((i + 1 : Nat) : Int)) (by exact i64_at _ _ (by omega) (by omega) (by omega)) ?_
        refine needs_of (by omega) ?_
        simp only [ptr_some_eq, add_mk, Nat.zero_add, Int.toNat_natCast, Nat.mul_one]
        have hg2 : bs[i + 1]? = some bs[i + 1] := List.getElem?_eq_getElem g1
        have hy := g2 _ hg2
        refine ldI_of (H.cell 3 rfl (get_app (u8s_get hg2))) ?_
        refine bcase_false (by simp; omega) ?_
        refine bindI_of (((i + 1 : Nat) : Int)) (by exact i64_at _ _ (by omega) (by omega) (by omega)) ?_
        exact ⟨n - 1, by omega, i + 1, by omega, rfl, by first | rfl | trivial⟩
      · refine bindI_of (((i + 1 : Nat) : Int)) (by exact i64_at _ _ (by omega) (by omega) (by omega)) ?_
        exact ⟨n - 1, by omega, i + 1, by omega, rfl, by first | rfl | trivial⟩
    · simp only [decide_eq_false (show ¬ ((i : Nat) : Int) < ((bs.length : Nat) : Int) by omega)]
      refine bcase_false rfl ?_
      refine ⟨fun n vs h' => ∃ i : Nat, i + n = cnt ∧ vs = [.int .i64 (i : Int)] ∧ Hp hB [] h' (decL p' q' eb bp bc (decN k bs m i) ++ ([⟨o, true, T_uint8, u8s bs ++ orest⟩] ++ ([E] ++ codL p q r3 FF rest3 ++ (D ++ (S ++ R))))), ⟨cnt, 0, by omega, rfl, H⟩, ?_⟩
      clear H
      rintro n h u x ⟨i, hin, hx, H⟩
      injection hx with hx
      injection hx with _ hx
      subst hx
      have hokd := decN_ok k hlt m i (by omega)
      rcases Nat.lt_or_ge i cnt with h1 | h1
      · simp only [decide_eq_true (show ((i : Nat) : Int) < ((cnt : Nat) : Int) by omega)]
        refine bcase_true rfl ?_
        refine needs_of (by omega) ?_
        obtain ⟨gd1, gd2⟩ := decs_get C b h1
        have hD0 : ∀ {h : Heap} {s : Dec}, Hp hB [] h (decL p' q' eb bp bc s ++ ([⟨o, true, T_uint8, u8s bs ++ orest⟩] ++ ([E] ++ codL p q r3 FF rest3 ++ (D ++ (S ++ R))))) →
            Hp hB [] h ((decL p' q' eb bp bc s ++ ([⟨o, true, T_uint8, u8s bs ++ orest⟩] ++ ([E] ++ codL p q r3 FF rest3))) ++ (D ++ (S ++ R))) ∧ Hp hB [] h ((decL p' q' eb bp bc s ++ ([⟨o, true, T_uint8, u8s bs ++ orest⟩] ++ ([E] ++ codL p q r3 FF rest3)) ++ D) ++ (S ++ R)) :=
          fun H => ⟨H.as (by simp only [List.append_assoc]), H.as (by simp only [List.append_assoc])⟩
        obtain ⟨bd, hqd, hc1⟩ := hD.cell (hD0 H).1 gd1
        subst hqd
        simp only [ptr_some_eq, add_mk, Nat.zero_add, Int.toNat_natCast, Nat.add_zero]
        refine ldI_of hc1 ?_
        refine get_ok (H.give [0, 1, 2] (by decide) rfl) (by rw [hokd.b]; exact hbo) hokd.wf (by rw [hokd.b]; exact hfl) (by rw [hokd.n]; omega) (by rw [hokd.len]; omega) (by rw [hokd.len]; omega) fun h' H' => ?_
        rw [hokd.len, ek] at H' ⊢
        rw [show (getD (decN k bs m i) (k i)).1 = decN k bs m (i + 1) from rfl] at H'
        replace H := H.put [0, 1, 2] (by decide) rfl (by simp [decL, decE, hbo.1]) H' (by simp [decL, decE, hbo.1]) rfl
        clear H'
        have H : Hp hB [] h' (decL p' q' eb bp bc (decN k bs m (i + 1)) ++ ([⟨o, true, T_uint8, u8s bs ++ orest⟩] ++ ([E] ++ codL p q r3 FF rest3 ++ (D ++ (S ++ R))))) := H
        refine ⟨_, _, rfl, ?_⟩
        refine needs_of (by omega) ?_
        obtain ⟨bd', hqd', hc2⟩ := hD.cell (hD0 H).1 gd2
        injection hqd' with hqd'
        injection hqd' with hqd'
        subst hqd'
        refine ldI_of hc2 ?_
        rw [hbits i h1]
        refine bcase_false (by simp) ?_
        refine bcase_false (by rfl) ?_
        rcases Nat.lt_or_ge i 600 with h3 | h3
        · simp only [decide_eq_true (show ((i : Nat) : Int) < 600 by omega)]
          refine bcase_true rfl ?_
          try simp only [ptr_some_eq, add_mk, Nat.zero_add, Nat.add_zero]
          refine needs_of (by omega) ?_
          obtain ⟨b1, rest1, g1, g2⟩ := hR.row i (by omega)
          obtain ⟨bs', hqs, hc3⟩ := hS.cell (hD0 H).2 g2
          subst hqs
          simp only [ptr_some_eq, add_mk, Nat.zero_add, Int.toNat_natCast, Nat.mul_one]
          refine ldS_of hc3 ?_
          have hokd2 := decN_ok k hlt m (i + 1) (by omega)
          refine states_ok (st := (decN k bs m (i + 1)).st) H.look 0 1 rfl rfl (by rw [hokd2.len]; omega) (by rw [hokd2.len]; omega) fun o2 orest2 h2 H2 => ?_
          refine ⟨_, _, _, rfl, H2.hext, ?_⟩
          have H3 := H.join H2.suf rfl
          have hlen2 : (codN k b m (i + 1)).st.length = m := (hJ (i + 1) (by omega)).len
          have hr1 : rdO h2 (at0 o2) ((decN k bs m (i + 1)).st.length * 1) (u8s (decN k bs m (i + 1)).st) := H3.rdO_mem (rest := orest2) (List.mem_append_right _ (List.mem_singleton.2 rfl)) (by rw [u8s_length, Nat.mul_one])
          have hr2 : rdO h2 (at0 b1) (m * 1) (u8s (codN k b m (i + 1)).st) := H3.pre.suf.suf.suf.suf.suf.rdO_mem (rest := rest1) g1 (by rw [u8s_length, Nat.mul_one, hlen2])
          refine eq_ok' rfl hlen2 hr1 hr2 (by rw [hokd2.len]; omega) ?_
          refine ⟨_, rfl, ?_⟩
          rw [hsts (i + 1) (by omega)]
          refine bcase_false (by simp) ?_
          refine bindI_of (((i + 1 : Nat) : Int)) (by exact i64_at _ _ (by omega) (by omega) (by omega)) ?_
          exact ⟨n - 1, by omega, i + 1, by omega, rfl, H3.pre⟩
        · simp only [decide_eq_false (show ¬ ((i : Nat) : Int) < 600 by omega)]
          refine bcase_false rfl ⟨hext.refl _, ?_⟩
          refine bindI_of (((i + 1 : Nat) : Int)) (by exact i64_at _ _ (by omega) (by omega) (by omega)) ?_
          exact ⟨n - 1, by omega, i + 1, by omega, rfl, H⟩
      · have hic : i = cnt := by omega
        rw [hic] at H hokd ⊢
        simp only [decide_eq_false (show ¬ ((cnt : Nat) : Int) < ((cnt : Nat) : Int) by omega)]
        refine bcase_false rfl ?_
        try simp only [ptr_some_eq, add_mk, Nat.zero_add, Nat.add_zero]
        refine states_ok (st := FF.st) H 5 6 rfl rfl (by rw [hst, hok.len]; omega) (by rw [hst, hok.len]; omega) fun o1 or1 h H => ?_
        refine ⟨_, _, _, rfl, ?_⟩
        refine states_ok (st := (decN k bs m cnt).st) H 0 1 rfl rfl (by rw [hokd.len]; omega) (by rw [hokd.len]; omega) fun o2 or2 h H => ?_
        refine ⟨_, _, _, rfl, ?_⟩
        have hr1 : rdO h (at0 o1) (FF.st.length * 1) (u8s FF.st) := H.pre.rdO_mem (rest := or1) (List.mem_append_right _ (List.mem_singleton.2 rfl)) (by rw [u8s_length, Nat.mul_one])
        have hr2 : rdO h (at0 o2) ((decN k bs m cnt).st.length * 1) (u8s (decN k bs m cnt).st) := H.rdO_mem (rest := or2) (List.mem_append_right _ (List.mem_singleton.2 rfl)) (by rw [u8s_length, Nat.mul_one])
        refine eq_ok hr1 hr2 (by rw [hst, hok.len]; omega) ?_
        refine ⟨_, rfl, ?_⟩
        refine bcase_true (by exact decide_eq_true (hst.trans (hsts cnt (Nat.le_refl _)).symm)) ?_
        refine wakes_ok fun h' e => ?_
        exact ⟨_, rfl, hk _ (H.hext.trans e)⟩

end Go.Ar
