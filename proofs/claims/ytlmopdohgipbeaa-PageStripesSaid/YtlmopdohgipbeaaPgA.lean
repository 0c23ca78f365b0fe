/- PgA: pages, the program's and the document's; bitmaps that are lent. -/
import Derived.Test.YtlmopdohgipbeaaBmE
import Derived.Test.YtlmopdohgipbeaaBpage
import Derived.Test.YtlmopdohgipbeaaBburinref15
import Derived.Test.YtlmopdohgipbeaaBburinkit
set_option linter.unusedVariables false
set_option linter.unusedSimpArgs false
namespace Go.Bm
open Go Go.Den Go.Den.Ytlmopdohgipbeaa

theorem newC_hpx {h0 h : Heap} {F : List Nat} {L : List Ent} (H : Hp h0 F h L) {t : TypeId} {cs : List Value} {K : Nat → Heap → Prop} (hk : ∀ r h', hext h h' → Hp h0 F h' (L ++ [⟨r, true, t, cs⟩]) → K r h') : newC h cs t K := hk _ _ (hext.push h _) (H.new t cs)
theorem rdO_ext {h h' : Heap} (e : hext h h') {a : Option Addr} {n : Nat} {vs : List Value} (hr : rdO h a n vs) : rdO h' a n vs :=
  Fr.rdO (F := []) ⟨e.1, fun b hb _ => e.2 b hb⟩ (fun _ _ => by simp) hr

theorem setAll_app : ∀ (B0 : List Ent) (ix : List Nat) (L D : List Ent), B0.length = ix.length → setAll L ix (B0 ++ D) = setL L ix B0 ++ D
  | [], [], L, D, _ => by rw [List.nil_append, setAll_nil]; unfold setL; rfl
  | b :: B0, i :: ix, L, D, h => by
    show setAll L (i :: ix) (b :: (B0 ++ D)) = setL L (i :: ix) (b :: B0) ++ D
    unfold setAll setL
    exact setAll_app B0 ix _ D (by simpa using h)
  | [], _ :: _, _, _, h => by cases h
  | _ :: _, [], _, _, h => by cases h
theorem Hp.backD {h0 h h' : Heap} {F : List Nat} {L A B0 D : List Ent} (H : Hp h0 F h L) (ix : List Nat) (hnd : ix.Nodup) (hA : ix.map (fun k => L[k]?) = A.map some) (hw : A.all Ent.w = true) (H' : Hp h (A.map Ent.b) h' (B0 ++ D)) (hB : B0.all Ent.w = true) (hD : D.all Ent.w = true) (hl : B0.length = ix.length) :
    Hp h0 F h' (setL L ix B0 ++ D) := (H.back ix hnd hA hw H' (by rw [List.all_append, hB, hD]; rfl) (by rw [List.length_append]; omega)).as (setAll_app B0 ix L D hl)
theorem Slot.rdO' {h0 h : Heap} {F : List Nat} {L D : List Ent} {t : TypeId} {sz n c : Nat} {q : Option Addr} {xs : List Value} (hd : Slot t sz D q n c xs) (H : Hp h0 F h L) (hs : ∀ e ∈ D, e ∈ L) : rdO h q (n * sz) xs := by
  obtain ⟨hl, ⟨rfl, rfl, rfl, rfl⟩ | ⟨b, rest, rfl, rfl, hc⟩⟩ := hd
  · rw [Nat.zero_mul] at hl ⊢
    rw [List.length_eq_zero_iff.1 hl]
    exact rfl
  · exact H.rdO_mem (hs _ (List.mem_singleton.2 rfl)) hl

/-! ### bitmaps that are lent -/
set_option maxRecDepth 100000 in
theorem lendB_ok {hB : Heap} {w g : Int} {b : Option Addr} {bc : Nat} {ws : List Nat} (hr : rdO hB b (ws.length * 1) (u64s ws)) (hl : ws.length < 1048577) {K : Value → Heap → Prop} {Kp : List PanicEntry → Heap → Prop}
    (hk : ∀ o rest c h', (u64s ws ++ (u64s (List.replicate 7 42405) ++ rest)).length = c → Hp hB [] h' [⟨o, true, T_uint64, u64s ws ++ (u64s (List.replicate 7 42405) ++ rest)⟩] → K (.agg #[.int .i64 w, .int .i64 g, .slice (at0 o) ws.length c]) h') :
    CP F_burinkit_LendBitmap #[.agg #[.int .i64 w, .int .i64 g, .slice b ws.length bc]] hB K Kp := by
  refine call_burinkit_LendBitmap ?_
  unfold burinkit_LendBitmap
  have H := Hp.nil hB []
  refine newC_hp H fun e1 h H => ?_
  refine newC_hp H fun e2 h H => ?_
  try simp only [ptr_some_eq, add_mk, Nat.zero_add, Nat.add_zero]
  refine ldS_of (H.cell 0 rfl rfl) ?_
  obtain ⟨N, hN⟩ : ∃ N, N = ws.length + 7 := ⟨_, rfl⟩
  refine bindI_of (((N : Nat) : Int)) (by exact i64_at _ _ (by omega) (by omega) (by omega)) ?_
  refine needs_of (by simp; omega) ?_
  simp only [Int.toNat_natCast, u64s_zero]
  refine newC_hp H fun r h H => ?_
  refine ldS_of (H.cell 0 rfl rfl) ?_
  refine appC_in H 2 (xs := []) (rest := u64s (List.replicate N 0)) (c := N) rfl rfl (by simp [u64s]) (by simp [hN]) (H.rdO hr) (by rw [u64s_length, Nat.mul_one]) (u64s_cells ws) fun h H => ?_
  generalize hrest : (u64s (List.replicate N 0)).drop (ws.length * 1) = rest at H
  have hrl : rest.length = 7 := by rw [← hrest, List.length_drop, u64s_length, List.length_replicate]; omega
  refine ⟨fun n vs h' => ∃ (i : Nat) (rest : List Value), i + n = 7 ∧ rest.length = n ∧ vs = [.slice (at0 r) (ws.length + i) N, .int .i64 (i : Int)] ∧
      Hp hB [] h' [⟨e1, true, T_api_Bitmap, [.int .i64 w, .int .i64 g, .slice b ws.length bc]⟩, ⟨e2, true, T_api_Bitmap, [.int .i64 0, .int .i64 0, .slice none 0 0]⟩, ⟨r, true, T_uint64, u64s ws ++ u64s (List.replicate i 42405) ++ rest⟩],
    ⟨7, 0, rest, rfl, hrl, by simp, H.as (by simp [u64s])⟩, ?_⟩
  clear H
  rintro n h2 u x xn xc xi ⟨i, rest, hin, hrl, hx, H⟩
  injection hx with hx hx2
  injection hx with hx hxn hxc
  injection hx2 with hx2
  injection hx2 with _ hx2
  subst x xn xc xi
  refine bcase_of (fun h1 => ?_) fun h1 => ?_
  · have h1 : i < 7 := by simp at h1; omega
    refine newC_hp H fun t h H => ?_
    refine appC_in H 2 (xs := u64s ws ++ u64s (List.replicate i 42405)) (rest := rest) (c := N) rfl (by simp [u64s]) (by simp [u64s]; omega) (by omega) (rdO_hp (o := 0) (n := 1 * 1) H 3 rfl (Nat.le_refl _)) rfl (fun v hv => by rw [List.mem_singleton.1 hv]; rfl) fun h H => ?_
    refine bindI_of (((i + 1 : Nat) : Int)) (by exact i64_at _ _ (by omega) (by omega) (by omega)) ?_
    refine ⟨n - 1, by omega, i + 1, rest.drop (1 * 1), by omega, by rw [List.length_drop]; omega, by rw [Nat.add_assoc], ?_⟩
    refine (H.take 3).as ?_
    simp [u64s, List.replicate_succ']
  · have h1 : i = 7 := by simp at h1; omega
    subst h1
    refine ldI_of (H.cell 0 rfl rfl) ?_
    refine ldI_of (H.cell 0 rfl rfl) ?_
    refine ldS_of (H.cell 0 rfl rfl) ?_
    refine needs_of (by omega) ?_
    have e : subA (some ⟨r, 0, none⟩) N 0 1 = some ⟨r, 0, none⟩ := by unfold subA; split <;> rfl
    rw [e]
    simp only [Int.toNat_natCast, Nat.sub_zero]
    refine stV_hp H 1 rfl (by first | exact Nat.le_of_ble_eq_true rfl | simp) rfl fun h hsz H => ?_
    refine stV_hp H 1 rfl (by first | exact Nat.le_of_ble_eq_true rfl | simp) rfl fun h hsz H => ?_
    refine stV_hp H 1 rfl (by first | exact Nat.le_of_ble_eq_true rfl | simp) rfl fun h hsz H => ?_
    refine ldI_of (H.cell 1 rfl rfl) ?_
    refine ldI_of (H.cell 1 rfl rfl) ?_
    refine ldS_of (H.cell 1 rfl rfl) ?_
    refine hk r rest N _ ?_ (H.pick [2] (by decide) (by rw [← List.append_assoc]; rfl))
    simp only [List.length_append, u64s_length, List.length_replicate]
    omega

set_option maxRecDepth 100000 in
theorem backB_ok {h : Heap} {o c : Nat} {w g : Int} {b : Option Addr} {bc : Nat} {ws : List Nat} {rest : List Value} {F : List Nat} {h0 : Heap} (H : Hp h0 F h [⟨o, true, T_uint64, u64s ws ++ (u64s (List.replicate 7 42405) ++ rest)⟩]) (hr : rdO h b (ws.length * 1) (u64s ws)) (hl : ws.length < 1048577)
    (hc : (u64s ws ++ (u64s (List.replicate 7 42405) ++ rest)).length = c)
    {K : Value → Heap → Prop} {Kp : List PanicEntry → Heap → Prop} (hk : ∀ cs h', Hp h0 F h' [⟨o, true, T_uint64, cs⟩] → K (.bool true) h') :
    CP F_burinkit_BackBitmap #[.agg #[.int .i64 w, .int .i64 g, .slice (at0 o) ws.length c], .agg #[.int .i64 w, .int .i64 g, .slice b ws.length bc]] h K Kp := by
  refine call_burinkit_BackBitmap ?_
  unfold burinkit_BackBitmap
  have hlen := hc
  simp only [List.length_append, u64s_length, List.length_replicate] at hlen
  refine newC_hpx H fun e1 h1 x1 H => ?_
  refine newC_hpx H fun e2 h2 x2 H => ?_
  have hr := rdO_ext x2 (rdO_ext x1 hr)
  try simp only [ptr_some_eq, add_mk, Nat.zero_add, Nat.add_zero]
  refine ldI_of (H.cell 1 rfl rfl) ?_
  refine ldI_of (H.cell 1 rfl rfl) ?_
  refine ldS_of (H.cell 1 rfl rfl) ?_
  refine ldI_of (H.cell 2 rfl rfl) ?_
  refine ldI_of (H.cell 2 rfl rfl) ?_
  refine ldS_of (H.cell 2 rfl rfl) ?_
  refine eqB_ok (xs := ws) (ys := ws) (row_rdO H 0 rfl) hr (by omega) fun h3 x3 => ?_
  have H := H.ext x3
  refine ⟨_, rfl, ?_⟩
  simp only [decide_true, and_self]
  refine ldS_of (H.cell 1 rfl rfl) ?_
  refine ldS_of (H.cell 2 rfl rfl) ?_
  refine bindI_of (((ws.length + 7 : Nat) : Int)) (by exact i64_at _ _ (by omega) (by omega) (by omega)) ?_
  refine needs_of (by omega) ?_
  refine ldS_of (H.cell 2 rfl rfl) ?_
  have e : subA (some ⟨o, 0, none⟩) c 0 1 = some ⟨o, 0, none⟩ := by unfold subA; split <;> rfl
  rw [e]
  simp only [Int.toNat_natCast, Nat.sub_zero]
  refine ⟨fun n vs h' => ∃ i : Nat, i + n = 7 ∧ vs = [.bool true, .int .i64 ((ws.length + i : Nat) : Int)] ∧ h' = h3, ⟨7, 0, rfl, rfl, rfl⟩, ?_⟩
  rintro n h2 u ok x ⟨i, hin, hx, rfl⟩
  injection hx with hx hx2
  injection hx with hx
  injection hx2 with hx2
  injection hx2 with _ hx2
  subst ok x
  refine bcase_of (fun h1 => ?_) fun h1 => ?_
  · have h1 : i < 7 := by simp at h1; omega
    refine bcase_true (by rfl) ?_
    refine needs_of (by omega) ?_
    simp only [ptr_some_eq, add_mk, Nat.zero_add, Int.toNat_natCast, Nat.mul_one]
    have hg : (u64s (List.replicate 7 42405))[i]? = some (.int .u64 ((42405 : Nat) : Int)) := u64s_get (by rw [List.getElem?_replicate, if_pos h1])
    refine ldI_of (H.cell 0 rfl (app_get (u64s_length ws) i (get_app hg))) ?_
    refine bindI_of (((ws.length + (i + 1) : Nat) : Int)) (by exact i64_at _ _ (by omega) (by omega) (by omega)) ?_
    exact ⟨n - 1, by omega, i + 1, by omega, rfl, by first | rfl | trivial⟩
  · have h1 : i = 7 := by simp at h1; omega
    subst h1
    have H := H.pre.pre
    refine ⟨fun n vs h' => ∃ (i : Nat) (cs : List Value), i + n = ws.length + 7 ∧ vs = [.int .i64 (i : Int)] ∧ cs.length = c ∧ Hp h0 F h' [⟨o, true, T_uint64, cs⟩], ⟨ws.length + 7, 0, _, by omega, rfl, hc, H⟩, ?_⟩
    clear H hr
    rintro n h2 u x ⟨i, cs, hin, hx, hcl, H⟩
    injection hx with hx
    injection hx with _ hx
    subst hx
    refine bcase_of (fun h1 => ?_) fun h1 => ?_
    · have h1 : i < ws.length + 7 := by simp at h1; omega
      refine needs_of (by omega) ?_
      simp only [ptr_some_eq, add_mk, Nat.zero_add, Int.toNat_natCast, Nat.mul_one]
      refine stV_hp H 0 rfl (by omega) rfl fun h hsz H => ?_
      refine bindI_of (((i + 1 : Nat) : Int)) (by exact i64_at _ _ (by omega) (by omega) (by omega)) ?_
      exact ⟨n - 1, by omega, i + 1, _, by omega, rfl, by rw [List.length_set]; exact hcl, H⟩
    · exact hk _ _ H

/-- Words that are written over; the slice may be none. -/
theorem overW_ok {h : Heap} {q : Option Addr} {n c : Nat} {F : List Nat} {h0 : Heap} {A D : List Ent} {xs : List Value} (H : Hp h0 F h (A ++ D)) (hd : Slot T_uint64 1 D q n c xs) (hl : n ≤ 1048577)
    {K : Value → Heap → Prop} {Kp : List PanicEntry → Heap → Prop} (hk : ∀ h', Hp h0 F h' A → K (.tuple #[]) h') : CP F_burinkit_OverWords #[.slice q n c] h K Kp := by
  refine call_burinkit_OverWords ?_
  unfold burinkit_OverWords
  refine ⟨fun m vs h' => ∃ (i : Nat) (D : List Ent) (xs : List Value), i + m = n ∧ vs = [.int .i64 (i : Int)] ∧ Slot T_uint64 1 D q n c xs ∧ Hp h0 F h' (A ++ D), ⟨n, 0, D, xs, by omega, rfl, hd, H⟩, ?_⟩
  clear H hd
  rintro m h u x ⟨i, D, xs, him, hx, hd, H⟩
  injection hx with hx
  injection hx with _ hx
  subst hx
  have hA : ∀ e : Ent, (A ++ [e])[A.length]? = some e := fun e => List.getElem?_concat_length
  refine bcase_dec (fun h1 => ?_) fun h1 => ?_
  · have h1 : i < n := by omega
    refine needs_of (by omega) ?_
    obtain ⟨hxl, ⟨rfl, rfl, rfl, rfl⟩ | ⟨b, rest, rfl, rfl, hc⟩⟩ := hd
    · omega
    simp only [ptr_some_eq, add_mk, Nat.zero_add, Int.toNat_natCast, Nat.mul_one]
    refine stV_hp H A.length (hA _) (by simp; omega) rfl fun h hsz H => ?_
    refine bindI_of (((i + 1 : Nat) : Int)) (by exact i64_at _ _ (by omega) (by omega) (by omega)) ?_
    refine ⟨m - 1, by omega, i + 1, [⟨b, true, T_uint64, xs.set i (.int .u64 23130) ++ rest⟩], _, by omega, rfl, ⟨by rw [List.length_set]; exact hxl, .inr ⟨b, rest, rfl, rfl, by simpa using hc⟩⟩, H.as ?_⟩
    rw [List.set_append_right _ _ (Nat.le_refl _), Nat.sub_self, List.set_append_left _ _ (by omega)]
    rfl
  · have h1 : i = n := by omega
    refine newC_hp H fun t h H => ?_
    have H := H.rot
    have hr := rdO_hp H 0 (b := t) (w := true) (t := T_uint64) (o := 0) (n := 2 * 1) (cs := [.int .u64 1, .int .u64 2]) rfl (Nat.le_refl _)
    have H : Hp h0 F h (([⟨t, true, T_uint64, [.int .u64 1, .int .u64 2]⟩] ++ A) ++ (D ++ [])) := H.as (by simp)
    refine hd.app H rfl hr rfl (fun v hv => by simp at hv; rcases hv with rfl | rfl <;> rfl) (by decide) (by omega) fun D' q' c' h hd' H => ?_
    refine needs_of (by omega) ?_
    obtain ⟨hxl, ⟨rfl, rfl, h2, rfl⟩ | ⟨b, rest, rfl, rfl, hc⟩⟩ := hd'
    · omega
    simp only [ptr_some_eq, add_mk, Nat.zero_add, Int.toNat_natCast, Nat.mul_one]
    have H : Hp h0 F h (([⟨t, true, T_uint64, [.int .u64 1, .int .u64 2]⟩] ++ A) ++ [⟨b, true, T_uint64, xs ++ [.int .u64 1, .int .u64 2] ++ rest⟩]) := H.as (by simp)
    refine stV_hp H ([(⟨t, true, T_uint64, [.int .u64 1, .int .u64 2]⟩ : Ent)] ++ A).length List.getElem?_concat_length (by
      rw [List.length_append]
      have : (xs ++ [Value.int .u64 1, .int .u64 2]).length = n + 2 := by rw [← Nat.mul_one (n + 2)]; exact hxl
      omega) rfl fun h hsz H => ?_
    rw [List.set_append_right _ _ (Nat.le_refl _), Nat.sub_self] at H
    exact hk _ (Hp.suf (X := [_]) H.pre)

/-! ### sheets -/
def SheetP (w g d s : Int) : Prop := SizeP w g ∧ (d = 0 ∨ d = 1) ∧ 0 ≤ s ∧ s ≤ 1048576
theorem psized_ok {h : Heap} {w h' : Int} {K : Value → Heap → Prop} {Kp : List PanicEntry → Heap → Prop} (hk : ∀ b : Bool, (b = true ↔ SizeP w h') → K (.bool b) h) : CP F_page_sized #[.int .i64 w, .int .i64 h'] h K Kp := by
  refine call_page_sized ?_
  unfold page_sized
  refine bcase_dec (fun h1 => ?_) fun h1 => hk false (by simp [SizeP]; omega)
  refine bcase_dec (fun h2 => ?_) fun h2 => hk false (by simp [SizeP]; omega)
  refine bcase_dec (fun h3 => ?_) fun h3 => hk false (by simp [SizeP]; omega)
  refine bcase_dec (fun h4 => ?_) fun h4 => hk false (by simp [SizeP]; omega)
  obtain ⟨g1, g2⟩ := prod_le h1 h2 h3 h4
  refine bindI_of ((w * h')) (by exact i64_in _ (by omega) (by omega)) ?_
  exact hk _ (by simp [SizeP]; omega)
theorem within_ok {h : Heap} {n : Int} {K : Value → Heap → Prop} {Kp : List PanicEntry → Heap → Prop} (hk : ∀ b : Bool, (b = true ↔ 0 ≤ n ∧ n ≤ 1048576) → K (.bool b) h) : CP F_page_within #[.int .i64 n] h K Kp := by
  refine call_page_within ?_
  unfold page_within
  refine bcase_dec (fun h1 => ?_) fun h1 => hk false (by simp; omega)
  exact hk _ (by simp; omega)
theorem sheet_ok {hB : Heap} {w g d s : Int} {K : Value → Heap → Prop} {Kp : List PanicEntry → Heap → Prop} (hk : ∀ (b : Bool) h, (b = true ↔ SheetP w g d s) → hext hB h → K (.bool b) h) : CP F_page_sheet #[.agg #[.int .i64 w, .int .i64 g, .int .i64 d, .int .i64 s]] hB K Kp := by
  refine call_page_sheet ?_
  unfold page_sheet
  have H := Hp.nil hB []
  refine newC_hp H fun r h H => ?_
  try simp only [ptr_some_eq, add_mk, Nat.zero_add, Nat.add_zero]
  refine ldI_of (H.cell 0 rfl rfl) ?_
  refine ldI_of (H.cell 0 rfl rfl) ?_
  refine psized_ok fun b hb => ?_
  refine ⟨_, rfl, ?_⟩
  refine bcase_of (fun h1 => ?_) fun h1 => ?_
  · have hs := hb.1 h1
    refine ldI_of (H.cell 0 rfl rfl) ?_
    refine bcase_eq (fun h2 => ?_) fun h2 => ?_
    · refine ldI_of (H.cell 0 rfl rfl) ?_
      refine within_ok fun b2 hb2 => ?_
      exact ⟨_, rfl, hk _ _ (by rw [hb2]; exact ⟨fun h => ⟨hs, .inl h2, h⟩, fun h => h.2.2⟩) H.hext⟩
    · refine ldI_of (H.cell 0 rfl rfl) ?_
      refine bcase_eq (fun h3 => ?_) fun h3 => ?_
      · refine ldI_of (H.cell 0 rfl rfl) ?_
        refine within_ok fun b2 hb2 => ?_
        exact ⟨_, rfl, hk _ _ (by rw [hb2]; exact ⟨fun h => ⟨hs, .inr h3, h⟩, fun h => h.2.2⟩) H.hext⟩
      · exact hk false _ ⟨(fun h => Bool.noConfusion h), fun h => by rcases h.2.1 with h4 | h4; exact absurd h4 h2; exact absurd h4 h3⟩ H.hext
  · exact hk false _ ⟨(fun h => Bool.noConfusion h), fun h => by rw [hb.2 h.1] at h1; cases h1⟩ H.hext
theorem maySheet_ok {hB : Heap} {w g d s : Int} {K : Value → Heap → Prop} {Kp : List PanicEntry → Heap → Prop} (hk : ∀ (b : Bool) h, (b = true ↔ SheetP w g d s) → hext hB h → K (.bool b) h) : CP F_burinref15_MaySheet #[.agg #[.int .i64 w, .int .i64 g, .int .i64 d, .int .i64 s]] hB K Kp := by
  refine call_burinref15_MaySheet ?_
  unfold burinref15_MaySheet
  have H := Hp.nil hB []
  refine newC_hp H fun r h H => ?_
  try simp only [ptr_some_eq, add_mk, Nat.zero_add, Nat.add_zero]
  refine ldI_of (H.cell 0 rfl rfl) ?_
  refine ldI_of (H.cell 0 rfl rfl) ?_
  refine rsize_ok fun b hb => ?_
  refine ⟨_, rfl, ?_⟩
  refine bcase_of (fun h1 => ?_) fun h1 => ?_
  · have hs := hb.1 h1
    refine ldI_of (H.cell 0 rfl rfl) ?_
    refine bcase_eq (fun h2 => ?_) fun h2 => ?_
    · refine ldI_of (H.cell 0 rfl rfl) ?_
      refine bcase_dec (fun h4 => ?_) fun h4 => ?_
      · refine ldI_of (H.cell 0 rfl rfl) ?_
        exact hk _ _ (by rw [decide_eq_true_eq]; exact ⟨fun h => ⟨hs, .inl h2, h4, h⟩, fun h => h.2.2.2⟩) H.hext
      · exact hk false _ ⟨(fun h => Bool.noConfusion h), fun h => absurd h.2.2.1 (by omega)⟩ H.hext
    · refine ldI_of (H.cell 0 rfl rfl) ?_
      refine bcase_eq (fun h3 => ?_) fun h3 => ?_
      · refine ldI_of (H.cell 0 rfl rfl) ?_
        refine bcase_dec (fun h4 => ?_) fun h4 => ?_
        · refine ldI_of (H.cell 0 rfl rfl) ?_
          exact hk _ _ (by rw [decide_eq_true_eq]; exact ⟨fun h => ⟨hs, .inr h3, h4, h⟩, fun h => h.2.2.2⟩) H.hext
        · exact hk false _ ⟨(fun h => Bool.noConfusion h), fun h => absurd h.2.2.1 (by omega)⟩ H.hext
      · exact hk false _ ⟨(fun h => Bool.noConfusion h), fun h => by rcases h.2.1 with h4 | h4; exact absurd h4 h2; exact absurd h4 h3⟩ H.hext
  · exact hk false _ ⟨(fun h => Bool.noConfusion h), fun h => by rw [hb.2 h.1] at h1; cases h1⟩ H.hext

/-! ### a page -/
structure Pg where
  W : Nat
  X : Nat
  d : Nat
  s : Nat
  ws : List Nat
  nx : Nat
  dn : Bool
structure PgOk (g : Pg) : Prop where
  size : SizeP (g.W : Int) (g.X : Int)
  len : g.ws.length = g.X * wds g.W
  w : W64 g.ws
  nx : g.nx ≤ g.X
  s : g.s ≤ 1048576
theorem PgOk.b {g : Pg} (h : PgOk g) : 1 ≤ g.W ∧ g.W ≤ 1048576 ∧ 1 ≤ g.X ∧ g.X ≤ 1048576 ∧ 1 ≤ g.ws.length ∧ g.ws.length ≤ 1048576 := by
  obtain ⟨W', X', e1, e2, hW1, hW2, hX1, hX2, hWX⟩ := size_nat h.size
  have e1 : g.W = W' := by omega
  have e2 : g.X = X' := by omega
  rw [h.len, e1, e2]
  have := hw_le hW1 hWX
  have h1 : 1 ≤ X' * wds W' := Nat.mul_pos hX1 (wds_pos hW1)
  omega
def pgE (p m : Nat) (g : Pg) : Ent := ⟨p, true, T_page_Page, [.int .i64 (g.W : Nat), .int .i64 (g.X : Nat), .int .i64 (g.d : Nat), .int .i64 (g.s : Nat), .pointer (at0 m), .int .i64 (g.nx : Nat), .bool g.dn]⟩
def pgL (p m q : Nat) (rest : List Value) (g : Pg) : List Ent := pgE p m g :: mapL m q g.W g.X g.ws rest
def rfE (p q c : Nat) (g : Pg) : Ent := ⟨p, true, T_burinref15_Page, [.int .i64 (g.W : Nat), .int .i64 (g.X : Nat), .int .i64 (g.d : Nat), .int .i64 (g.s : Nat), .int .i64 (g.W : Nat), .int .i64 (g.X : Nat), .slice (at0 q) g.ws.length c, .int .i64 (g.nx : Nat), .bool g.dn]⟩
def rfL (p q c : Nat) (rest : List Value) (g : Pg) : List Ent := [rfE p q c g, ⟨q, true, T_uint64, u64s g.ws ++ rest⟩]

/-- All pixels of one colour. -/
def FullP (W X d : Nat) (R : List Nat) : Prop := R.length = X * wds W ∧ W64 R ∧ ∀ Y, Y < X → ∀ x', x' < 64 * wds W → pix R (wds W) x' Y = decide (d = 1 ∧ x' < W)
theorem FullP.eq {W X d : Nat} {R R' : List Nat} (h : FullP W X d R) (h' : FullP W X d R') : R = R' :=
  pix_ext h.1 h'.1 h.2.1 h'.2.1 fun y hy x hx => by rw [h.2.2 y hy x hx, h'.2.2 y hy x hx]
theorem pix_zero (n wd x y : Nat) : pix (List.replicate n 0) wd x y = false := by
  unfold pix
  rw [List.getD_eq_getElem?_getD]
  cases h : (List.replicate n 0)[y * wd + x / 64]? with
  | none => exact Nat.zero_testBit _
  | some v => rw [(List.mem_replicate.1 (List.mem_of_getElem? h)).2]; exact Nat.zero_testBit _

set_option maxRecDepth 100000 in
theorem pnew_ok {hB : Heap} {w g d s : Int} {K : Value → Heap → Prop} {Kp : List PanicEntry → Heap → Prop}
    (hg : ∀ (G : Pg) p m q rest h, w = (G.W : Nat) → g = (G.X : Nat) → d = (G.d : Nat) → s = (G.s : Nat) → SheetP w g d s → G.nx = 0 → G.dn = false → FullP G.W G.X G.d G.ws → Hp hB [] h (pgL p m q rest G) → K (.tuple #[.pointer (at0 p), .int .i64 0]) h)
    (hbad : ∀ h, ¬ SheetP w g d s → hext hB h → K (.tuple #[.pointer none, .int .i64 150]) h) : CP F_page_New #[.agg #[.int .i64 w, .int .i64 g, .int .i64 d, .int .i64 s]] hB K Kp := by
  refine call_page_New ?_
  unfold page_New
  have H := Hp.nil hB []
  refine newC_hp H fun r h H => ?_
  try simp only [ptr_some_eq, add_mk, Nat.zero_add, Nat.add_zero]
  refine ldI_of (H.cell 0 rfl rfl) ?_
  refine ldI_of (H.cell 0 rfl rfl) ?_
  refine ldI_of (H.cell 0 rfl rfl) ?_
  refine ldI_of (H.cell 0 rfl rfl) ?_
  refine sheet_ok fun b h1 hb e => ?_
  have H := H.ext e
  refine ⟨_, rfl, ?_⟩
  refine bcase_not (fun h1 => ?_) fun h1 => ?_
  · exact hbad _ (fun hs => by rw [hb.2 hs] at h1; cases h1) H.hext
  have hs := hb.1 h1
  refine ldI_of (H.cell 0 rfl rfl) ?_
  refine ldI_of (H.cell 0 rfl rfl) ?_
  refine newM_ok (fun W X p q h hw hx hsz H' => ?_) fun hn => absurd hs.1 hn
  subst hw hx
  replace H := H.join H' rfl
  clear H'
  refine ⟨_, _, rfl, ?_⟩
  refine bcase_false (by rfl) ?_
  refine ldI_of (H.cell 0 rfl rfl) ?_
  refine ldI_of (H.cell 0 rfl rfl) ?_
  refine ldI_of (H.cell 0 rfl rfl) ?_
  obtain ⟨W', X', e1, e2, hW1, hW2, hX1, hX2, hWX⟩ := size_nat hs.1
  obtain rfl : W = W' := by omega
  obtain rfl : X = X' := by omega
  refine fill_ok (H.give [1, 2] (by decide) rfl) hs.1 (by simp) (W64.zero _) ⟨by omega, by omega⟩ ⟨by omega, by omega⟩ ⟨by omega, by omega⟩ ⟨by omega, by omega⟩ (by omega) (by omega) hs.2.1 fun R h' hl hw hp H' => ?_
  replace H := H.put [1, 2] (by decide) rfl rfl H' rfl rfl
  clear H'
  refine ⟨_, rfl, ?_⟩
  refine ldI_of (H.cell 0 rfl rfl) ?_
  refine ldI_of (H.cell 0 rfl rfl) ?_
  refine ldI_of (H.cell 0 rfl rfl) ?_
  refine ldI_of (H.cell 0 rfl rfl) ?_
  refine newC_hp H fun pp h H => ?_
  obtain ⟨dd, rfl⟩ : ∃ dd : Nat, d = (dd : Nat) := ⟨d.toNat, by rcases hs.2.1 with h | h <;> omega⟩
  obtain ⟨ss, rfl⟩ : ∃ ss : Nat, s = (ss : Nat) := ⟨s.toNat, by have := hs.2.2.1; omega⟩
  refine hg ⟨W, X, dd, ss, R, 0, false⟩ pp p q [] _ rfl rfl rfl rfl hs rfl rfl ⟨hl, hw, fun Y hY x' hx' => ?_⟩ (H.pick [3, 1, 2] (by decide) rfl)
  have hY : Y < X := hY
  have hx' : x' < 64 * wds W := hx'
  show pix R (wds W) x' Y = decide (dd = 1 ∧ x' < W)
  rw [hp Y hY x' hx', pix_zero]
  by_cases h2 : x' < W
  · rw [if_pos (by omega), decide_eq_decide]; omega
  · rw [if_neg (by omega), eq_comm, decide_eq_false_iff_not]; omega

set_option maxRecDepth 100000 in
theorem rnew_ok {hB : Heap} {W X dd ss : Nat} (hs : SheetP (W : Int) (X : Int) (dd : Int) (ss : Int)) {K : Value → Heap → Prop} {Kp : List PanicEntry → Heap → Prop}
    (hk : ∀ R p q c rest h, FullP W X dd R → Hp hB [] h (rfL p q c rest ⟨W, X, dd, ss, R, 0, false⟩) → K (.pointer (at0 p)) h) : CP F_burinref15_New #[.agg #[.int .i64 (W : Nat), .int .i64 (X : Nat), .int .i64 (dd : Nat), .int .i64 (ss : Nat)]] hB K Kp := by
  refine call_burinref15_New ?_
  unfold burinref15_New
  obtain ⟨W', X', e1, e2, hW1, hW2, hX1, hX2, hWX⟩ := size_nat hs.1
  obtain rfl : W = W' := by omega
  obtain rfl : X = X' := by omega
  have H := Hp.nil hB []
  refine newC_hp H fun r h H => ?_
  try simp only [ptr_some_eq, add_mk, Nat.zero_add, Nat.add_zero]
  refine ldI_of (H.cell 0 rfl rfl) ?_
  refine ldI_of (H.cell 0 rfl rfl) ?_
  refine ldI_of (H.cell 0 rfl rfl) ?_
  refine ldI_of (H.cell 0 rfl rfl) ?_
  refine ldI_of (H.cell 0 rfl rfl) ?_
  refine ldI_of (H.cell 0 rfl rfl) ?_
  refine white_ok hs.1 fun q h H' => ?_
  refine ⟨_, _, _, _, _, rfl, H'.hext, ?_⟩
  replace H := H.join H' rfl
  clear H'
  refine newC_hp H fun p h H => ?_
  obtain ⟨N, hN⟩ : ∃ N, N = X * wds W := ⟨_, rfl⟩
  rw [← hN] at H
  let St : Nat → Nat → Heap → List Nat → Prop := fun j i h R => R.length = X * wds W ∧ W64 R ∧ (∀ Y, Y < X → ∀ x', x' < 64 * wds W → pix R (wds W) x' Y = decide (dd = 1 ∧ x' < W ∧ (Y < j ∨ Y = j ∧ x' < i))) ∧
    Hp hB [] h [⟨r, true, T_api_Sheet, [.int .i64 (W : Nat), .int .i64 (X : Nat), .int .i64 (dd : Nat), .int .i64 (ss : Nat)]⟩, ⟨q, true, T_uint64, u64s R⟩, ⟨p, true, T_burinref15_Page, [.int .i64 (W : Nat), .int .i64 (X : Nat), .int .i64 (dd : Nat), .int .i64 (ss : Nat), .int .i64 (W : Nat), .int .i64 (X : Nat), .slice (at0 q) N N, .int .i64 0, .bool false]⟩]
  have hSt : ∀ j i h R, St j i h R ↔ R.length = X * wds W ∧ W64 R ∧ (∀ Y, Y < X → ∀ x', x' < 64 * wds W → pix R (wds W) x' Y = decide (dd = 1 ∧ x' < W ∧ (Y < j ∨ Y = j ∧ x' < i))) ∧
    Hp hB [] h [⟨r, true, T_api_Sheet, [.int .i64 (W : Nat), .int .i64 (X : Nat), .int .i64 (dd : Nat), .int .i64 (ss : Nat)]⟩, ⟨q, true, T_uint64, u64s R⟩, ⟨p, true, T_burinref15_Page, [.int .i64 (W : Nat), .int .i64 (X : Nat), .int .i64 (dd : Nat), .int .i64 (ss : Nat), .int .i64 (W : Nat), .int .i64 (X : Nat), .slice (at0 q) N N, .int .i64 0, .bool false]⟩] := fun _ _ _ _ => Iff.rfl
  have fin : ∀ h R, St (if dd = 1 then X else 0) 0 h R → K (.pointer (at0 p)) h := fun h R hst => by
    obtain ⟨g1, g2, g3, H⟩ := (hSt _ _ _ _).1 hst
    refine hk R p q N [] h ⟨g1, g2, fun Y hY x' hx' => ?_⟩ (H.pick [2, 1] (by decide) (by simp [rfL, rfE, g1, hN]))
    rw [g3 Y hY x' hx', decide_eq_decide]
    by_cases h1 : dd = 1
    · rw [if_pos h1]; omega
    · omega
  refine ⟨fun n vs h => ∃ (j : Nat) (R : List Nat), j + n = X ∧ vs = [.int .i64 (j : Int)] ∧ (dd = 1 ∨ j = 0) ∧ St j 0 h R, ⟨X, 0, List.replicate N 0, by omega, rfl, .inr rfl, (hSt _ _ _ _).2 ⟨by simp [hN], W64.zero _, fun Y hY x' hx' => ?_, H⟩⟩, ?_⟩
  · rw [pix_zero, eq_comm, decide_eq_false_iff_not]; omega
  clear H
  rintro n h u xx ⟨j, R, hjn, hxx, hdj, hst⟩
  injection hxx with hxx
  injection hxx with _ hxx
  subst hxx
  have H := ((hSt _ _ _ _).1 hst).2.2.2
  refine ldI_of (H.cell 0 rfl rfl) ?_
  refine bcase_dec (fun h5 => ?_) fun h5 => ?_
  · have h5 : j < X := by omega
    refine ldI_of (H.cell 0 rfl rfl) ?_
    refine bcase_eq (fun h6 => ?_) fun h6 => ?_
    · have h6 : dd = 1 := by omega
      refine ⟨fun n vs h => ∃ (i : Nat) (R : List Nat), i + n = W ∧ vs = [.int .i64 (i : Int)] ∧ St j i h R, ⟨W, 0, R, by omega, rfl, hst⟩, ?_⟩
      clear H hst
      rintro n2 h u2 xx ⟨i, R, hin, hxx, hst⟩
      injection hxx with hxx
      injection hxx with _ hxx
      subst hxx
      obtain ⟨g1, g2, g3, H⟩ := (hSt _ _ _ _).1 hst
      refine ldI_of (H.cell 0 rfl rfl) ?_
      refine bcase_dec (fun h7 => ?_) fun h7 => ?_
      · have h7 : i < W := by omega
        try simp only [ptr_some_eq, add_mk, Nat.zero_add, Nat.add_zero]
        refine ldI_of (H.cell 2 rfl rfl) ?_
        refine ldI_of (H.cell 2 rfl rfl) ?_
        refine ldS_of (H.cell 2 rfl rfl) ?_
        have eN : N = R.length := by rw [g1, hN]
        rw [eN]
        refine put_ok (bit := true) (rest := []) H 1 (by rw [List.append_nil]; rfl) g2 hs.1 g1 h7 h5 fun R' h' k1 k2 k3 H' => ?_
        rw [List.append_nil] at H'
        refine bindI_of (((i + 1 : Nat) : Int)) (by exact i64_at _ _ (by omega) (by omega) (by omega)) ?_
        refine ⟨n2 - 1, by omega, i + 1, R', by omega, rfl, (hSt _ _ _ _).2 ⟨by omega, k2, fun Y hY x' hx' => ?_, H'⟩⟩
        rw [k3 Y hY x' hx']
        by_cases h8 : Y = j ∧ x' = i
        · rw [if_pos h8, eq_comm, decide_eq_true_iff]; omega
        · rw [if_neg h8, g3 Y hY x' hx', decide_eq_decide]; omega
      · have h7 : i = W := by omega
        subst h7
        refine bindI_of (((j + 1 : Nat) : Int)) (by exact i64_at _ _ (by omega) (by omega) (by omega)) ?_
        refine ⟨n - 1, by omega, j + 1, R, by omega, rfl, .inl h6, (hSt _ _ _ _).2 ⟨g1, g2, fun Y hY x' hx' => ?_, H⟩⟩
        rw [g3 Y hY x' hx', decide_eq_decide]
        omega
    · refine fin h R ?_
      have h0 : j = 0 := by omega
      subst h0
      rw [if_neg (by omega)]
      exact hst
  · refine fin h R ?_
    have h5 : j = X := by omega
    subst h5
    rw [if_pos (by omega)]
    exact hst

end Go.Bm
