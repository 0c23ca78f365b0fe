/- W5: put together by wip/tools/bundle.py: GnF RdA Mburinref7 Bburinref7 GnG RfR RfS GnH GnI GnJa GnJ GnK RdB RdC GnL GnQ Mbits Bbits PbA PbB RnD PbF PbG PbH Mburinref1 Bburinref1 PbI PbJ PbJb PbC Mlaw15PageEncodes Blaw15PageEncodes PbD PbE. -/
import Derived.Test.YtfaclehehhgpcaaGreatW1
import Derived.Test.YtfaclehehhgpcaaGreatW2
import Derived.Test.YtfaclehehhgpcaaGreatW3
import Derived.Test.YtfaclehehhgpcaaGreatW4
import Derived.Test.YtfaclehehhgpcaaGreatProg
set_option linter.unusedVariables false
set_option linter.unusedSimpArgs false
set_option maxRecDepth 100000
namespace Go.Bm
open Go Go.Den Go.Den.YtfaclehehhgpcaaGreat
open Go.Ar (CodOk Dec decL BOk newC flushM bytesM)
section
variable {σ:Type} {step:σ->Nat->Bool->(Bool × σ) ⊕ (Int × σ)}
theorem rowG_inl (h:∀ s n b,∃ r,step s n b = .inl r) (t y:Nat) (g:(Int->Int->Bool) × σ):∀ k,∃ g',rowG t step y k g = .inl g'
 | 0=>⟨_,rfl⟩
 | k+1=>by
  obtain ⟨⟨G,s⟩,hg⟩:=rowG_inl h t y g k
  obtain ⟨⟨b,s'⟩,hr⟩:=h s (gctx t G (k:Int) (y:Int)) (G (k:Int) (y:Int))
  unfold rowG
  rw [hg]
  simp only [hr]
  exact ⟨_,rfl⟩
theorem runG_inl (h:∀ s n b,∃ r,step s n b = .inl r) (W t:Nat) (skip:Bool) (g:(Int->Int->Bool) × σ):∀ y,∃ g',runG W t skip step y g = .inl g'
 | 0=>⟨_,rfl⟩
 | y+1=>by
  obtain ⟨⟨G,s⟩,hg⟩:=runG_inl h W t skip g y
  unfold runG
  rw [hg]
  cases skip with
  | false=>exact rowG_inl h t y (G,s) W
  | true =>
   obtain ⟨⟨b,s'⟩,hr⟩:=h s (gsize t) (sameB G W y)
   simp only [hr]
   cases b with
   | true=>exact ⟨_,rfl⟩
   | false=>exact rowG_inl h t y (G,s') W
end
def GGetR (bytes:List Nat) (m n0:Nat) (base w b template:Int) (skip:Bool) (s:Dec) (e w' b':Int) (bs:List Nat) (s':Dec):Prop :=
 ¬ (0<=template/\template<4)/\e=60/\w'=0/\b'=0/\bs=[]/\s'=s \/
 (0<=template/\template<4)/\¬ SizeP w b/\e=63/\w'=0/\b'=0/\bs=[]/\s'=s \/
 (0<=template/\template<4)/\SizeP w b/\¬ (0<=base/\base<=(m:Int)-((gsize template.toNat:Nat)+1))/\e=51/\w'=0/\b'=0/\bs=[]/\s'=s \/
 (0<=template/\template<4)/\SizeP w b/\(0<=base/\base<=(m:Int)-((gsize template.toNat:Nat)+1))/\e=0/\w'=w/\b'=b/\runG w.toNat template.toNat skip (stepG m base) b.toNat (fun _ _=>false,s) = .inl (getP bs w.toNat b.toNat,s') /\
  bs.length=b.toNat*wds w.toNat/\W64 bs/\PadZ w.toNat b.toNat bs/\∃ k,k<=b.toNat*(w.toNat+1)/\Go.Ar.DecOk bytes m (n0+k) s'
set_option maxHeartbeats 2000000 in
theorem gget_ok {h0 hA:Heap} {FF:List Nat} {p q m n0:Nat} {e0:Ent} {bp:Option Addr} {bc:Nat} {s:Dec} {bytes:List Nat} (HC:Hp h0 FF hA (decL p q e0 bp bc s)) (hb:BOk e0 bp s.b) (hbl:bytes.length<140737488351300) (hc:Go.Ar.DecOk bytes m n0 s) (hm1:1<=m) (hm2:m<=131072) {base w b template:Int} {skip:Bool}
  (hN:SizeP w b->n0+b.toNat*(w.toNat+1)<=16777216) {K:VK} {Kp:PK}
  (hk:∀ e w' b' bs s' D qo c h',GGetR bytes m n0 base w b template skip s e w' b' bs s'->Slot T_uint64 1 D qo bs.length c (u64s bs)->Hp h0 FF h' (decL p q e0 bp bc s'++D)->K (.tuple #[.agg #[.int .i64 w', .int .i64 b', .slice qo bs.length c], .int .i64 e]) h') :
  CP F_generic_Get #[.pointer (at0 p), .int .i64 base, .int .i64 w, .int .i64 b, .int .i64 template, .bool skip] hA K Kp:=by
 refine call_generic_Get ?_
 unfold generic_Get
 have hew:=hb.1
 have H:=Hp.nil hA []
 refine newC_hp H fun r1 h H=>?_
 refine bcase_false (by rfl) ?_
 have bad:∀ (e:Int) (h':Heap) (T:List Ent),hext hA h'->(∀ h',hext hA h'->K (.tuple #[.agg #[.int .i64 0, .int .i64 0, .slice none 0 0], .int .i64 e]) h')->Hp hA [] h' ([⟨r1,true,T_api_Bitmap,[.int .i64 0, .int .i64 0, .slice none 0 0]⟩]++T) ->
   stV h' ((⟨r1,0,none⟩:Addr).add 0) (.int .i64 0) fun h_13=>stV h_13 ((⟨r1,0,none⟩:Addr).add 1) (.int .i64 0) fun h_14=>stV h_14 ((⟨r1,0,none⟩:Addr).add 2) (.slice none 0 0) fun h_15 =>
    ldI h_15 ((⟨r1,0,none⟩:Addr).add 0) .i64 fun r_16=>ldI h_15 ((⟨r1,0,none⟩:Addr).add 1) .i64 fun r_17=>ldS h_15 ((⟨r1,0,none⟩:Addr).add 2) fun r_18 r_18n r_18c =>
     K (.tuple #[.agg #[.int .i64 r_16, .int .i64 r_17, .slice r_18 r_18n r_18c], .int .i64 e]) h_15:=fun e h' T _ hk H=>by
  repeat first | with_reducible refine ldI_of (by with_unfolding_all first | exact hpA H 0 rfl rfl | exact Hp.cell H 0 rfl rfl | exact hpB H 0 rfl rfl | exact hpC H 0 rfl rfl) ?_ | with_reducible refine ldS_of (by with_unfolding_all first | exact hpA H 0 rfl rfl | exact Hp.cell H 0 rfl rfl | exact hpB H 0 rfl rfl | exact hpC H 0 rfl rfl) ?_ | with_reducible refine ldP_of (by with_unfolding_all first | exact hpA H 0 rfl rfl | exact Hp.cell H 0 rfl rfl | exact hpB H 0 rfl rfl | exact hpC H 0 rfl rfl) ?_ | with_reducible refine ldB_of (by with_unfolding_all first | exact hpA H 0 rfl rfl | exact Hp.cell H 0 rfl rfl | exact hpB H 0 rfl rfl | exact hpC H 0 rfl rfl) ?_ | with_reducible refine ldT_of (by with_unfolding_all first | exact hpA H 0 rfl rfl | exact Hp.cell H 0 rfl rfl | exact hpB H 0 rfl rfl | exact hpC H 0 rfl rfl) ?_ | with_reducible refine stA H 0 (by with_unfolding_all exact rfl) (by with_unfolding_all exact rfl) (by with_unfolding_all exact rfl) fun h H=>?_ | with_reducible refine st0 H 0 (by with_unfolding_all exact rfl) (by with_unfolding_all exact rfl) (by with_unfolding_all exact rfl) fun h H=>?_ | with_reducible refine stB H 0 (by with_unfolding_all exact rfl) (by with_unfolding_all exact rfl) (by with_unfolding_all exact rfl) fun h H=>?_
  exact hk _ H.hext
 refine csize_ok (fun t ht et h2 e2=>?_) fun hn h2 e2=>?_
 ·have H:=H.ext e2
  clear e2
  subst et
  have htt:0<=((t:Nat):Int)/\((t:Nat):Int)<4:=by omega
  have hgs:=gsize_le ht
  refine ⟨_,_,rfl,?_⟩
  refine newC_hp H fun r13 h H=>?_
  repeat first | with_reducible refine stA H 0 (by with_unfolding_all exact rfl) (by with_unfolding_all exact rfl) (by with_unfolding_all exact rfl) fun h H=>?_ | with_reducible refine stA H 1 (by with_unfolding_all exact rfl) (by with_unfolding_all exact rfl) (by with_unfolding_all exact rfl) fun h H=>?_ | with_reducible refine st0 H 0 (by with_unfolding_all exact rfl) (by with_unfolding_all exact rfl) (by with_unfolding_all exact rfl) fun h H=>?_ | with_reducible refine st0 H 1 (by with_unfolding_all exact rfl) (by with_unfolding_all exact rfl) (by with_unfolding_all exact rfl) fun h H=>?_ | with_reducible refine stB H 0 (by with_unfolding_all exact rfl) (by with_unfolding_all exact rfl) (by with_unfolding_all exact rfl) fun h H=>?_ | with_reducible refine stB H 1 (by with_unfolding_all exact rfl) (by with_unfolding_all exact rfl) (by with_unfolding_all exact rfl) fun h H=>?_
  refine bcase_false (by rfl) ?_
  refine newM_ok (fun W X pm qm h5 hwW hbX hsz H'=>?_) fun hns=>?_
  ·subst hwW hbX
   have H2:=H'
   unfold mapL at H2
   rw [List.length_replicate] at H2
   clear H'
   have H:=H.join H2 rfl
   clear H2
   refine ⟨_,_,rfl,?_⟩
   refine bcase_false (by rfl) ?_
   refine ptr_of (a:=⟨p,0,none⟩) ?_
   repeat first | with_reducible refine ldI_of (by with_unfolding_all first | exact hpA H 0 rfl rfl | exact hpA H 1 rfl rfl | exact Hp.cell H 0 rfl rfl | exact Hp.cell H 1 rfl rfl | exact hpB H 0 rfl rfl | exact hpB H 1 rfl rfl | exact hpC H 0 rfl rfl | exact hpC H 1 rfl rfl) ?_ | with_reducible refine ldS_of (by with_unfolding_all first | exact hpA H 0 rfl rfl | exact hpA H 1 rfl rfl | exact Hp.cell H 0 rfl rfl | exact Hp.cell H 1 rfl rfl | exact hpB H 0 rfl rfl | exact hpB H 1 rfl rfl | exact hpC H 0 rfl rfl | exact hpC H 1 rfl rfl) ?_ | with_reducible refine ldP_of (by with_unfolding_all first | exact hpA H 0 rfl rfl | exact hpA H 1 rfl rfl | exact Hp.cell H 0 rfl rfl | exact Hp.cell H 1 rfl rfl | exact hpB H 0 rfl rfl | exact hpB H 1 rfl rfl | exact hpC H 0 rfl rfl | exact hpC H 1 rfl rfl) ?_ | with_reducible refine ldB_of (by with_unfolding_all first | exact hpA H 0 rfl rfl | exact hpA H 1 rfl rfl | exact Hp.cell H 0 rfl rfl | exact Hp.cell H 1 rfl rfl | exact hpB H 0 rfl rfl | exact hpB H 1 rfl rfl | exact hpC H 0 rfl rfl | exact hpC H 1 rfl rfl) ?_ | with_reducible refine ldT_of (by with_unfolding_all first | exact hpA H 0 rfl rfl | exact hpA H 1 rfl rfl | exact Hp.cell H 0 rfl rfl | exact Hp.cell H 1 rfl rfl | exact hpB H 0 rfl rfl | exact hpB H 1 rfl rfl | exact hpC H 0 rfl rfl | exact hpC H 1 rfl rfl) ?_
   refine bindI_of (((gsize t+1:Nat):Int)) (by exact i64_at _ _ (by omega) (by omega) (by omega)) ?_
   refine Go.Ar.contexts_ok (n:=s.st.length) (HC.ext H.hext) 0 rfl ?_
   refine ⟨_,rfl,hext.refl _,?_⟩
   rw [hc.len]
   refine gfits_ok (by omega) (by omega) fun bf hbf=>?_
   refine ⟨_,rfl,?_⟩
   refine bcase_not (fun h2=>?_) fun h2=>?_
   ·exact bad 51 _ _ H.hext (fun h' e'=>hk 51 0 0 [] s [] none 0 h' (.inr (.inr (.inl ⟨htt,hsz,(fun hh=>by rw [hbf.2 (by simp only [Int.toNat_natCast] at hh; omega)] at h2; cases h2),rfl,rfl,rfl,rfl,rfl⟩))) (Slot.nil _ _) ((HC.ext e').as (List.append_nil _).symm)) H
   have hft:=hbf.1 h2
   have hft2:0<=base/\base<=(m:Int)-((gsize t:Nat)+1):=by omega
   refine newC_hp H fun r47 h H=>?_
   refine newC_hp H fun r49 h H=>?_
   repeat first | with_reducible refine stA H 5 (by with_unfolding_all exact rfl) (by with_unfolding_all exact rfl) (by with_unfolding_all exact rfl) fun h H=>?_ | with_reducible refine st0 H 5 (by with_unfolding_all exact rfl) (by with_unfolding_all exact rfl) (by with_unfolding_all exact rfl) fun h H=>?_ | with_reducible refine stB H 5 (by with_unfolding_all exact rfl) (by with_unfolding_all exact rfl) (by with_unfolding_all exact rfl) fun h H=>?_
   have H:=(HC.join H rfl).pick [8,4,7,5,6,0,1,2,3] (by decide) (L':=[⟨r49,true,T_p_generic_procedure,[.pointer (some ⟨r47,0,none⟩)]⟩,⟨r13,true,T_int,[.int .i64 (gsize t:Nat)]⟩,procE r47 pm (fvD p) base t skip,mapE pm qm W X (X*wds W) (X*wds W),⟨qm,true,T_uint64,u64s (List.replicate (X*wds W) 0)++[]⟩]++decL p q e0 bp bc s++[⟨r1,true,T_api_Bitmap,[.int .i64 0, .int .i64 0, .slice none 0 0]⟩]) rfl
   obtain ⟨W',X',e1,e2,hW1,hW2,hX1,hX2,hWX⟩:=size_nat hsz
   obtain rfl:W=W':=by omega
   obtain rfl:X=X':=by omega
   clear e1 e2
   have hN':=hN hsz
   simp only [Int.toNat_natCast] at hN'
   have hrl:(List.replicate (X*wds W) 0).length=X*wds W:=List.length_replicate
   refine caught_ok (fun L2=>∃ s' k ws',runG W t skip (stepG m base) X (fun _ _=>false,s) = .inl (getP ws' W X,s')/\ws'.length=X*wds W/\W64 ws'/\PadZ W X ws'/\k<=X*(W+1)/\Go.Ar.DecOk bytes m (n0+k) s'/\BOk e0 bp s'.b/\L2=[⟨r49,true,T_p_generic_procedure,[.pointer (some ⟨r47,0,none⟩)]⟩,⟨r13,true,T_int,[.int .i64 (gsize t:Nat)]⟩,procE r47 pm (fvD p) base t skip,mapE pm qm W X (X*wds W) (X*wds W),⟨qm,true,T_uint64,u64s ws'++[]⟩]++decL p q e0 bp bc s'++[⟨r1,true,T_api_Bitmap,[.int .i64 0, .int .i64 0, .slice none 0 0]⟩])
    (fun e L2=>False) H (fun {r1' h1 K1 Kp1} H hK hKp=>?_) (fun h' L' hp H=>?_) fun e h' L' hp H=>hp.elim
   ·show CP F_generic_Get_c1 #[.pointer (some ⟨r49,0,none⟩), .pointer (some ⟨r13,0,none⟩)] h1 K1 Kp1
    refine call_generic_Get_c1 (cap0:=⟨r49,0,none⟩) (cap1:=⟨r13,0,none⟩) ?_
    unfold generic_Get_c1
    refine ldP_of (H.cell 1 rfl rfl) (ldI_of (H.cell 2 rfl rfl) ?_)
    have HG:Hp h1 _ h1 ([procE r47 pm (fvD p) base t skip,mapE pm qm W X (X*wds W) (X*wds W),⟨qm,true,T_uint64,u64s (List.replicate (X*wds W) 0)++[]⟩]++decL p q e0 bp bc s):=H.give [3,4,5,6,7,8] (by decide) rfl
    refine grun_ok (S:=decS p q e0 bp bc) (NN:=X*(W+1)) (Ok:=fun k s=>Go.Ar.DecOk bytes m (n0+k) s) decS.w (decI_ok hbl ⟨by omega,by omega⟩ hm1 hm2 hN') ⟨by omega,by omega⟩ ht ⟨hb,rfl⟩ HG hrl (by simp) hsz rfl (W64.zero _) (fun y hy x h1 h2=>pix_zero _ _ _ _) hc (Nat.le_refl _) (fun ws' s' M h' k hM hrun hl' hw' hz' hk' hok' H'=>?_) fun e ws' s' M h' k hM hrun hl' hk' hok' H'=>?_
    ·obtain ⟨hb',rfl⟩:=hM
     have H:=H.put [3,4,5,6,7,8] (by decide) rfl (by simp [decL,Go.Ar.decE,hew,procE,mapE]) H' (by simp [decL,Go.Ar.decE,hew,procE,mapE]) rfl
     rw [getP_zero] at hrun
     exact hK h' _ ⟨s',k,ws',hrun,hl',hw',hz',hk',hok',hb',rfl⟩ H
    ·obtain ⟨g',hg'⟩:=runG_inl (step:=stepG m base) (fun s n b=>⟨_,rfl⟩) W t skip (getP (List.replicate (X*wds W) 0) W X,s) X
     rw [hg'] at hrun
     cases hrun
   ·obtain ⟨s',k,ws',hrun,hl',hw',hz',hk',hok',hb',rfl⟩:=hp
    refine ⟨_,rfl,?_⟩
    refine bcase_false (by rfl) ?_
    have hhw:=hw_le hW1 hWX
    have hpos:1<=X*wds W:=Nat.mul_pos hX1 (by unfold wds; omega)
    refine plain_ok (ws:=ws') (rest:=[]) H 3 4 (by rw [hl']; rfl) rfl (by omega) (by omega) fun o orest h' H=>?_
    refine ⟨_,_,_,_,_,rfl,?_⟩
    repeat first | with_reducible refine stA H 8 (by with_unfolding_all exact rfl) (by with_unfolding_all exact rfl) (by with_unfolding_all exact rfl) fun h H=>?_ | with_reducible refine st0 H 8 (by with_unfolding_all exact rfl) (by with_unfolding_all exact rfl) (by with_unfolding_all exact rfl) fun h H=>?_ | with_reducible refine stB H 8 (by with_unfolding_all exact rfl) (by with_unfolding_all exact rfl) (by with_unfolding_all exact rfl) fun h H=>?_
    repeat first | with_reducible refine ldI_of (by with_unfolding_all first | exact hpA H 8 rfl rfl | exact Hp.cell H 8 rfl rfl | exact hpB H 8 rfl rfl | exact hpC H 8 rfl rfl) ?_ | with_reducible refine ldS_of (by with_unfolding_all first | exact hpA H 8 rfl rfl | exact Hp.cell H 8 rfl rfl | exact hpB H 8 rfl rfl | exact hpC H 8 rfl rfl) ?_ | with_reducible refine ldP_of (by with_unfolding_all first | exact hpA H 8 rfl rfl | exact Hp.cell H 8 rfl rfl | exact hpB H 8 rfl rfl | exact hpC H 8 rfl rfl) ?_ | with_reducible refine ldB_of (by with_unfolding_all first | exact hpA H 8 rfl rfl | exact Hp.cell H 8 rfl rfl | exact hpB H 8 rfl rfl | exact hpC H 8 rfl rfl) ?_ | with_reducible refine ldT_of (by with_unfolding_all first | exact hpA H 8 rfl rfl | exact Hp.cell H 8 rfl rfl | exact hpB H 8 rfl rfl | exact hpC H 8 rfl rfl) ?_
    refine hk 0 _ _ ws' s' [⟨o,true,T_uint64,u64s ws'++orest⟩] _ _ h (.inr (.inr (.inr ⟨htt,hsz,hft2,rfl,rfl,rfl,by simpa using hrun,by simpa using hl',hw',by simpa using hz',k,by simpa using hk',hok'⟩))) (Slot.one (by rw [u64s_length,Nat.mul_one]) (by rw [List.length_append,u64s_length,Nat.mul_one])) ?_
    exact H.pick [5,6,7,9] (by decide) rfl
  ·refine ⟨_,_,rfl,?_⟩
   refine bcase_true (by rfl) ?_
   exact bad 63 _ _ H.hext (fun h' e'=>hk 63 0 0 [] s [] none 0 h' (.inr (.inl ⟨htt,hns,rfl,rfl,rfl,rfl,rfl⟩)) (Slot.nil _ _) ((HC.ext e').as (List.append_nil _).symm)) H
 ·have H:=H.ext e2
  refine ⟨_,_,rfl,?_⟩
  refine newC_hp H fun r13 h H=>?_
  repeat first | with_reducible refine stA H 1 (by with_unfolding_all exact rfl) (by with_unfolding_all exact rfl) (by with_unfolding_all exact rfl) fun h H=>?_ | with_reducible refine st0 H 1 (by with_unfolding_all exact rfl) (by with_unfolding_all exact rfl) (by with_unfolding_all exact rfl) fun h H=>?_ | with_reducible refine stB H 1 (by with_unfolding_all exact rfl) (by with_unfolding_all exact rfl) (by with_unfolding_all exact rfl) fun h H=>?_
  refine bcase_true (by rfl) ?_
  exact bad 60 _ _ H.hext (fun h' e'=>hk 60 0 0 [] s [] none 0 h' (.inl ⟨hn,rfl,rfl,rfl,rfl,rfl⟩) (Slot.nil _ _) ((HC.ext e').as (List.append_nil _).symm)) H
def GEncR (w b:Int) (ws:List Nat) (template:Int) (skip:Bool) (e:Int) (bs:List Nat):Prop :=
 ¬ (0<=template/\template<4)/\e=60/\bs=[] \/
 (0<=template/\template<4)/\¬ MayP w b ws/\e=62/\bs=[] \/
 (0<=template/\template<4)/\MayP w b ws/\e=0/\∃ G s' k,runG w.toNat template.toNat skip (stepP (gsize template.toNat+1) 0) b.toNat (getP ws w.toNat b.toNat,newC (gsize template.toNat+1)) = .inl (G,s')/\k<=b.toNat*(w.toNat+1)/\CodOk (gsize template.toNat+1) k s'/\bs=bytesM (flushM s')
section
variable {hB:Heap} {w b template:Int} {skip:Bool} {K:VK} {Kp:PK}
end
end Go.Bm
namespace Go.Ar
open Go Go.Den Go.Den.YtfaclehehhgpcaaGreat
theorem lend_ok {hB:Heap} {b:Option Addr} {bc:Nat} {bs:List Nat} (hr:rdO hB b (bs.length*1) (u8s bs)) (hl:bs.length<140737488351300)
  {K:VK} {Kp:PK} (hk:∀ o rest c h',(u8s bs++(u8s (List.replicate 7 165)++rest)).length=c->Hp hB [] h' [⟨o,true,T_uint8,u8s bs++(u8s (List.replicate 7 165)++rest)⟩]->K (.slice (at0 o) bs.length c) h') :
  CP F_burinkit_Lend #[.slice b bs.length bc] hB K Kp:=by
 refine call_burinkit_Lend ?_
 unfold burinkit_Lend
 have H:=Hp.nil hB []
 obtain ⟨N,hN⟩:∃ N,N=bs.length+7:=⟨_,rfl⟩
 refine bindI_of (((N:Nat):Int)) (by exact i64_at _ _ (by omega) (by omega) (by omega)) ?_
 refine needs_of (by simp; omega) ?_
 simp only [Int.toNat_natCast,u8s_zero]
 refine newC_hp H fun r h H=>?_
 refine appC_in H 0 (xs:=[]) (rest:=u8s (List.replicate N 0)) (c:=N) rfl rfl (by simp [u8s]) (by simp [hN]) (H.rdO hr) (by rw [u8s_length,Nat.mul_one]) (u8s_cells bs) fun h H=>?_
 generalize hrest:(u8s (List.replicate N 0)).drop (bs.length*1)=rest at H
 have hrl:rest.length=7:=by rw [<- hrest,List.length_drop,u8s_length,List.length_replicate]; omega
 refine ⟨fun n vs h'=>∃ (i:Nat) (rest:List Value),i+n=7/\rest.length=n/\vs=[.slice (at0 r) (bs.length+i) N, .int .i64 (i:Int)]/\Hp hB [] h' [⟨r,true,T_uint8,u8s bs++u8s (List.replicate i 165)++rest⟩],
  ⟨7,0,rest,rfl,hrl,by simp,H.as (by simp [u8s])⟩,?_⟩
 clear H
 rintro n h2 u x xn xc xi ⟨i,rest,hin,hrl,hx,H⟩
 injection hx with hx hx2
 injection hx with hx hxn hxc
 injection hx2 with hx2
 injection hx2 with _ hx2
 subst x xn xc xi
 refine bcase_of (fun h1=>?_) fun h1=>?_
 ·have h1:i<7:=by simp at h1; omega
  refine newC_hp H fun t h H=>?_
  refine appC_in H 0 (xs:=u8s bs++u8s (List.replicate i 165)) (rest:=rest) (c:=N) rfl (by simp [u8s]) (by simp [u8s]; omega) (by omega) (rdO_hp (o:=0) (n:=1*1) H 1 rfl (Nat.le_refl _)) rfl (fun v hv=>by rw [List.mem_singleton.1 hv]; rfl) fun h H=>?_
  refine bindI_of (((i+1:Nat):Int)) (by exact i64_at _ _ (by omega) (by omega) (by omega)) ?_
  refine ⟨n-1,by omega,i+1,rest.drop (1*1),by omega,by rw [List.length_drop]; omega,by rw [Nat.add_assoc],?_⟩
  refine (H.take 1).as ?_
  simp [u8s,List.replicate_succ']
 ·have h1:i=7:=by simp at h1; omega
  subst h1
  refine needs_of (by omega) ?_
  have e:subA (some ⟨r,0,none⟩) N 0 1=some ⟨r,0,none⟩:=by unfold subA; split <;> rfl
  rw [e]
  simp only [Int.toNat_natCast,Nat.sub_zero]
  refine hk r rest N _ ?_ (H.as (by rw [List.append_assoc]))
  simp only [List.length_append,u8s_length,List.length_replicate]
  omega
theorem back_ok {h:Heap} {o c:Nat} {b:Option Addr} {bc:Nat} {bs:List Nat} {rest:List Value} {F:List Nat} {h0:Heap} (H:Hp h0 F h [⟨o,true,T_uint8,u8s bs++(u8s (List.replicate 7 165)++rest)⟩]) (hr:rdO h b (bs.length*1) (u8s bs)) (hl:bs.length<140737488351300)
  (hc:(u8s bs++(u8s (List.replicate 7 165)++rest)).length=c)
  {K:VK} {Kp:PK} (hk:∀ cs h',Hp h0 F h' [⟨o,true,T_uint8,cs⟩]->K (.bool true) h') :
  CP F_burinkit_Back #[.slice (at0 o) bs.length c, .slice b bs.length bc] h K Kp:=by
 refine call_burinkit_Back ?_
 unfold burinkit_Back
 have hlen:=hc
 simp only [List.length_append,u8s_length,List.length_replicate] at hlen
 refine eq_ok (xs:=bs) (ys:=bs) (row_rdO H 0 rfl) hr hl ?_
 refine ⟨_,rfl,?_⟩
 simp only [decide_true]
 refine bindI_of (((bs.length+7:Nat):Int)) (by exact i64_at _ _ (by omega) (by omega) (by omega)) ?_
 refine needs_of (by omega) ?_
 have e:subA (some ⟨o,0,none⟩) c 0 1=some ⟨o,0,none⟩:=by unfold subA; split <;> rfl
 rw [e]
 simp only [Int.toNat_natCast,Nat.sub_zero]
 refine ⟨fun n vs h'=>∃ i:Nat,i+n=7/\vs=[.bool true, .int .i64 ((bs.length+i:Nat):Int)]/\h'=h,⟨7,0,rfl,rfl,rfl⟩,?_⟩
 rintro n h2 u ok x ⟨i,hin,hx,rfl⟩
 injection hx with hx hx2
 injection hx with hx
 injection hx2 with hx2
 injection hx2 with _ hx2
 subst ok x
 refine bcase_of (fun h1=>?_) fun h1=>?_
 ·have h1:i<7:=by simp at h1; omega
  refine bcase_true (by rfl) ?_
  refine needs_of (by omega) ?_
  simp only [ptr_some_eq,add_mk,Nat.zero_add,Int.toNat_natCast,Nat.mul_one]
  have hg:(u8s (List.replicate 7 165))[i]? = some (.int .u8 ((165:Nat):Int)):=u8s_get (by rw [List.getElem?_replicate,if_pos h1])
  refine ldI_of (H.cell 0 rfl (app_get (u8s_length bs) i (get_app hg))) ?_
  refine bindI_of (((bs.length+(i+1):Nat):Int)) (by exact i64_at _ _ (by omega) (by omega) (by omega)) ?_
  exact ⟨n-1,by omega,i+1,by omega,rfl,by first | rfl | trivial⟩
 ·have h1:i=7:=by simp at h1; omega
  subst h1
  refine ⟨fun n vs h'=>∃ (i:Nat) (cs:List Value),i+n=bs.length+7/\vs=[.int .i64 (i:Int)]/\cs.length=c/\Hp h0 F h' [⟨o,true,T_uint8,cs⟩],⟨bs.length+7,0,_,by omega,rfl,hc,H⟩,?_⟩
  clear H hr
  rintro n h2 u x ⟨i,cs,hin,hx,hcl,H⟩
  injection hx with hx
  injection hx with _ hx
  subst hx
  refine bcase_of (fun h1=>?_) fun h1=>?_
  ·have h1:i<bs.length+7:=by simp at h1; omega
   refine needs_of (by omega) ?_
   simp only [ptr_some_eq,add_mk,Nat.zero_add,Int.toNat_natCast,Nat.mul_one]
   refine stV_hp H 0 rfl (by omega) rfl fun h hsz H=>?_
   refine bindI_of (((i+1:Nat):Int)) (by exact i64_at _ _ (by omega) (by omega) (by omega)) ?_
   exact ⟨n-1,by omega,i+1,_,by omega,rfl,by rw [List.length_set]; exact hcl,H⟩
  ·exact hk _ _ H
def drrest (s:Dec) (bp:Option Addr) (bc:Nat):List Value :=
 [.int .i64 (s.a:Nat), .int .i64 (s.c:Nat), .int .i64 (s.t:Nat), .slice bp s.b.length bc, .int .i64 (s.i:Nat)]
def refD (A:RP) (e:Ent) (bp:Option Addr) (bc:Nat) (s:Dec):List Ent :=
 sideL A.p T_burinref4_Decoder (drrest s bp bc) A.g A.gc A.sq A.bq s.n s.st A.grest e
section
variable {h:Heap} {A:RP} {e:Ent} {bp:Option Addr} {bc:Nat} {s:Dec} {F:List Nat} {h0:Heap}
theorem rbyte_ok (H:Hp h0 F h (refD A e bp bc s)) (hb:BOk e bp s.b) (hb8:∀ x∈s.b,x<256) {i:Nat}
  {K:VK} {Kp:PK} (hk:K (.int .i64 (byteD s i:Nat)) h):CP F_burinref4_Decoder_byte #[.pointer (at0 A.p), .int .i64 (i:Nat)] h K Kp:=by
 refine call_burinref4_Decoder_byte ?_
 unfold burinref4_Decoder_byte
 try simp only [ptr_some_eq,add_mk,Nat.zero_add,Nat.add_zero]
 refine ldS_of (H.cell 0 rfl rfl) ?_
 refine bcase_of (fun h1=>?_) fun h1=>?_
 ·have h1:i<s.b.length:=by simp at h1; omega
  obtain ⟨_,hb | ⟨rest,hbp,he⟩⟩:=hb
  ·rw [hb] at h1; simp at h1
  ·have hg:s.b[i]? = some (byteD s i):=by
    unfold byteD
    rw [List.getD_eq_getElem?_getD,List.getElem?_eq_getElem h1]; rfl
   have hlt:=byteD_lt hb8 (s:=s) i
   refine ldS_of (H.cell 0 rfl rfl) ?_
   refine needs_of (by omega) ?_
   rw [hbp]
   simp only [Int.toNat_natCast,Nat.mul_one]
   try simp only [ptr_some_eq,add_mk,Nat.zero_add,Nat.add_zero]
   refine ldI_of (H.cell 4 rfl (i:=i) (by rw [he]; exact get_app (u8s_get hg))) ?_
   refine bindI_of (((byteD s i:Nat):Int)) (by exact i64_in _ (by omega) (by omega)) ?_
   exact hk
 ·have h1:s.b.length<=i:=by simp at h1; omega
  have hg:byteD s i=255:=by
   unfold byteD
   rw [List.getD_eq_getElem?_getD,List.getElem?_eq_none h1]; rfl
  rw [hg] at hk
  exact hk
theorem mask32m (x:Nat) (hx:x<9223372036854775808):bitI .and .i64 (x:Int) 4294967295=((x % M32:Nat):Int) :=
 (and63 x 4294967295 hx (by omega)).trans (by congr 1; exact Nat.and_two_pow_sub_one_eq_mod x 32)
theorem rin_ok (H:Hp h0 F h (refD A e bp bc s)) (hb:BOk e bp s.b) (hs:MidD s) (hbl:s.b.length<140737488351300)
  {K:VK} {Kp:PK} (hk:∀ h',Hp h0 F h' (refD A e bp bc (inD s))->K (.tuple #[]) h'):CP F_burinref4_Decoder_in #[.pointer (at0 A.p)] h K Kp:=by
 refine call_burinref4_Decoder_in ?_
 unfold burinref4_Decoder_in
 have hi:=hs.i
 have hc:=hs.c
 have hM:M32=4294967296:=rfl
 have hb1:=byteD_lt hs.b (s:=s) (s.i+1)
 have hb0:=byteD_lt hs.b (s:=s) s.i
 try simp only [ptr_some_eq,add_mk,Nat.zero_add,Nat.add_zero]
 refine ldI_of (H.cell 0 rfl rfl) ?_
 refine rbyte_ok H hb hs.b ?_
 refine ⟨_,rfl,?_⟩
 rw [inD_eq] at hk
 refine bcase_of (fun h1=>?_) fun h1=>?_
 ·have h1:¬ byteD s s.i≠255:=by simp at h1; omega
  rw [if_neg h1] at hk
  refine ldI_of (H.cell 0 rfl rfl) ?_
  refine bindI_of (((s.i+1:Nat):Int)) (by exact i64_at _ _ (by omega) (by omega) (by omega)) ?_
  refine rbyte_ok H hb hs.b ?_
  refine ⟨_,rfl,?_⟩
  refine bcase_of (fun h2=>?_) fun h2=>?_
  ·have h2:byteD s (s.i+1) > 143:=by simp at h2; omega
   rw [if_pos h2] at hk
   refine ldI_of (H.cell 0 rfl rfl) ?_
   refine bindI_of (((s.c+65280:Nat):Int)) (by exact i64_at _ _ (by omega) (by omega) (by omega)) ?_
   refine stV_hp H 0 rfl (by first | exact Nat.le_of_ble_eq_true rfl | simp) rfl fun h hsz H=>?_
   refine stV_hp H 0 rfl (by first | exact Nat.le_of_ble_eq_true rfl | simp) rfl fun h hsz H=>?_
   refine ldI_of (H.cell 0 rfl rfl) ?_
   refine bindI_of _ (mask32m _ (by omega)) ?_
   refine stV_hp H 0 rfl (by first | exact Nat.le_of_ble_eq_true rfl | simp) rfl fun h hsz H=>?_
   exact hk _ H
  ·have h2:¬ byteD s (s.i+1) > 143:=by simp at h2; omega
   rw [if_neg h2] at hk
   refine ldI_of (H.cell 0 rfl rfl) ?_
   refine bindI_of (((s.i+1:Nat):Int)) (by exact i64_at _ _ (by omega) (by omega) (by omega)) ?_
   refine stV_hp H 0 rfl (by first | exact Nat.le_of_ble_eq_true rfl | simp) rfl fun h hsz H=>?_
   refine ldI_of (H.cell 0 rfl rfl) ?_
   refine bindI_of (((byteD s (s.i+1)*512:Nat):Int)) (by exact shl_of (i:=9) (by decide) (i64_in _ (by omega) (by omega))) ?_
   refine bindI_of (((s.c+byteD s (s.i+1)*512:Nat):Int)) (by exact i64_at _ _ (by omega) (by omega) (by omega)) ?_
   refine stV_hp H 0 rfl (by first | exact Nat.le_of_ble_eq_true rfl | simp) rfl fun h hsz H=>?_
   refine stV_hp H 0 rfl (by first | exact Nat.le_of_ble_eq_true rfl | simp) rfl fun h hsz H=>?_
   refine ldI_of (H.cell 0 rfl rfl) ?_
   refine bindI_of _ (mask32m _ (by omega)) ?_
   refine stV_hp H 0 rfl (by first | exact Nat.le_of_ble_eq_true rfl | simp) rfl fun h hsz H=>?_
   exact hk _ H
 ·have h1:byteD s s.i≠255:=by simp at h1; omega
  rw [if_pos h1] at hk
  refine ldI_of (H.cell 0 rfl rfl) ?_
  refine bindI_of (((s.i+1:Nat):Int)) (by exact i64_at _ _ (by omega) (by omega) (by omega)) ?_
  refine stV_hp H 0 rfl (by first | exact Nat.le_of_ble_eq_true rfl | simp) rfl fun h hsz H=>?_
  refine ldI_of (H.cell 0 rfl rfl) ?_
  refine ldI_of (H.cell 0 rfl rfl) ?_
  have H2:Hp h0 F h (refD A e bp bc { s with i:=s.i+1 }):=H
  refine rbyte_ok H2 hb hs.b ?_
  refine ⟨_,rfl,hext.refl _,?_⟩
  have hb2:byteD { s with i:=s.i+1 } (s.i+1)=byteD s (s.i+1):=rfl
  rw [hb2]
  refine bindI_of (((byteD s (s.i+1)*256:Nat):Int)) (by exact shl_of (i:=8) (by decide) (i64_in _ (by omega) (by omega))) ?_
  refine bindI_of (((s.c+byteD s (s.i+1)*256:Nat):Int)) (by exact i64_at _ _ (by omega) (by omega) (by omega)) ?_
  refine stV_hp H 0 rfl (by first | exact Nat.le_of_ble_eq_true rfl | simp) rfl fun h hsz H=>?_
  refine stV_hp H 0 rfl (by first | exact Nat.le_of_ble_eq_true rfl | simp) rfl fun h hsz H=>?_
  refine ldI_of (H.cell 0 rfl rfl) ?_
  refine bindI_of _ (mask32m _ (by omega)) ?_
  refine stV_hp H 0 rfl (by first | exact Nat.le_of_ble_eq_true rfl | simp) rfl fun h hsz H=>?_
  exact hk _ H
theorem rdrenew_ok (H:Hp h0 F h (refD A e bp bc s)) (hb:BOk e bp s.b) (hs:MidD s) (hbl:s.b.length<140737488351300) (ha:1<=s.a) (ha':s.a<0x8000)
  {K:VK} {Kp:PK} (hk:∀ h',Hp h0 F h' (refD A e bp bc (renewD 17 s))->K (.tuple #[]) h'):CP F_burinref4_Decoder_renew #[.pointer (at0 A.p)] h K Kp:=by
 generalize hR:renewD 17 s=R at hk
 refine call_burinref4_Decoder_renew ?_
 unfold burinref4_Decoder_renew
 refine ⟨fun n vs h'=>∃ (first:Bool) (s':Dec),vs=[.bool first]/\Hp h0 F h' (refD A e bp bc s')/\MidD s'/\s'.b=s.b /\
   ((first=false/\0x8000<=s'.a/\s'=R)\/(s'.a<0x8000/\0x8000<=s'.a*2 ^ n/\renewD n s'=R)),
  ⟨17,true,s,rfl,H,hs,rfl, .inr ⟨ha',by have:(2:Nat) ^ 17=131072:=rfl; omega,hR⟩⟩,?_⟩
 clear H
 rintro n h u x ⟨first,s',hx,H,hm,hbe,hc⟩
 injection hx with hx
 injection hx with hx
 subst hx
 refine ⟨fun vs h'=>h'=h/\s'.a<0x8000/\0x8000<=s'.a*2 ^ n/\renewD n s'=R,?_,?_⟩
 ·refine bcase_of (fun h1=>?_) fun h1=>?_
  ·rcases hc with ⟨h2,_⟩ | h2
   ·rw [h1] at h2; cases h2
   ·exact ⟨rfl,h2⟩
  ·have hcell0:=H.cell 0 rfl (i:=4) (v := .int .i64 (s'.a:Nat)) rfl
   rcases hc with ⟨_,h2,h5⟩ | h2
   ·have h4:¬ ((s'.a:Nat):Int)<32768:=by
     have:(32768:Int)<=((s'.a:Nat):Int):=by exact_mod_cast h2
     exact Int.not_lt.2 this
    refine ldI_of (x:=((s'.a:Nat):Int)) hcell0 ?_
    simp only [decide_eq_false h4]
    exact hk _ (h5 ▸ H)
   ·have h4:((s'.a:Nat):Int)<32768:=by exact_mod_cast h2.1
    refine ldI_of (x:=((s'.a:Nat):Int)) hcell0 ?_
    simp only [decide_eq_true h4]
    exact ⟨by first | rfl | trivial,h2⟩
 ·rintro h2 u ⟨rfl,hlt,hge,he⟩
  obtain ⟨n,rfl⟩:∃ m,n=m+1:=by
   cases n with
   | zero=>simp at hge; omega
   | succ m=>exact ⟨m,rfl⟩
  obtain ⟨g1,g2,g3,g4,g5⟩:=shiftD_mid hm
  have hnext:0x8000<=(shiftD s').a*2 ^ n:=by
   rw [g2]
   rw [Nat.pow_succ] at hge
   have:s'.a*(2 ^ n*2)=2*s'.a*2 ^ n:=by rw [Nat.mul_comm (2 ^ n) 2,<- Nat.mul_assoc,Nat.mul_comm s'.a 2]
   omega
  rw [renewD_succ] at he
  rw [<- hbe] at hb hbl
  refine ⟨fun vs h'=>Hp h0 F h' (refD A e bp bc (if s'.t=0 then inD s' else s')),?_,?_⟩
  ·try simp only [ptr_some_eq,add_mk,Nat.zero_add,Nat.add_zero]
   refine ldI_of (H.cell 0 rfl rfl) ?_
   refine bcase_of (fun h1=>?_) fun h1=>?_
   ·have h1:s'.t=0:=by simp at h1; omega
    refine rin_ok H hb hm hbl fun h' H=>?_
    rw [if_pos h1]
    exact H
   ·have h1:¬ s'.t=0:=by simp at h1; omega
    rw [if_neg h1]
    exact H
  ·intro h u H
   rw [shiftD_eq] at g1 g2 g5 hnext he
   have hS:MidD (if s'.t=0 then inD s' else s')/\(if s'.t=0 then inD s' else s').a=s'.a/\1<=(if s'.t=0 then inD s' else s').t:=by
    split
    ·obtain ⟨i1,i2,_,_,_,i6⟩:=inD_mid hm
     exact ⟨i1,i2,i6⟩
    ·exact ⟨hm,rfl,by omega⟩
   generalize (if s'.t=0 then inD s' else s')=S at H g1 g2 g5 hnext he hS
   obtain ⟨hS1,hS2,hS3⟩:=hS
   have hSc:=hS1.c
   have hSt:=hS1.t8
   have hM:M32=4294967296:=rfl
   try simp only [ptr_some_eq,add_mk,Nat.zero_add,Nat.add_zero]
   refine ldI_of (H.cell 0 rfl rfl) ?_
   refine bindI_of (((2*S.a:Nat):Int)) (by exact i64_at _ _ (by omega) (by omega) (by omega)) ?_
   refine stV_hp H 0 rfl (by first | exact Nat.le_of_ble_eq_true rfl | simp) rfl fun h hsz H=>?_
   refine ldI_of (H.cell 0 rfl rfl) ?_
   refine bindI_of (((2*S.c:Nat):Int)) (by exact i64_at _ _ (by omega) (by omega) (by omega)) ?_
   refine bindI_of _ (mask32m _ (by omega)) ?_
   refine stV_hp H 0 rfl (by first | exact Nat.le_of_ble_eq_true rfl | simp) rfl fun h hsz H=>?_
   refine ldI_of (H.cell 0 rfl rfl) ?_
   refine bindI_of (((S.t-1:Nat):Int)) (by exact i64_at _ _ (by omega) (by omega) (by omega)) ?_
   refine stV_hp H 0 rfl (by first | exact Nat.le_of_ble_eq_true rfl | simp) rfl fun h hsz H=>?_
   have H2:Hp h0 F h (refD A e bp bc { S with a:=2*S.a,c:=2*S.c % M32,t:=S.t-1 }):=H
   refine ⟨n,Nat.lt_succ_self n,false,_,rfl,H2,g1,g5.trans hbe,?_⟩
   by_cases h3:0x8000<=2*S.a
   ·rw [if_pos h3] at he; exact .inl ⟨rfl,h3,he⟩
   ·rw [if_neg h3] at he; exact .inr ⟨by show 2*S.a<_; omega,hnext,he⟩
theorem rget_ok (H:Hp h0 F h (refD A e bp bc s)) (hb:BOk e bp s.b) (hs:WfD s) (hbl:s.b.length<140737488351300) (hn:s.n<16777216) (hl:1<=s.st.length) (hl2:s.st.length<=131072)
  {ctx:Int} {K:VK} {Kp:PK} (hk:∀ h',Hp h0 F h' (refD A e bp bc (getD s (idx ctx s.st.length)).1)->K (.tuple #[.int .i64 ((getD s (idx ctx s.st.length)).2:Nat), .int .i64 0]) h') :
  CP F_burinref4_Decoder_Get #[.pointer (at0 A.p), .int .i64 ctx] h K Kp:=by
 refine call_burinref4_Decoder_Get ?_
 unfold burinref4_Decoder_Get
 try simp only [ptr_some_eq,add_mk,Nat.zero_add,Nat.add_zero]
 refine ldI_of (H.cell 0 rfl rfl) ?_
 refine bcase_false (by simp; omega) ?_
 refine ldI_of (H.cell 0 rfl rfl) ?_
 refine bindI_of (((s.n+1:Nat):Int)) (by exact i64_at _ _ (by omega) (by omega) (by omega)) ?_
 refine stV_hp H 0 rfl (by first | exact Nat.le_of_ble_eq_true rfl | simp) rfl fun h hsz H=>?_
 have H2:Hp h0 F h (refD A e bp bc { s with n:=s.n+1 }):=H
 refine index_ok (m:=s.st.length) (n:=s.n+1) H2 0 rfl hl hl2 ?_
 refine ⟨_,rfl,?_⟩
 have hil:=idx_lt ctx hl
 obtain ⟨x,hx⟩:∃ x,s.st[idx ctx s.st.length]? = some x:=⟨_,List.getElem?_eq_getElem hil⟩
 have hx94:x<94:=hs.st x (List.mem_of_getElem? hx)
 rw [getD_at s _ x hx] at hk
 have hM:=set_lt hs.st (k:=idx ctx s.st.length) (upM_lt hx94)
 have hL:=set_lt hs.st (k:=idx ctx s.st.length) (upL_lt hx94)
 generalize idx ctx s.st.length=k at hk hM hL hx hil ⊢
 have hr:x / 2<47:=by omega
 have hq1:=qOf_pos hr
 have hq2:=qOf_le hr
 have hlo:=hs.lo
 have hhi:=hs.hi
 have hc:=hs.c
 have hM32:M32=4294967296:=rfl
 have H:=H2
 clear H2
 refine ldS_of (H.cell 0 rfl rfl) ?_
 refine ldS_of (H.cell 0 rfl rfl) ?_
 refine needs_of (by first | omega | (refine ⟨by omega,?_⟩; show ((k:Nat):Int)<((s.st.length:Nat):Int); omega)) ?_
 try simp only [ptr_some_eq,add_mk,Nat.zero_add,Int.toNat_natCast,Nat.mul_one]
 refine ldI_of (H.cell 2 rfl (i64s_get (half_get hx))) ?_
 refine needs_of (by first | omega | (refine ⟨by omega,?_⟩; show ((k:Nat):Int)<((s.st.length:Nat):Int); omega)) ?_
 try simp only [ptr_some_eq,add_mk,Nat.zero_add,Int.toNat_natCast,Nat.mul_one]
 refine ldI_of (H.cell 1 rfl (g_get hr (j:=0) rfl)) ?_
 refine ldS_of (H.cell 0 rfl rfl) ?_
 refine needs_of (by first | omega | (refine ⟨by omega,?_⟩; show ((k:Nat):Int)<((s.st.length:Nat):Int); omega)) ?_
 try simp only [ptr_some_eq,add_mk,Nat.zero_add,Int.toNat_natCast,Nat.mul_one]
 refine ldI_of (H.cell 3 rfl (i64s_get (low_get hx))) ?_
 refine ldI_of (H.cell 0 rfl rfl) ?_
 refine bindI_of (((s.a-qOf (x / 2):Nat):Int)) (by exact i64_at _ _ (by show (s.a:Int)-((qOf (x / 2):Nat):Int)=_; omega) (by omega) (by omega)) ?_
 refine stV_hp H 0 rfl (by first | exact Nat.le_of_ble_eq_true rfl | simp) rfl fun h hsz H=>?_
 refine ldI_of (H.cell 0 rfl rfl) ?_
 refine bindI_of (((s.c / 65536:Nat):Int)) (by exact shr_of (i:=16) (by decide)) ?_
 have H2:Hp h0 F h (refD A e bp bc { s with n:=s.n+1,a:=s.a-qOf (x / 2) }):=H
 have H:=H2
 clear H2
 refine bcase_of (fun h1=>?_) fun h1=>?_
 ·have h1:s.c / 65536<qOf (x / 2):=by simp at h1; omega
  rw [if_pos h1] at hk
  refine ⟨fun vs h''=>(s.a-qOf (x / 2)<qOf (x / 2)/\vs=[.int .i64 ((x % 2:Nat):Int)]/\Hp h0 F h'' (refD A e bp bc { s with a:=s.a-qOf (x / 2),n:=s.n+1,st:=s.st.set k (upM x) })) \/
    (¬ s.a-qOf (x / 2)<qOf (x / 2)/\vs=[.int .i64 ((1-x % 2:Nat):Int)]/\Hp h0 F h'' (refD A e bp bc { s with a:=s.a-qOf (x / 2),n:=s.n+1,st:=s.st.set k (upL x) })),?_,?_⟩
  ·refine ldI_of (H.cell 0 rfl rfl) ?_
   refine bcase_of (fun h3=>?_) fun h3=>?_
   ·have h3:s.a-qOf (x / 2)<qOf (x / 2):=by simp at h3; omega
    refine slk_ok H hx hx94 fun h H=>?_
    exact .inl ⟨h3,rfl,H.as (by simp [refD,sideL,sideV,drrest])⟩
   ·have h3:¬ s.a-qOf (x / 2)<qOf (x / 2):=by simp at h3; omega
    refine bindI_of (((1-x % 2:Nat):Int)) (by exact i64_at _ _ (by omega) (by omega) (by omega)) ?_
    refine sother_ok H hx hx94 fun h H=>?_
    exact .inr ⟨h3,rfl,H.as (by simp [refD,sideL,sideV,drrest])⟩
  ·rintro h'' u y (⟨h3,hy,H⟩ | ⟨h3,hy,H⟩)
   ·injection hy with hy
    injection hy with _ hy
    subst hy
    rw [if_pos h3] at hk
    refine stV_hp H 0 rfl (by first | exact Nat.le_of_ble_eq_true rfl | simp) rfl fun h hsz H=>?_
    exact rdrenew_ok (s:={ s with a:=qOf (x / 2),n:=s.n+1,st:=s.st.set k (upM x) }) H hb ⟨hs.t8,hc,hs.b,hM,hs.i⟩ hbl hq1 (by show qOf _<_; omega) hk
   ·injection hy with hy
    injection hy with _ hy
    subst hy
    rw [if_neg h3] at hk
    refine stV_hp H 0 rfl (by first | exact Nat.le_of_ble_eq_true rfl | simp) rfl fun h hsz H=>?_
    exact rdrenew_ok (s:={ s with a:=qOf (x / 2),n:=s.n+1,st:=s.st.set k (upL x) }) H hb ⟨hs.t8,hc,hs.b,hL,hs.i⟩ hbl hq1 (by show qOf _<_; omega) hk
 ·have h1:¬ s.c / 65536<qOf (x / 2):=by simp at h1; omega
  rw [if_neg h1] at hk
  have hc':s.c-qOf (x / 2)*65536<M32:=by omega
  refine ldI_of (H.cell 0 rfl rfl) ?_
  refine bindI_of (((qOf (x / 2)*65536:Nat):Int)) (by exact shl_of (i:=16) (by decide) (i64_in _ (by omega) (by omega))) ?_
  refine bindI_of (((s.c-qOf (x / 2)*65536:Nat):Int)) (by exact i64_at _ _ (by show (s.c:Int)-((qOf (x / 2)*65536:Nat):Int)=_; omega) (by omega) (by omega)) ?_
  refine stV_hp H 0 rfl (by first | exact Nat.le_of_ble_eq_true rfl | simp) rfl fun h hsz H=>?_
  refine ldI_of (H.cell 0 rfl rfl) ?_
  have H2:Hp h0 F h (refD A e bp bc { s with n:=s.n+1,a:=s.a-qOf (x / 2),c:=s.c-qOf (x / 2)*65536 }):=H
  have H:=H2
  clear H2
  refine bcase_of (fun h2=>?_) fun h2=>?_
  ·have h2:0x8000<=s.a-qOf (x / 2):=by simp at h2; omega
   rw [if_pos h2] at hk
   exact hk _ H
  ·have h2:¬ 0x8000<=s.a-qOf (x / 2):=by simp at h2; omega
   rw [if_neg h2] at hk
   refine ldI_of (H.cell 0 rfl rfl) ?_
   refine bcase_of (fun h3=>?_) fun h3=>?_
   ·have h3:s.a-qOf (x / 2)<qOf (x / 2):=by simp at h3; omega
    rw [if_pos h3] at hk
    refine bindI_of (((1-x % 2:Nat):Int)) (by exact i64_at _ _ (by omega) (by omega) (by omega)) ?_
    refine sother_ok H hx hx94 fun h H=>?_
    exact rdrenew_ok (s:={ s with a:=s.a-qOf (x / 2),c:=s.c-qOf (x / 2)*65536,n:=s.n+1,st:=s.st.set k (upL x) }) (H.as (by simp [refD,sideL,sideV,drrest])) hb ⟨hs.t8,hc',hs.b,hL,hs.i⟩ hbl (by show 1<=s.a-_; omega) (by show s.a-_<_; omega) hk
   ·have h3:¬ s.a-qOf (x / 2)<qOf (x / 2):=by simp at h3; omega
    rw [if_neg h3] at hk
    refine slk_ok H hx hx94 fun h H=>?_
    exact rdrenew_ok (s:={ s with a:=s.a-qOf (x / 2),c:=s.c-qOf (x / 2)*65536,n:=s.n+1,st:=s.st.set k (upM x) }) (H.as (by simp [refD,sideL,sideV,drrest])) hb ⟨hs.t8,hc',hs.b,hM,hs.i⟩ hbl (by show 1<=s.a-_; omega) (by show s.a-_<_; omega) hk
end
theorem rnewD_ok {hB:Heap} {n:Nat} (hn:n<=131072) {b:List Nat} (hb:∀ x∈b,x<256) (hbl:b.length<140737488351300) {src:Option Addr} {bc0:Nat} (hr:rdO hB src (b.length*1) (u8s b)) {K:VK} {Kp:PK}
  (hk:∀ A e bp bc h',BOk e bp b->Hp hB [] h' (refD A e bp bc (newD b n))->K (.pointer (at0 A.p)) h'):CP F_burinref4_NewDecoder #[.slice src b.length bc0, .int .i64 (n:Nat)] hB K Kp:=by
 refine call_burinref4_NewDecoder ?_
 unfold burinref4_NewDecoder
 refine begun_ok hn fun g grest gc sq bq sp h' hsp H=>?_
 refine ⟨_,_,_,_,_,_,_,_,_,_,rfl,?_⟩
 have goal:∀ (bp:Option Addr) (bc:Nat) (e:Ent) (h2:Heap),BOk e bp b->Hp hB [] h2 [⟨g,true,T_burinref4_Row,growsN 47++grest⟩,⟨sq,true,T_int,i64s (List.replicate n 0)⟩,⟨bq,true,T_int,i64s (List.replicate n 0)⟩,e] ->
   Go.Den.newC h2 [.slice (at0 g) 47 gc, .slice (at0 sq) n n, .slice (at0 bq) n n, .int .i64 0, .int .i64 32768, .int .i64 0, .int .i64 0, .slice bp b.length bc, .int .i64 0] T_burinref4_Decoder fun r_9 h_10 =>
   CP F_burinref4_Decoder_byte #[.pointer (some ⟨r_9,0,none⟩), .int .i64 0] h_10 (fun v_11 h_12 =>
   ∃ (r_13:Int),v_11 = .int .i64 r_13/\(
   bindI (shlI .i64 r_13 (16:Int)) fun z_14 =>
   stV h_12 ((⟨r_9,0,none⟩:Addr).add 5) (.int .i64 z_14) fun h_15 =>
   CP F_burinref4_Decoder_in #[.pointer (some ⟨r_9,0,none⟩)] h_15 (fun v_16 h_17 =>
   ldI h_17 ((⟨r_9,0,none⟩:Addr).add 5) .i64 fun x_18 =>
   bindI (shlI .i64 x_18 (7:Int)) fun z_19 =>
   bindI (bitI .and .i64 z_19 (4294967295:Int)) fun z_20 =>
   stV h_17 ((⟨r_9,0,none⟩:Addr).add 5) (.int .i64 z_20) fun h_21 =>
   ldI h_21 ((⟨r_9,0,none⟩:Addr).add 6) .i64 fun x_22 =>
   bindI (IntKind.i64.wrap (x_22-(7:Int))) fun z_23 =>
   stV h_21 ((⟨r_9,0,none⟩:Addr).add 6) (.int .i64 z_23) fun h_24 =>
   K (.pointer (some ⟨r_9,0,none⟩)) h_24) (Kp))) (Kp):=by
  intro bp bc e h2 hbo H
  refine newC_hp H fun p h H=>?_
  have H2:=H.pick [4,0,1,2,3] (by decide) (L':=refD ⟨p,g,gc,sq,bq,grest⟩ e bp bc (dec0 b n)) (by simp [refD,sideL,sideV,drrest,dec0,half,low])
  have H:=H2
  clear H2
  have hb0:=byteD_lt (s:=dec0 b n) hb 0
  refine rbyte_ok (A:=⟨p,g,gc,sq,bq,grest⟩) (i:=0) H hbo hb ?_
  refine ⟨_,rfl,?_⟩
  refine bindI_of (((byteD (dec0 b n) 0*65536:Nat):Int)) (by exact shl_of (i:=16) (by decide) (i64_in _ (by omega) (by omega))) ?_
  try simp only [ptr_some_eq,add_mk,Nat.zero_add,Nat.add_zero]
  refine stV_hp H 0 rfl (by first | exact Nat.le_of_ble_eq_true rfl | simp) rfl fun h hsz H=>?_
  have H2:Hp _ [] h (refD ⟨p,g,gc,sq,bq,grest⟩ e bp bc { dec0 b n with c:=byteD (dec0 b n) 0*65536 }):=H
  have hm:MidD { dec0 b n with c:=byteD (dec0 b n) 0*65536 }:=⟨Nat.zero_le _,by show byteD (dec0 b n) 0*65536<4294967296; omega,hb,fun x hx=>by simp only [dec0,List.mem_replicate] at hx; omega,Nat.zero_le _⟩
  obtain ⟨i1,i2,i3,i4,i5,i6⟩:=inD_mid hm
  refine rin_ok (A:=⟨p,g,gc,sq,bq,grest⟩) H2 hbo hm hbl fun h H=>?_
  have hn:newD b n = { inD { dec0 b n with c:=byteD (dec0 b n) 0*65536 } with c:=(inD { dec0 b n with c:=byteD (dec0 b n) 0*65536 }).c*128 % M32,t:=(inD { dec0 b n with c:=byteD (dec0 b n) 0*65536 }).t-7 }:=rfl
  have ht7:7<=(inD { dec0 b n with c:=byteD (dec0 b n) 0*65536 }).t:=by
   unfold inD
   split
   ·show 7<=8; omega
   ·split
    ·show 7<=8; omega
    ·show 7<=7; omega
  generalize inD { dec0 b n with c:=byteD (dec0 b n) 0*65536 }=S at H hn i1 ht7
  have hSc:=i1.c
  have hSt:=i1.t8
  have hM:M32=4294967296:=rfl
  refine ldI_of (H.cell 0 rfl rfl) ?_
  refine bindI_of (((S.c*128:Nat):Int)) (by exact shl_of (i:=7) (by decide) (i64_in _ (by omega) (by omega))) ?_
  refine bindI_of _ (mask32m _ (by omega)) ?_
  refine stV_hp H 0 rfl (by first | exact Nat.le_of_ble_eq_true rfl | simp) rfl fun h hsz H=>?_
  refine ldI_of (H.cell 0 rfl rfl) ?_
  refine bindI_of (((S.t-7:Nat):Int)) (by exact i64_at _ _ (by omega) (by omega) (by omega)) ?_
  refine stV_hp H 0 rfl (by first | exact Nat.le_of_ble_eq_true rfl | simp) rfl fun h hsz H=>?_
  refine hk ⟨p,g,gc,sq,bq,grest⟩ e bp bc _ hbo ?_
  rw [hn]
  exact H
 have hr2:=H.rdO hr
 rcases Nat.eq_zero_or_pos b.length with hz | hpos
 ·have hbn:b=[]:=List.length_eq_zero_iff.1 hz
  rw [hz] at hr2 goal ⊢
  refine appC_nil H hr2 ?_
  exact goal none 0 sp _ ⟨hsp, .inl hbn⟩ H
 ·refine appC_new H hr2 (u8s_length b) hpos (by omega) fun o rest h' he H'=>?_
  exact goal (some ⟨o,0,none⟩) _ ⟨o,true,T_uint8,u8s b++rest⟩ _ ⟨rfl, .inr ⟨rest,rfl,rfl⟩⟩ (H'.pick [0,1,2,4] (by decide) rfl)
end Go.Ar
namespace Go.Den.YtfaclehehhgpcaaGreat
open Go Go.Den
def burinref7_Need (C:CallP) (template:Int) (h:Heap) (K:VK) (Kp:PK):Prop :=
C F_burinref6_Size #[.int .i64 template] h (fun v_1 h_2 =>
∃ (r_3:Int),v_1 = .int .i64 r_3/\(
bindI (IntKind.i64.wrap (r_3+(1:Int))) fun z_4 =>
K (.int .i64 z_4) h_2)) (Kp)
def burinref7_Get (C:CallP) (a0:Option Addr) (a1:Int) (a2:Int) (a3:Int) (a4:Int) (a5:Bool) (h:Heap) (K:VK) (Kp:PK):Prop :=
newC h [.int .i64 0, .int .i64 0, .slice none 0 0] T_api_Bitmap fun r_1 h_2 =>
C F_burinref6_Places #[.int .i64 a4] h_2 (fun v_3 h_4 =>
∃ (r_5:Option Addr) (r_5n:Nat) (r_5c:Nat),v_3 = .slice r_5 r_5n r_5c/\(
C F_burinref0_White #[.int .i64 a2, .int .i64 a3] h_4 (fun v_6 h_7 =>
∃ (r_8:Int) (r_9:Int) (r_10:Option Addr) (r_10n:Nat) (r_10c:Nat),v_6 = .agg #[.int .i64 r_8, .int .i64 r_9, .slice r_10 r_10n r_10c]/\(
newC h_7 [.int .i64 0, .int .i64 0, .slice none 0 0] T_api_Bitmap fun r_11 h_12 =>
stV h_12 ((⟨r_11,0,none⟩:Addr).add 0) (.int .i64 r_8) fun h_13 =>
stV h_13 ((⟨r_11,0,none⟩:Addr).add 1) (.int .i64 r_9) fun h_14 =>
stV h_14 ((⟨r_11,0,none⟩:Addr).add 2) (.slice r_10 r_10n r_10c) fun h_15 =>
∃ J_16:Nat->List Value->Heap->Prop,(∃ n_18,J_16 n_18 [.int .i64 0] h_15)/\∀ (n_18:Nat) (h_19:Heap) (u_20:Nat->Value) (x_21:Int),J_16 n_18 [.int .i64 x_21] h_19->(
bcase (decide (x_21<a3)) (
∃ K_22:List Value->Heap->Prop,(
bcase a5 (
C F_burinref7_Need #[.int .i64 a4] h_19 (fun v_25 h_26 =>
∃ (r_27:Int),v_25 = .int .i64 r_27/\(
bindI (IntKind.i64.wrap (a1+r_27)) fun z_28 =>
bindI (IntKind.i64.wrap (z_28-(1:Int))) fun z_29 =>
C F_burinref4_Decoder_Get #[.pointer a0, .int .i64 z_29] h_26 (fun v_30 h_31 =>
∃ (r_32:Int),∃ (r_33:Int),v_30 = .tuple #[.int .i64 r_32, .int .i64 r_33]/\(
bcase (r_33 != (0:Int)) (
stV h_31 ((⟨r_1,0,none⟩:Addr).add 0) (.int .i64 0) fun h_34 =>
stV h_34 ((⟨r_1,0,none⟩:Addr).add 1) (.int .i64 0) fun h_35 =>
stV h_35 ((⟨r_1,0,none⟩:Addr).add 2) (.slice none 0 0) fun h_36 =>
ldI h_36 ((⟨r_1,0,none⟩:Addr).add 0) .i64 fun r_37 =>
ldI h_36 ((⟨r_1,0,none⟩:Addr).add 1) .i64 fun r_38 =>
ldS h_36 ((⟨r_1,0,none⟩:Addr).add 2) fun r_39 r_39n r_39c =>
K (.tuple #[.agg #[.int .i64 r_37, .int .i64 r_38, .slice r_39 r_39n r_39c], .int .i64 r_33]) h_36) <|
bcase (r_32 == (1:Int)) (
∃ J_40:Nat->List Value->Heap->Prop,(∃ n_42,J_40 n_42 [.int .i64 0] h_31)/\∀ (n_42:Nat) (h_43:Heap) (u_44:Nat->Value) (x_45:Int),J_40 n_42 [.int .i64 x_45] h_43->(
bcase (decide (x_45<a2)) (
bindI (IntKind.i64.wrap (x_21-(1:Int))) fun z_46 =>
ldI h_43 ((⟨r_11,0,none⟩:Addr).add 0) .i64 fun x_47 =>
ldI h_43 ((⟨r_11,0,none⟩:Addr).add 1) .i64 fun x_48 =>
ldS h_43 ((⟨r_11,0,none⟩:Addr).add 2) fun x_49 x_49n x_49c =>
ldI h_43 ((⟨r_11,0,none⟩:Addr).add 0) .i64 fun x_50 =>
ldI h_43 ((⟨r_11,0,none⟩:Addr).add 1) .i64 fun x_51 =>
ldS h_43 ((⟨r_11,0,none⟩:Addr).add 2) fun x_52 x_52n x_52c =>
C F_burinref0_Get #[.agg #[.int .i64 x_50, .int .i64 x_51, .slice x_52 x_52n x_52c], .int .i64 x_45, .int .i64 z_46] h_43 (fun v_53 h_54 =>
∃ (r_55:Int),v_53 = .int .i64 r_55/\(
hext h_43 h_54/\(
C F_burinref0_Put #[.agg #[.int .i64 x_47, .int .i64 x_48, .slice x_49 x_49n x_49c], .int .i64 x_45, .int .i64 x_21, .int .i64 r_55] h_54 (fun v_56 h_57 =>
bindI (IntKind.i64.wrap (x_45+(1:Int))) fun z_58 =>
∃ m_41,m_41<n_42/\J_40 m_41 [.int .i64 z_58] h_57) (Kp)))) (Kp)) <|
bindI (IntKind.i64.wrap (x_21+(1:Int))) fun z_59 =>
∃ m_17,m_17<n_18/\J_16 m_17 [.int .i64 z_59] h_43)) <|
K_22 [] h_31)) (Kp))) (Kp)) <|
K_22 [] h_19)/\∀ (h_23:Heap) (u_24:Nat->Value) ,K_22 [] h_23->(
∃ J_60:Nat->List Value->Heap->Prop,(∃ n_62,J_60 n_62 [.int .i64 0] h_23)/\∀ (n_62:Nat) (h_63:Heap) (u_64:Nat->Value) (x_65:Int),J_60 n_62 [.int .i64 x_65] h_63->(
bcase (decide (x_65<a2)) (
ldI h_63 ((⟨r_11,0,none⟩:Addr).add 0) .i64 fun x_66 =>
ldI h_63 ((⟨r_11,0,none⟩:Addr).add 1) .i64 fun x_67 =>
ldS h_63 ((⟨r_11,0,none⟩:Addr).add 2) fun x_68 x_68n x_68c =>
C F_burinref6_At #[.agg #[.int .i64 x_66, .int .i64 x_67, .slice x_68 x_68n x_68c], .slice r_5 r_5n r_5c, .int .i64 x_65, .int .i64 x_21] h_63 (fun v_69 h_70 =>
∃ (r_71:Int),v_69 = .int .i64 r_71/\(
bindI (IntKind.i64.wrap (a1+r_71)) fun z_72 =>
C F_burinref4_Decoder_Get #[.pointer a0, .int .i64 z_72] h_70 (fun v_73 h_74 =>
∃ (r_75:Int),∃ (r_76:Int),v_73 = .tuple #[.int .i64 r_75, .int .i64 r_76]/\(
bcase (r_76 != (0:Int)) (
stV h_74 ((⟨r_1,0,none⟩:Addr).add 0) (.int .i64 0) fun h_77 =>
stV h_77 ((⟨r_1,0,none⟩:Addr).add 1) (.int .i64 0) fun h_78 =>
stV h_78 ((⟨r_1,0,none⟩:Addr).add 2) (.slice none 0 0) fun h_79 =>
ldI h_79 ((⟨r_1,0,none⟩:Addr).add 0) .i64 fun r_80 =>
ldI h_79 ((⟨r_1,0,none⟩:Addr).add 1) .i64 fun r_81 =>
ldS h_79 ((⟨r_1,0,none⟩:Addr).add 2) fun r_82 r_82n r_82c =>
K (.tuple #[.agg #[.int .i64 r_80, .int .i64 r_81, .slice r_82 r_82n r_82c], .int .i64 r_76]) h_79) <|
ldI h_74 ((⟨r_11,0,none⟩:Addr).add 0) .i64 fun x_83 =>
ldI h_74 ((⟨r_11,0,none⟩:Addr).add 1) .i64 fun x_84 =>
ldS h_74 ((⟨r_11,0,none⟩:Addr).add 2) fun x_85 x_85n x_85c =>
C F_burinref0_Put #[.agg #[.int .i64 x_83, .int .i64 x_84, .slice x_85 x_85n x_85c], .int .i64 x_65, .int .i64 x_21, .int .i64 r_75] h_74 (fun v_86 h_87 =>
bindI (IntKind.i64.wrap (x_65+(1:Int))) fun z_88 =>
∃ m_61,m_61<n_62/\J_60 m_61 [.int .i64 z_88] h_87) (Kp))) (Kp))) (Kp)) <|
bindI (IntKind.i64.wrap (x_21+(1:Int))) fun z_89 =>
∃ m_17,m_17<n_18/\J_16 m_17 [.int .i64 z_89] h_63))) <|
ldI h_19 ((⟨r_11,0,none⟩:Addr).add 0) .i64 fun x_90 =>
ldI h_19 ((⟨r_11,0,none⟩:Addr).add 1) .i64 fun x_91 =>
ldS h_19 ((⟨r_11,0,none⟩:Addr).add 2) fun x_92 x_92n x_92c =>
stV h_19 ((⟨r_1,0,none⟩:Addr).add 0) (.int .i64 x_90) fun h_93 =>
stV h_93 ((⟨r_1,0,none⟩:Addr).add 1) (.int .i64 x_91) fun h_94 =>
stV h_94 ((⟨r_1,0,none⟩:Addr).add 2) (.slice x_92 x_92n x_92c) fun h_95 =>
ldI h_95 ((⟨r_1,0,none⟩:Addr).add 0) .i64 fun r_96 =>
ldI h_95 ((⟨r_1,0,none⟩:Addr).add 1) .i64 fun r_97 =>
ldS h_95 ((⟨r_1,0,none⟩:Addr).add 2) fun r_98 r_98n r_98c =>
K (.tuple #[.agg #[.int .i64 r_96, .int .i64 r_97, .slice r_98 r_98n r_98c], .int .i64 0]) h_95))) (Kp))) (Kp)
end Go.Den.YtfaclehehhgpcaaGreat
namespace Go.Den.YtfaclehehhgpcaaGreat
open Go Go.Den
theorem call_burinref7_Need {template:Int} {h:Heap} {K:VK} {Kp:PK} (H:burinref7_Need (CallsHP Go.Proofs.Tryz.prog) template h K Kp):CallsHP Go.Proofs.Tryz.prog F_burinref7_Need #[.int .i64 template] h K Kp :=
 callsHP_ofE (Hints.mk (fun i=>none) (fun i=>none) (fun i=>none) []) (by kernel_rfl) Go.Proofs.Tryz.func95 (by kernel_rfl) (fun C=>burinref7_Need C template h K Kp) (fun C=>by kernel_rfl) H
theorem call_burinref7_Get {a0:Option Addr} {a1:Int} {a2:Int} {a3:Int} {a4:Int} {a5:Bool} {h:Heap} {K:VK} {Kp:PK} (H:burinref7_Get (CallsHP Go.Proofs.Tryz.prog) a0 a1 a2 a3 a4 a5 h K Kp):CallsHP Go.Proofs.Tryz.prog F_burinref7_Get #[.pointer a0, .int .i64 a1, .int .i64 a2, .int .i64 a3, .int .i64 a4, .bool a5] h K Kp :=
 callsHP_ofE (Hints.mk (fun i=>bif Nat.beq i 14 then some ([8], .take 1 <| .take 2 <| .take 4 <| .take 5 <| .take 6 <| .take 0 <| .take 3 <| .go 7 <| .bar 8 [] <| .done) else (none)) (fun i=>bif Nat.beq i 4 then some ([(16, .int .i64)],1237940039285380274639020032) else (bif Nat.beq i 12 then some ([(19, .int .i64)],18445618173803233280) else (bif Nat.beq i 16 then some ([(20, .int .i64)],1237940020838636201196920832) else (none)))) (fun i=>bif Nat.beq i 15 then some ([],18446744065120542720) else (none)) []) (by kernel_rfl) Go.Proofs.Tryz.func136 (by kernel_rfl) (fun C=>burinref7_Get C a0 a1 a2 a3 a4 a5 h K Kp) (fun C=>by kernel_rfl) H
end Go.Den.YtfaclehehhgpcaaGreat
namespace Go.Bm
open Go Go.Den Go.Den.YtfaclehehhgpcaaGreat
section
variable {hB:Heap} {w b template:Int} {skip:Bool} {K:VK} {Kp:PK}
theorem need7_ok {t:Nat} (ht:t<4) (hk:∀ h',hext hB h'->K (.int .i64 (gsize t+1:Nat)) h'):CP F_burinref7_Need #[.int .i64 (t:Nat)] hB K Kp:=by
 refine call_burinref7_Need ?_
 unfold burinref7_Need
 have hgs:=gsize_le ht
 refine rsize6_ok ht fun h' e=>?_
 refine ⟨_,rfl,?_⟩
 refine bindI_of (((gsize t+1:Nat):Int)) (by exact i64_at _ _ (by omega) (by omega) (by omega)) ?_
 exact hk _ e
end
theorem runG_next {σ:Type} {step:σ->Nat->Bool->(Bool × σ) ⊕ (Int × σ)} {W t y:Nat} {skip:Bool} {g:(Int->Int->Bool) × σ} {G:Int->Int->Bool} {s:σ} (h:runG W t skip step y g = .inl (G,s)):runG W t skip step (y+1) g=match skip with
  | false=>rowG t step y W (G,s)
  | true=>match step s (gsize t) (sameB G W y) with
   | .inr e => .inr e
   | .inl (true,s') => .inl (copyRow G y,s')
   | .inl (false,s')=>rowG t step y W (G,s'):=by
 rw [runG,h]
 cases skip <;> rfl
theorem copy_same {G:Int->Int->Bool} {W y:Nat} (hG:∀ a b:Int,¬ (0<=a/\a<W)->G a b=false) (h:sameB G W y=true):copyRow G y=G:=by
 funext a b
 unfold copyRow
 by_cases hc:b=(y:Int)/\y≠0
 ·rw [if_pos hc]
  by_cases hin:0<=a/\a<W
  ·unfold sameB at h
   rw [List.all_eq_true] at h
   have:=h a.toNat (List.mem_range.2 (by omega))
   have ea:((a.toNat:Nat):Int)=a:=by omega
   rw [ea] at this
   rw [hc.1]
   exact (by simpa using this:G a (y:Int)=G a ((y:Int)-1)).symm
  ·rw [hG _ _ hin,hG _ _ hin]
 ·rw [if_neg hc]
theorem getP_side (ws:List Nat) (W X:Nat) (a b:Int) (h:¬ (0<=a/\a<W)):getP ws W X a b=false:=by
 unfold getP
 rw [decide_eq_false (by omega),Bool.false_and]
end Go.Bm
namespace Go.Bm
open Go Go.Den Go.Den.YtfaclehehhgpcaaGreat
section
variable (G R:Int->Int->Bool) (W m:Nat) (dx dy base:Int) {k b:Nat->Nat} {n0 cnt:Nat}
end
end Go.Bm
namespace Go.Bm
open Go Go.Den Go.Den.YtfaclehehhgpcaaGreat
end Go.Bm
namespace Go.Bm
open Go Go.Den Go.Den.YtfaclehehhgpcaaGreat
open Go.Ar (Dec BOk idx getD_ok getD_bit refD RP)
theorem getD_nat (s:Dec) (k:Nat):(Go.Ar.getD s k).2=(decide ((Go.Ar.getD s k).2=1)).toNat:=by
 have hbit:=getD_bit (s:=s) k
 by_cases h1:(Go.Ar.getD s k).2=1
 ·rw [decide_eq_true h1,h1]; rfl
 ·rw [decide_eq_false h1]; show _=0; omega
set_option maxHeartbeats 4000000 in
theorem rGet7_ok {FF:List Nat} {h0 h:Heap} {A:RP} {e0:Ent} {bp:Option Addr} {bc m n0:Nat} {s0:Dec} {bytes:List Nat} {Y:List Ent} (H:Hp h0 FF h (refD A e0 bp bc s0++Y)) (hb:BOk e0 bp bytes) (hbl:bytes.length<140737488351300) (hc:Go.Ar.DecOk bytes m n0 s0) (hm1:1<=m) (hm2:m<=131072)
  {base:Int} (hbase:0<=base/\base<=131072) {W X t:Nat} {skip:Bool} (ht:t<4) (hs:SizeP (W:Int) (X:Int)) (hN:n0+X*(W+1)<=16777216) {K:VK} {Kp:PK}
  (hk:∀ bs s' k q h',runG W t skip (stepG m base) X (fun _ _=>false,s0) = .inl (getP bs W X,s')->bs.length=X*wds W->W64 bs->PadZ W X bs->k<=X*(W+1)->Go.Ar.DecOk bytes m (n0+k) s' ->
   Hp h0 FF h' (refD A e0 bp bc s'++Y++[⟨q,true,T_uint64,u64s bs++[]⟩])->K (.tuple #[.agg #[.int .i64 (W:Nat), .int .i64 (X:Nat), .slice (at0 q) bs.length bs.length], .int .i64 0]) h') :
  CP F_burinref7_Get #[.pointer (at0 A.p), .int .i64 base, .int .i64 (W:Nat), .int .i64 (X:Nat), .int .i64 (t:Nat), .bool skip] h K Kp:=by
 refine call_burinref7_Get ?_
 unfold burinref7_Get
 obtain ⟨W',X',e1,e2,hW1,hW2,hX1,hX2,hWX⟩:=size_nat hs
 obtain rfl:W=W':=by omega
 obtain rfl:X=X':=by omega
 clear e1 e2
 have hgs:=gsize_le ht
 have hb':=hb.1
 refine newC_hp H fun r1 h H=>?_
 have H:=H.rot
 refine places_ok ht fun rp h' H'=>?_
 replace H:=(H.join H' rfl).rot
 clear H'
 refine ⟨_,_,_,rfl,?_⟩
 refine white_ok hs fun q h' H'=>?_
 replace H:=(H.join H' rfl).rot
 clear H'
 refine ⟨_,_,_,_,_,rfl,?_⟩
 refine newC_hp H fun r11 h H=>?_
 have H:=H.rot
 repeat first | with_reducible refine stA H 0 (by with_unfolding_all exact rfl) (by with_unfolding_all exact rfl) (by with_unfolding_all exact rfl) fun h H=>?_ | with_reducible refine st0 H 0 (by with_unfolding_all exact rfl) (by with_unfolding_all exact rfl) (by with_unfolding_all exact rfl) fun h H=>?_ | with_reducible refine stB H 0 (by with_unfolding_all exact rfl) (by with_unfolding_all exact rfl) (by with_unfolding_all exact rfl) fun h H=>?_
 obtain ⟨N,hNd⟩:∃ N,N=X*wds W:=⟨_,rfl⟩
 rw [<- hNd] at H
 obtain ⟨P,hP⟩:∃ P:List Nat->Dec->List Ent,P=fun ws s=>[⟨r11,true,T_api_Bitmap,[.int .i64 (W:Nat), .int .i64 (X:Nat), .slice (at0 q) N N]⟩,⟨q,true,T_uint64,u64s ws++[]⟩,⟨rp,true,T_int,plcI (plcs (spanL t))⟩,⟨r1,true,T_api_Bitmap,[.int .i64 0, .int .i64 0, .slice none 0 0]⟩]++(refD A e0 bp bc s++Y):=⟨_,rfl⟩
 have hPd:∀ ws s,P ws s=[⟨r11,true,T_api_Bitmap,[.int .i64 (W:Nat), .int .i64 (X:Nat), .slice (at0 q) N N]⟩,⟨q,true,T_uint64,u64s ws++[]⟩,⟨rp,true,T_int,plcI (plcs (spanL t))⟩,⟨r1,true,T_api_Bitmap,[.int .i64 0, .int .i64 0, .slice none 0 0]⟩]++(refD A e0 bp bc s++Y):=fun ws s=>by rw [hP]
 have H:Hp h0 FF h (P (List.replicate N 0) s0):=by rw [hPd]; exact H.as (by simp)
 have hplr:∀ {h:Heap} {ws:List Nat} {s:Dec},Hp h0 FF h (P ws s)->rdO h (at0 rp) (2*(plcs (spanL t)).length*1) (plcI (plcs (spanL t))):=fun H=>by
  rw [hPd] at H
  have hpl:(plcI (plcs (spanL t))).length=2*(plcs (spanL t)).length*1:=by
   generalize plcs (spanL t)=P
   induction P with
   | nil=>rfl
   | cons p P ih =>
    show (_::_::plcI P).length=_
    simp only [List.length_cons,ih]
    omega
  have:=rdO_hp H 2 (b:=rp) (o:=0) (n:=2*(plcs (spanL t)).length*1) (w:=true) (t:=T_int) (cs:=plcI (plcs (spanL t))) rfl (by omega)
  rw [List.drop_zero,List.take_of_length_le (by omega)] at this
  exact this
 have gbit:∀ {h:Heap} {ws:List Nat} {s:Dec} {n:Nat} {ctx:Int} {K1:VK} {Kp1:PK},Hp h0 FF h (P ws s)->Go.Ar.DecOk bytes m n s->n<16777216 ->
   (∀ h',Go.Ar.DecOk bytes m (n+1) (Go.Ar.getD s (idx ctx m)).1->Hp h0 FF h' (P ws (Go.Ar.getD s (idx ctx m)).1)->K1 (.tuple #[.int .i64 ((decide ((Go.Ar.getD s (idx ctx m)).2=1)).toNat:Nat), .int .i64 0]) h') ->
   CP F_burinref4_Decoder_Get #[.pointer (at0 A.p), .int .i64 ctx] h K1 Kp1:=fun {h ws s n ctx K1 Kp1} H hok hn hk1=>by
  rw [hPd] at H
  refine Go.Ar.rget_ok (H.give [4,5,6,7,8] (by decide) rfl) (by rw [hok.b]; exact hb) hok.wf (by rw [hok.b]; exact hbl) (by rw [hok.n]; exact hn) (by rw [hok.len]; exact hm1) (by rw [hok.len]; exact hm2) fun h' H'=>?_
  replace H:=H.put [4,5,6,7,8] (by decide) rfl (by simp [refD,Go.Ar.sideL,hb']) H' (by simp [refD,Go.Ar.sideL,hb']) rfl
  rw [hok.len] at H ⊢
  rw [getD_nat]
  exact hk1 h' (getD_ok hok _ hn) (by rw [hPd]; exact H)
 have gput:∀ {h:Heap} {ws:List Nat} {s:Dec} {a b:Nat} {bit:Bool} {K1:VK} {Kp1:PK},Hp h0 FF h (P ws s)->ws.length=N->W64 ws->PadZ W X ws->a<W->b<X ->
   (∀ R h',R.length=N->W64 R->PadZ W X R->getP R W X=upd (getP ws W X) (a:Int) (b:Int) bit->Hp h0 FF h' (P R s)->K1 (.tuple #[]) h') ->
   CP F_burinref0_Put #[.agg #[.int .i64 (W:Nat), .int .i64 (X:Nat), .slice (at0 q) N N], .int .i64 (a:Nat), .int .i64 (b:Nat), .int .i64 (bit.toNat:Nat)] h K1 Kp1:=fun {h ws s a b bit K1 Kp1} H hl hw hz ha hb hk1=>by
  rw [hPd] at H
  rw [<- hl]
  refine put_ok (ws:=ws) H 1 rfl hw hs (by rw [hl,hNd]) ha hb fun R h' k1 k2 k3 H'=>?_
  exact hk1 R h' (by rw [k1,hl]) k2 (hz.set ha k3) (getP_set ha hb k3) (by rw [hPd]; exact H')
 have gload:∀ {h:Heap} {ws:List Nat} {s:Dec},Hp h0 FF h (P ws s)->Hp h0 FF h ([⟨r11,true,T_api_Bitmap,[.int .i64 (W:Nat), .int .i64 (X:Nat), .slice (at0 q) N N]⟩,⟨q,true,T_uint64,u64s ws++[]⟩,⟨rp,true,T_int,plcI (plcs (spanL t))⟩,⟨r1,true,T_api_Bitmap,[.int .i64 0, .int .i64 0, .slice none 0 0]⟩]++(refD A e0 bp bc s++Y)):=fun H=>by rw [hPd] at H; exact H
 refine ⟨fun n vs h'=>∃ (y:Nat) (ws:List Nat) (s:Dec) (k:Nat),y+n=X/\vs=[.int .i64 (y:Nat)]/\runG W t skip (stepG m base) y (fun _ _=>false,s0) = .inl (getP ws W X,s)/\ws.length=N/\W64 ws/\PadZ W X ws/\(∀ a b:Int,(y:Int)<=b->getP ws W X a b=false)/\k<=y*(W+1)/\Go.Ar.DecOk bytes m (n0+k) s/\Hp h0 FF h' (P ws s),
  ⟨X,0,List.replicate N 0,s0,0,by omega,rfl,by rw [getP_zero]; rfl,by simp,W64.zero _,fun y hy x h1 h2=>pix_zero _ _ _ _,fun a b _=>by rw [getP_zero],by omega,hc,H⟩,?_⟩
 clear H
 rintro n h u xx ⟨y,ws,s,k,hyn,hxx,hrun,hwl,hww,hwz,hzr,hky,hok,H⟩
 injection hxx with hxx
 injection hxx with _ hxx
 subst hxx
 refine bcase_dec (fun h1=>?_) fun h1=>?_
 ·have hy:y<X:=by omega
  have hkX:(y+1)*(W+1)<=X*(W+1):=Nat.mul_le_mul_right _ (by omega)
  rw [Nat.add_mul,Nat.one_mul] at hkX
  have hnext:=runG_next hrun
  refine ⟨fun _ h'=>∃ s1 k1,runG W t skip (stepG m base) (y+1) (fun _ _=>false,s0)=rowG t (stepG m base) y W (getP ws W X,s1)/\k1<=y*(W+1)+1/\Go.Ar.DecOk bytes m (n0+k1) s1/\Hp h0 FF h' (P ws s1),?_,?_⟩
  ·cases skip with
   | false =>
    refine bcase_false rfl ?_
    exact ⟨s,k,hnext,by omega,hok,H⟩
   | true =>
    refine bcase_true rfl ?_
    refine need7_ok ht fun h' e=>?_
    have H:=H.ext e
    clear e
    refine ⟨_,rfl,?_⟩
    refine bindI_of ((base+((gsize t+1:Nat):Int))) (by exact i64_in _ (by omega) (by omega)) ?_
    refine bindI_of ((base+((gsize t:Nat):Int))) (by exact i64_at _ _ (by omega) (by omega) (by omega)) ?_
    refine gbit H hok (by omega) fun h' hok2 H=>?_
    refine ⟨_,_,rfl,?_⟩
    refine bcase_false (by rfl) ?_
    simp only [stepG] at hnext
    generalize (Go.Ar.getD s (idx (base+((gsize t:Nat):Int)) m)).1=s1 at hnext hok2 H
    generalize decide ((Go.Ar.getD s (idx (base+((gsize t:Nat):Int)) m)).2=1)=bit at hnext ⊢
    cases bit with
    | true =>
     simp only at hnext
     refine bcase_eq (fun _=>?_) fun h5=>absurd rfl h5
     obtain ⟨G0,hG0⟩:∃ G0,G0=getP ws W X:=⟨_,rfl⟩
     refine ⟨fun n vs h'=>∃ (x:Nat) (R:List Nat),x+n=W/\vs=[.int .i64 (x:Nat)]/\R.length=N/\W64 R/\PadZ W X R/\(getP R W X=fun a b=>if b=(y:Int)/\0<=a/\a<(x:Int) then G0 a ((y:Int)-1) else G0 a b)/\Hp h0 FF h' (P R s1),
      ⟨W,0,ws,by omega,rfl,hwl,hww,hwz,by funext a b; rw [if_neg (by omega),hG0],H⟩,?_⟩
     clear H
     rintro n2 h u xx ⟨x,R,hxn,hxx,hRl,hRw,hRz,hRG,H⟩
     injection hxx with hxx
     injection hxx with _ hxx
     subst hxx
     refine bcase_dec (fun h2=>?_) fun h2=>?_
     ·have hx:x<W:=by omega
      refine bindI_of (((y:Int)-1)) (by exact i64_in _ (by omega) (by omega)) ?_
      have H0:=gload H
      refine ldI_of (hpA H0 0 rfl rfl) (ldI_of (hpA H0 0 rfl rfl) (ldS_of (hpA H0 0 rfl rfl) (ldI_of (hpA H0 0 rfl rfl) (ldI_of (hpA H0 0 rfl rfl) (ldS_of (hpA H0 0 rfl rfl) ?_)))))
      have hRN:N=R.length:=hRl.symm
      have getR:∀ {K1:VK} {Kp1:PK},(∀ h',hext h h'->K1 (.int .i64 ((getP R W X (x:Nat) ((y:Int)-1)).toNat:Nat)) h')->CP F_burinref0_Get #[.agg #[.int .i64 (W:Nat), .int .i64 (X:Nat), .slice (at0 q) N N], .int .i64 (x:Nat), .int .i64 ((y:Int)-1)] h K1 Kp1:=fun hk1=>by
       rw [hRN]
       exact get_ok (row_rdO H0 1 rfl) hRw hs (by rw [hRl,hNd]) hk1
      refine getR fun h' e=>?_
      have H:=H.ext e
      refine ⟨_,rfl,e,?_⟩
      refine gput H hRl hRw hRz hx hy fun R2 h' k1 k2 k3 k4 H=>?_
      refine bindI_of (((x+1:Nat):Int)) (by exact i64_at _ _ (by omega) (by omega) (by omega)) ?_
      refine ⟨n2-1,by omega,x+1,R2,by omega,rfl,k1,k2,k3,?_,H⟩
      rw [k4]
      funext a b
      unfold upd
      by_cases hc:a=(x:Int)/\b=(y:Int)
      ·rw [if_pos hc,if_pos (by omega),hRG]
       simp only
       rw [if_neg (by omega),hc.1]
      ·rw [if_neg hc,hRG]
       simp only
       by_cases hd:b=(y:Int)/\0<=a/\a<(x:Int)
       ·rw [if_pos hd,if_pos (by omega)]
       ·rw [if_neg hd,if_neg (by omega)]
     ·obtain rfl:W=x:=by omega
      have hcopy:getP R W X=copyRow (getP ws W X) y:=by
       rw [hRG,<- hG0]
       funext a b
       unfold copyRow
       by_cases hin:0<=a/\a<(W:Int)
       ·by_cases hb:b=(y:Int)
        ·rw [if_pos ⟨hb,hin⟩]
         by_cases hy0:y=0
         ·rw [if_neg (fun hh=>hh.2 hy0),hG0,hzr a b (by omega)]
          unfold getP
          rw [decide_eq_false (by omega),Bool.false_and]
         ·rw [if_pos ⟨hb,hy0⟩]
        ·rw [if_neg (fun hh=>hb hh.1),if_neg (fun hh=>hb hh.1)]
       ·have e:∀ b,G0 a b=false:=fun b=>by rw [hG0]; exact getP_side ws W X a b hin
        rw [e,e]
        simp
      rw [<- hcopy] at hnext
      refine bindI_of (((y+1:Nat):Int)) (by exact i64_at _ _ (by omega) (by omega) (by omega)) ?_
      refine ⟨n-1,by omega,y+1,R,s1,k+1,by omega,rfl,hnext,hRl,hRw,hRz,fun a b hb=>?_,by rw [Nat.add_mul,Nat.one_mul]; omega,hok2,H⟩
      rw [hRG]
      simp only
      rw [if_neg (by omega),hG0,hzr a b (by omega)]
    | false =>
     simp only at hnext
     refine bcase_eq (fun h5=>absurd h5 (by decide)) fun h5=>?_
     exact ⟨s1,k+1,hnext,by omega,hok2,H⟩
  ·clear H hok hnext
   rintro h u ⟨s1,k1,hnext,hk1,hok1,H⟩
   refine ⟨fun n vs h'=>∃ (x:Nat) (R:List Nat) (s:Dec),x+n=W/\vs=[.int .i64 (x:Nat)]/\rowG t (stepG m base) y x (getP ws W X,s1) = .inl (getP R W X,s)/\R.length=N/\W64 R/\PadZ W X R/\(∀ a b:Int,(y+1:Nat)<=b->getP R W X a b=false)/\Go.Ar.DecOk bytes m (n0+k1+x) s/\Hp h0 FF h' (P R s),
    ⟨W,0,ws,s1,by omega,rfl,rfl,hwl,hww,hwz,fun a b hb=>hzr a b (by omega),hok1,H⟩,?_⟩
   clear H hok1
   rintro n2 h u xx ⟨x,R,s2,hxn,hxx,hrow,hRl,hRw,hRz,hRr,hok,H⟩
   injection hxx with hxx
   injection hxx with _ hxx
   subst hxx
   refine bcase_dec (fun h2=>?_) fun h2=>?_
   ·have hx:x<W:=by omega
    have H0:=gload H
    refine ldI_of (hpA H0 0 rfl rfl) (ldI_of (hpA H0 0 rfl rfl) (ldS_of (hpA H0 0 rfl rfl) ?_))
    have hRN:N=R.length:=hRl.symm
    have atR:∀ {K1:VK} {Kp1:PK},(∀ h',hext h h'->K1 (.int .i64 (gctx t (getP R W X) x y:Nat)) h')->CP F_burinref6_At #[.agg #[.int .i64 (W:Nat), .int .i64 (X:Nat), .slice (at0 q) N N], .slice (at0 rp) (2*(plcs (spanL t)).length) (2*(plcs (spanL t)).length), .int .i64 (x:Nat), .int .i64 (y:Nat)] h K1 Kp1:=fun hk1=>by
     rw [hRN]
     exact at6_ok ht (row_rdO H0 1 rfl) hRw hs (by rw [hRl,hNd]) (hplr H) hx hy hk1
    refine atR fun h' e=>?_
    have H:=H.ext e
    clear e
    refine ⟨_,rfl,?_⟩
    have hcl:=gctx_lt t (getP R W X) (x:Nat) (y:Nat)
    have hstep:rowG t (stepG m base) y (x+1) (getP ws W X,s1) = .inl (upd (getP R W X) (x:Int) (y:Int) (decide ((Go.Ar.getD s2 (idx (base+((gctx t (getP R W X) (x:Nat) (y:Nat):Nat):Int)) m)).2=1)),(Go.Ar.getD s2 (idx (base+((gctx t (getP R W X) (x:Nat) (y:Nat):Nat):Int)) m)).1):=by
     rw [rowG,hrow]
     simp only [stepG]
    generalize gctx t (getP R W X) (x:Nat) (y:Nat)=cx at hcl hstep ⊢
    refine bindI_of ((base+(cx:Int))) (by exact i64_in _ (by omega) (by omega)) ?_
    refine gbit H hok (by omega) fun h' hok2 H=>?_
    refine ⟨_,_,rfl,?_⟩
    refine bcase_false (by rfl) ?_
    have H0:=gload H
    refine ldI_of (hpA H0 0 rfl rfl) (ldI_of (hpA H0 0 rfl rfl) (ldS_of (hpA H0 0 rfl rfl) ?_))
    refine gput H hRl hRw hRz hx hy fun R2 h' k1 k2 k3 k4 H=>?_
    refine bindI_of (((x+1:Nat):Int)) (by exact i64_at _ _ (by omega) (by omega) (by omega)) ?_
    refine ⟨n2-1,by omega,x+1,R2,_,by omega,rfl,by rw [k4]; exact hstep,k1,k2,k3,fun a b hb=>?_,hok2,H⟩
    rw [k4]
    unfold upd
    rw [if_neg (by omega)]
    exact hRr a b hb
   ·obtain rfl:W=x:=by omega
    rw [hrow] at hnext
    refine bindI_of (((y+1:Nat):Int)) (by exact i64_at _ _ (by omega) (by omega) (by omega)) ?_
    exact ⟨n-1,by omega,y+1,R,s2,k1+W,by omega,rfl,hnext,hRl,hRw,hRz,hRr,by rw [Nat.add_mul,Nat.one_mul]; omega,by rw [<- Nat.add_assoc]; exact hok,H⟩
 ·obtain rfl:X=y:=by omega
  have H:=gload H
  repeat first | with_reducible refine ldI_of (by with_unfolding_all first | exact hpA H 0 rfl rfl | exact Hp.cell H 0 rfl rfl | exact hpB H 0 rfl rfl | exact hpC H 0 rfl rfl) ?_ | with_reducible refine ldS_of (by with_unfolding_all first | exact hpA H 0 rfl rfl | exact Hp.cell H 0 rfl rfl | exact hpB H 0 rfl rfl | exact hpC H 0 rfl rfl) ?_ | with_reducible refine ldP_of (by with_unfolding_all first | exact hpA H 0 rfl rfl | exact Hp.cell H 0 rfl rfl | exact hpB H 0 rfl rfl | exact hpC H 0 rfl rfl) ?_ | with_reducible refine ldB_of (by with_unfolding_all first | exact hpA H 0 rfl rfl | exact Hp.cell H 0 rfl rfl | exact hpB H 0 rfl rfl | exact hpC H 0 rfl rfl) ?_ | with_reducible refine ldT_of (by with_unfolding_all first | exact hpA H 0 rfl rfl | exact Hp.cell H 0 rfl rfl | exact hpB H 0 rfl rfl | exact hpC H 0 rfl rfl) ?_
  repeat first | with_reducible refine stA H 3 (by with_unfolding_all exact rfl) (by with_unfolding_all exact rfl) (by with_unfolding_all exact rfl) fun h H=>?_ | with_reducible refine st0 H 3 (by with_unfolding_all exact rfl) (by with_unfolding_all exact rfl) (by with_unfolding_all exact rfl) fun h H=>?_ | with_reducible refine stB H 3 (by with_unfolding_all exact rfl) (by with_unfolding_all exact rfl) (by with_unfolding_all exact rfl) fun h H=>?_
  repeat first | with_reducible refine ldI_of (by with_unfolding_all first | exact hpA H 3 rfl rfl | exact Hp.cell H 3 rfl rfl | exact hpB H 3 rfl rfl | exact hpC H 3 rfl rfl) ?_ | with_reducible refine ldS_of (by with_unfolding_all first | exact hpA H 3 rfl rfl | exact Hp.cell H 3 rfl rfl | exact hpB H 3 rfl rfl | exact hpC H 3 rfl rfl) ?_ | with_reducible refine ldP_of (by with_unfolding_all first | exact hpA H 3 rfl rfl | exact Hp.cell H 3 rfl rfl | exact hpB H 3 rfl rfl | exact hpC H 3 rfl rfl) ?_ | with_reducible refine ldB_of (by with_unfolding_all first | exact hpA H 3 rfl rfl | exact Hp.cell H 3 rfl rfl | exact hpB H 3 rfl rfl | exact hpC H 3 rfl rfl) ?_ | with_reducible refine ldT_of (by with_unfolding_all first | exact hpA H 3 rfl rfl | exact Hp.cell H 3 rfl rfl | exact hpB H 3 rfl rfl | exact hpC H 3 rfl rfl) ?_
  have hRN:N=ws.length:=hwl.symm
  have H:Hp h0 FF h (([⟨r11,true,T_api_Bitmap,[.int .i64 (W:Nat), .int .i64 (X:Nat), .slice (at0 q) N N]⟩,⟨q,true,T_uint64,u64s ws++[]⟩,⟨rp,true,T_int,plcI (plcs (spanL t))⟩,⟨r1,true,T_api_Bitmap,[.int .i64 (W:Nat), .int .i64 (X:Nat), .slice (at0 q) N N]⟩]++(refD A e0 bp bc s++Y))):=H
  rw [hRN]
  refine hk ws s k q h hrun (by rw [hwl,hNd]) hww hwz hky hok ?_
  have H1:Hp h0 FF h ([⟨q,true,T_uint64,u64s ws++[]⟩]++(refD A e0 bp bc s++Y)):=H.sub (List.Sublist.append (by simp) (List.Sublist.refl _))
  exact H1.rot
end Go.Bm
namespace Go.Bm
open Go Go.Den Go.Den.YtfaclehehhgpcaaGreat
section
variable {hB:Heap} {w b template:Int} {skip:Bool} {K:VK} {Kp:PK}
end
end Go.Bm
namespace Go.Bm
open Go Go.Den Go.Den.YtfaclehehhgpcaaGreat
open Go.Ar (Cod Dec CodOk codN decN newC_ok bytesM flushM putM getD)
def kOf (L:List (Nat × Nat)) (i:Nat):Nat:=(L[i]?.getD (0,0)).1
def bOf (L:List (Nat × Nat)) (i:Nat):Nat:=(L[i]?.getD (0,0)).2
def cdL (m:Nat) (L:List (Nat × Nat)):Cod:=codN (kOf L) (bOf L) m L.length
theorem codN_cong {k b k' b':Nat->Nat} {m:Nat}:∀ {n:Nat},(∀ j,j<n->k j=k' j/\b j=b' j)->codN k b m n=codN k' b' m n
 | 0,_=>rfl
 | n+1,h=>by
  have:=codN_cong (m:=m) (n:=n) fun j hj=>h j (by omega)
  unfold codN
  rw [this,(h n (by omega)).1,(h n (by omega)).2]
theorem cdL_snoc (m:Nat) (L:List (Nat × Nat)) (d:Nat × Nat):cdL m (L++[d])=putM (cdL m L) d.1 d.2:=by
 have e:codN (kOf (L++[d])) (bOf (L++[d])) m L.length=cdL m L:=codN_cong fun j hj=>by
  unfold kOf bOf
  rw [List.getElem?_append_left hj]
  exact ⟨rfl,rfl⟩
 unfold cdL at e ⊢
 rw [List.length_append,List.length_singleton,codN,e]
 unfold kOf bOf
 rw [List.getElem?_append_right (Nat.le_refl _),Nat.sub_self]
 rfl
theorem cdL_ok {m:Nat} {L:List (Nat × Nat)} (h:L.length<=16777216):CodOk m L.length (cdL m L):=by
 have key:∀ i,i<=16777216->CodOk m i (codN (kOf L) (bOf L) m i):=by
  intro i
  induction i with
  | zero=>exact fun _=>newC_ok m
  | succ i ih=>exact fun hi=>Go.Ar.putM_ok (ih (by omega)) _ _ (by omega)
 exact key _ h
theorem bOf_le {L:List (Nat × Nat)} (h:∀ d∈L,d.2<=1):∀ i,i<L.length->bOf L i<=1:=fun i hi=>by
 unfold bOf
 rw [List.getElem?_eq_getElem hi]
 exact h _ (List.getElem_mem hi)
theorem kOf_at {L A B:List (Nat × Nat)} {d:Nat × Nat} (h:L=A++d::B):kOf L A.length=d.1/\bOf L A.length=d.2:=by
 subst h
 unfold kOf bOf
 rw [List.getElem?_append_right (Nat.le_refl _),Nat.sub_self]
 exact ⟨rfl,rfl⟩
structure Walk (L:List (Nat × Nat)) (D:Nat->Dec):Prop where
 step:∀ i,i<L.length->getD (D i) (kOf L i)=(D (i+1),bOf L i)
theorem Walk.at {L A B:List (Nat × Nat)} {D:Nat->Dec} {d:Nat × Nat} (h:Walk L D) (e:L=A++d::B):getD (D A.length) d.1=(D (A.length+1),d.2):=by
 obtain ⟨h1,h2⟩:=kOf_at e
 have:=h.step A.length (by rw [e]; simp)
 rw [h1,h2] at this
 exact this
theorem walk_of {m:Nat} {L:List (Nat × Nat)} (h1:∀ d∈L,d.2<=1) (hc:L.length<=16777216):Walk L (decN (kOf L) (bytesM (flushM (cdL m L))) m):=by
 refine ⟨fun i hi=>Prod.ext rfl ?_⟩
 have hlt:∀ x∈bytesM (flushM (cdL m L)),x<256:=Go.Ar.flushM_lt (cdL_ok hc).wf
 exact Go.Ar.back_bit (kOf L) (bOf L) m L.length (bOf_le h1) hc hlt hi
end Go.Bm
namespace Go.Bm
open Go Go.Den Go.Den.YtfaclehehhgpcaaGreat
open Go.Ar (Dec idx)
section
variable (G:Int->Int->Bool) (W m t:Nat) (skip:Bool) (base:Int)
def dsRow (y k:Nat):List (Nat × Nat):=(List.range k).map fun (x:Nat)=>(idx (base+((gctx t G (x:Int) (y:Int):Nat):Int)) m,(G (x:Int) (y:Int)).toNat)
def dsLine (y:Nat):List (Nat × Nat):=match skip with
 | false=>dsRow G m t base y W
 | true=>(idx (base+((gsize t:Nat):Int)) m,(sameB G W y).toNat)::(match sameB G W y with
  | true=>[]
  | false=>dsRow G m t base y W)
def dsG:Nat->List (Nat × Nat)
 | 0=>[]
 | y+1=>dsG y++dsLine G W m t skip base y
theorem dsRow_succ (y k:Nat):dsRow G m t base y (k+1)=dsRow G m t base y k++[(idx (base+((gctx t G (k:Int) (y:Int):Nat):Int)) m,(G (k:Int) (y:Int)).toNat)]:=by
 unfold dsRow
 rw [List.range_succ,List.map_append]
 rfl
theorem dsRow_len (y k:Nat):(dsRow G m t base y k).length=k:=by simp [dsRow]
theorem dsLine_len (y:Nat):(dsLine G W m t skip base y).length<=W+1:=by
 unfold dsLine
 cases skip with
 | false =>
  simp only [dsRow_len]
  omega
 | true =>
  cases sameB G W y <;> simp [dsRow_len]
theorem dsG_len:∀ y,(dsG G W m t skip base y).length<=y*(W+1)
 | 0=>by simp [dsG]
 | y+1=>by
  have h1:=dsG_len y
  have h2:=dsLine_len G W m t skip base y
  unfold dsG
  rw [List.length_append,Nat.add_mul,Nat.one_mul]
  omega
theorem dsRow_bit (y k:Nat):∀ d∈dsRow G m t base y k,d.2<=1:=fun d hd=>by
 unfold dsRow at hd
 obtain ⟨x,_,rfl⟩:=List.mem_map.1 hd
 exact toNat_le _
theorem dsLine_bit (y:Nat):∀ d∈dsLine G W m t skip base y,d.2<=1:=fun d hd=>by
 unfold dsLine at hd
 cases skip with
 | false=>exact dsRow_bit G m t base y W d hd
 | true =>
  rcases List.mem_cons.1 hd with rfl | hd
  ·exact toNat_le _
  ·cases hs:sameB G W y with
   | true=>rw [hs] at hd; cases hd
   | false=>rw [hs] at hd; exact dsRow_bit G m t base y W d hd
theorem dsG_bit:∀ y,∀ d∈dsG G W m t skip base y,d.2<=1
 | 0=>fun d hd=>by cases hd
 | y+1=>fun d hd=>by
  unfold dsG at hd
  rcases List.mem_append.1 hd with hd | hd
  ·exact dsG_bit y d hd
  ·exact dsLine_bit G W m t skip base y d hd
theorem dsG_split {y:Nat}:∀ {X:Nat},y<X->∃ C,dsG G W m t skip base X=dsG G W m t skip base y++(dsLine G W m t skip base y++C)
 | X+1,h=>by
  rcases Nat.lt_or_ge y X with h1 | h1
  ·obtain ⟨C,hC⟩:=dsG_split h1
   refine ⟨C++dsLine G W m t skip base X,?_⟩
   rw [dsG,hC]
   simp
  ·obtain rfl:y=X:=by omega
   exact ⟨[],by simp [dsG]⟩
theorem enc_row (L:List (Nat × Nat)) (y:Nat):∀ k,rowG t (stepP m base) y k (G,cdL m L) = .inl (G,cdL m (L++dsRow G m t base y k))
 | 0=>by simp [rowG,dsRow]
 | k+1=>by
  unfold rowG
  rw [enc_row L y k]
  simp only [stepP,upd_self]
  rw [dsRow_succ,<- List.append_assoc,cdL_snoc]
variable (hG:∀ x y:Int,¬ (0<=x/\x<W/\0<=y)->G x y=false)
include hG
theorem enc_g (L:List (Nat × Nat)):∀ y,runG W t skip (stepP m base) y (G,cdL m L) = .inl (G,cdL m (L++dsG G W m t skip base y))
 | 0=>by simp [runG,dsG]
 | y+1=>by
  unfold runG
  rw [enc_g L y]
  cases skip with
  | false =>
   simp only []
   rw [enc_row,dsG,dsLine,List.append_assoc]
  | true =>
   simp only [stepP]
   rw [<- cdL_snoc m _ (idx (base+((gsize t:Nat):Int)) m,(sameB G W y).toNat)]
   cases hs:sameB G W y with
   | true =>
    simp only []
    rw [copy_same (fun a b h=>hG a b fun hh=>h ⟨hh.1,hh.2.1⟩) hs,dsG]
    simp only [dsLine,hs]
    simp
   | false =>
    simp only []
    rw [enc_row,dsG]
    simp only [dsLine,hs]
    simp
theorem part_gctx {x y:Nat} (ht:t<4) (hx:x<W):gctx t (partG G W (y*W+x)) x y=gctx t G x y:=by
 unfold gctx pb
 congr 1
 refine List.map_congr_left fun p hp=>?_
 unfold plcs at hp
 obtain ⟨s,hs,hp⟩:=List.mem_flatMap.1 hp
 have hok:=spanL_ok ht s hs
 have d1:=hok.d
 have d2:=hok.f
 have d3:=hok.t
 have d4:=hok.z
 unfold spl at hp
 obtain ⟨j,hj,rfl⟩:=List.mem_map.1 hp
 have hj:=List.mem_range.1 hj
 unfold spanW at hj
 dsimp only
 refine partG_eq G W hG fun h1 h2 h3=>?_
 by_cases h:s.1=0
 ·have e:((y:Int)+s.1).toNat=y:=by omega
  rw [e]
  omega
 ·have e:(((y:Int)+s.1).toNat+1)*W<=y*W:=Nat.mul_le_mul_right _ (by omega)
  rw [Nat.add_mul,Nat.one_mul] at e
  omega
theorem part_zero:partG G W 0=fun _ _=>false:=by
 have _:=hG
 funext x y
 unfold partG
 rw [decide_eq_false (by omega),Bool.false_and]
theorem part_same {y:Nat} (hs:sameB G W y=true):copyRow (partG G W (y*W)) y=partG G W ((y+1)*W):=by
 have hs:=fun (x:Nat) (hx:x<W)=>by
  unfold sameB at hs
  have:=List.all_eq_true.1 hs x (List.mem_range.2 hx)
  exact of_decide_eq_true (p:=G (x:Int) (y:Int)=G (x:Int) ((y:Int)-1)) (by simpa using this)
 funext a b
 unfold copyRow
 by_cases hin:0<=a/\a<(W:Int)/\0<=b
 ·by_cases hb:b=(y:Int)
  ·subst hb
   have e2:partG G W ((y+1)*W) a y=G a y:=partG_eq G W hG fun h1 h2 h3=>by
    rw [Int.toNat_natCast,Nat.add_mul,Nat.one_mul]
    omega
   have e3:=hs a.toNat (by omega)
   rw [show ((a.toNat:Nat):Int)=a by omega] at e3
   rw [e2]
   by_cases hy:y=0
   ·rw [if_neg (fun hh=>hh.2 hy)]
    subst hy
    rw [e3,hG a _ (by omega)]
    unfold partG
    rw [decide_eq_false (by omega),Bool.false_and]
   ·rw [if_pos ⟨rfl,hy⟩,e3]
    refine partG_eq G W hG fun h1 h2 h3=>?_
    have e4:(((y:Int)-1).toNat+1)*W<=y*W:=Nat.mul_le_mul_right _ (by omega)
    rw [Nat.add_mul,Nat.one_mul] at e4
    omega
  ·rw [if_neg (fun hh=>hb hh.1)]
   unfold partG
   congr 1
   rw [decide_eq_decide]
   constructor
   ·rintro ⟨h2,h3,h4,h5⟩
    refine ⟨h2,h3,h4,?_⟩
    rw [Nat.add_mul,Nat.one_mul]
    omega
   ·rintro ⟨h2,h3,h4,h5⟩
    refine ⟨h2,h3,h4,?_⟩
    rcases Nat.lt_or_ge b.toNat y with h6 | h6
    ·have e4:(b.toNat+1)*W<=y*W:=Nat.mul_le_mul_right _ (by omega)
     rw [Nat.add_mul,Nat.one_mul] at e4
     omega
    ·exfalso
     have e4:(y+1)*W<=b.toNat*W:=Nat.mul_le_mul_right _ (by omega)
     omega
 ·have e:∀ i a b,¬ (0<=a/\a<(W:Int)/\0<=b)->partG G W i a b=false:=fun i a b h=>by
   unfold partG
   rw [hG a b h,Bool.and_false]
  rw [e _ a b hin]
  by_cases hb:b=(y:Int)/\y≠0
  ·rw [if_pos hb,e _ a _ (by omega),e _ a b hin]
  ·rw [if_neg hb,e _ a b hin]
variable {L:List (Nat × Nat)} {D:Nat->Dec} (hW:Walk L D)
include hW
theorem dec_row {A:List (Nat × Nat)} {y:Nat} (ht:t<4):∀ k,k<=W->∀ C,L=A++(dsRow G m t base y k++C)->rowG t (stepG m base) y k (partG G W (y*W),D A.length) = .inl (partG G W (y*W+k),D (A++dsRow G m t base y k).length)
 | 0,_,C,_=>by simp [rowG,dsRow]
 | k+1,hk,C,hL=>by
  have hL2:L=(A++dsRow G m t base y k)++(idx (base+((gctx t G (k:Int) (y:Int):Nat):Int)) m,(G (k:Int) (y:Int)).toNat)::C:=by
   rw [hL,dsRow_succ]
   simp
  have hs:=hW.at hL2
  unfold rowG
  rw [dec_row ht k (by omega) ((idx (base+((gctx t G (k:Int) (y:Int):Nat):Int)) m,(G (k:Int) (y:Int)).toNat)::C) (hL2.trans (List.append_assoc _ _ _))]
  simp only [stepG]
  rw [part_gctx G W t hG ht (by omega),hs]
  dsimp only
  have hbit:decide ((G (k:Int) (y:Int)).toNat=1)=G (k:Int) (y:Int):=by cases G (k:Int) (y:Int) <;> rfl
  rw [hbit,partG_next G W hG (by omega),dsRow_succ]
  simp [Nat.add_assoc]
theorem dec_g {A C:List (Nat × Nat)} {X:Nat} (ht:t<4) (hL:L=A++(dsG G W m t skip base X++C)):∀ y,y<=X->runG W t skip (stepG m base) y (fun _ _=>false,D A.length) = .inl (partG G W (y*W),D (A++dsG G W m t skip base y).length)
 | 0,_=>by
  rw [Nat.zero_mul,part_zero G W hG]
  simp [runG,dsG]
 | y+1,hy=>by
  obtain ⟨C2,hC2⟩:=dsG_split G W m t skip base (y:=y) (X:=X) (by omega)
  unfold runG
  rw [dec_g ht hL y (by omega)]
  rw [hC2] at hL
  have hrow:(y+1)*W=y*W+W:=by rw [Nat.add_mul,Nat.one_mul]
  cases skip with
  | false =>
   simp only []
   rw [dec_row G W m t base hG hW (A:=A++dsG G W m t false base y) ht W (Nat.le_refl _) (C2++C) (hL.trans (by simp [dsLine])),dsG,dsLine,hrow,List.append_assoc]
  | true =>
   simp only [stepG]
   cases hs:sameB G W y with
   | true =>
    have h1:=hW.at (A:=A++dsG G W m t true base y) (B:=C2++C) (d:=(idx (base+((gsize t:Nat):Int)) m,1)) (hL.trans (by simp [dsLine,hs]))
    rw [h1]
    simp only [decide_true]
    rw [part_same G W hG hs,dsG]
    simp [dsLine,hs,Nat.add_assoc]
   | false =>
    have h1:=hW.at (A:=A++dsG G W m t true base y) (B:=dsRow G m t base y W++(C2++C)) (d:=(idx (base+((gsize t:Nat):Int)) m,0)) (hL.trans (by simp [dsLine,hs]))
    rw [h1]
    simp only [show decide ((0:Nat)=1)=false from rfl]
    have h2:=dec_row G W m t base hG hW (A:=(A++dsG G W m t true base y)++[(idx (base+((gsize t:Nat):Int)) m,0)]) (y:=y) ht W (Nat.le_refl _) (C2++C) (hL.trans (by simp [dsLine,hs]))
    rw [List.length_append,List.length_singleton] at h2
    rw [h2,dsG,hrow]
    simp [dsLine,hs,Nat.add_assoc]
end
end Go.Bm
namespace Go.Bm
open Go Go.Den Go.Den.YtfaclehehhgpcaaGreat
theorem GEncR.bytes {w b template:Int} {skip:Bool} {ws:List Nat} {e:Int} {bs:List Nat} (h:GEncR w b ws template skip e bs):(∀ x∈bs,x<256)/\bs.length<140737488351300:=by
 rcases h with ⟨_,_,rfl⟩ | ⟨_,_,_,rfl⟩ | ⟨_,_,_,G,s',k,_,_,hok,rfl⟩
 ·exact ⟨(fun x hx=>by cases hx),by decide⟩
 ·exact ⟨(fun x hx=>by cases hx),by decide⟩
 ·refine ⟨Go.Ar.flushM_lt hok.wf,?_⟩
  have h1:=Go.Ar.flushM_len s'
  have h2:=hok.wf.len
  have h3:=hok.wf.n
  omega
end Go.Bm
namespace Go.Ar
open Go Go.Den Go.Den.YtfaclehehhgpcaaGreat
end Go.Ar
namespace Go.Ar
open Go Go.Den Go.Den.YtfaclehehhgpcaaGreat
theorem u8s_ints {l:List Int} (h:∀ x∈l,IntKind.u8.min<=x/\x<=IntKind.u8.max):(l.map fun x=>(.int .u8 x:Value))=u8s (l.map Int.toNat)/\∀ x∈l.map Int.toNat,x<256:=by
 have hb:∀ x∈l,0<=x/\x<=255:=fun x hx=>by have:=h x hx; simpa [IntKind.min,IntKind.max,IntKind.signed,IntKind.bits] using this
 constructor
 ·unfold u8s
  rw [List.map_map]
  refine List.map_congr_left fun x hx=>?_
  have:=hb x hx
  show Value.int .u8 x = .int .u8 ((x.toNat:Nat):Int)
  rw [Int.toNat_of_nonneg this.1]
 ·intro y hy
  obtain ⟨x,hx,rfl⟩:=List.mem_map.1 hy
  have:=hb x hx
  omega
theorem wd_bytes {h:Heap} {cs:List Value} (H:WDx Go.Proofs.Tryz.prog h T_s_uint8 cs) :
  ∃ q cap,∃ bs:List Nat,cs=[.slice q bs.length cap]/\bs.length<=cap/\cap<140737488351300/\(q=none->cap=0)/\rdO h q (bs.length*1) (u8s bs)/\∀ x∈bs,x<256:=by
 obtain ⟨q,cap,l,rfl,h1,h2,h3,h4,h5⟩:=wd_ints (k := .u8) Go.Proofs.Tryz.underlying27 Go.Proofs.Tryz.underlying5 (by kernel_rfl) H
 obtain ⟨e1,e2⟩:=u8s_ints h5
 have k1:Go.Proofs.Tryz.prog.bytesOf T_uint8=1:=by kernel_rfl
 rw [k1] at h2
 have hr:reachBytes=140737488351232:=rfl
 rw [e1] at h4
 refine ⟨q,cap,l.map Int.toNat,by simp,by simpa using h1,by omega,h3,by simpa using h4,e2⟩
end Go.Ar
namespace Go.Bm
open Go Go.Den Go.Den.YtfaclehehhgpcaaGreat
end Go.Bm
namespace Go.Bm
open Go Go.Den Go.Den.YtfaclehehhgpcaaGreat
theorem ptr_at {q:Option Addr} {a:Addr} {K:Addr->Prop} (h:q=some a) (H:K a):ptr q K:=by subst h; exact H
structure It7 where
 w:Int
 b:Int
 ws:List Nat
 tt:Int
 sk:Bool
def It7.W (t:It7):Nat:=t.w.toNat
def It7.X (t:It7):Nat:=t.b.toNat
def It7.t (t:It7):Nat:=t.tt.toNat
def It7.G (t:It7):Int->Int->Bool:=getP t.ws t.W t.X
def It7.area (t:It7):Nat:=t.X*t.W
end Go.Bm
namespace Go.Den.YtfaclehehhgpcaaGreat
open Go Go.Den
def bits_Reader_Left (C:CallP) (r:Option Addr) (h:Heap) (K:VK) (Kp:PK):Prop :=
ptr r fun a_1 =>
ptr r fun a_2 =>
ldS h (a_1.add 0) fun x_3 x_3n x_3c =>
bindI (IntKind.i64.wrap ((8:Int)*(x_3n:Int))) fun z_4 =>
ldI h (a_2.add 1) .i64 fun x_5 =>
bindI (IntKind.i64.wrap (z_4-x_5)) fun z_6 =>
K (.int .i64 z_6) h
def bits_NewWriter (C:CallP) (most:Int) (h:Heap) (K:VK) (Kp:PK):Prop :=
bcase (decide (most<(0:Int))) (
K (.tuple #[.pointer none, .int .i64 10]) h) <|
bcase (decide (most > (67108864:Int))) (
K (.tuple #[.pointer none, .int .i64 10]) h) <|
bindI (IntKind.i64.wrap ((8:Int)*most)) fun z_1 =>
newC h [.slice none 0 0, .int .i64 0, .int .i64 z_1] T_bits_Writer fun r_2 h_3 =>
K (.tuple #[.pointer (some ⟨r_2,0,none⟩), .int .i64 0]) h_3
def bits_Writer_Put (C:CallP) (w:Option Addr) (n:Int) (width:Int) (h:Heap) (K:VK) (Kp:PK):Prop :=
bcase (decide (width<(0:Int))) (
K (.int .i64 11) h) <|
bcase (decide (width > (64:Int))) (
K (.int .i64 11) h) <|
∃ K_1:List Value->Heap->Prop,(
bcase (decide (width<(64:Int))) (
needs (0<=width) <|
bindI (shrI .u64 n width) fun z_4 =>
K_1 [.bool (z_4 != (0:Int))] h) <|
K_1 [.bool false] h)/\∀ (h_2:Heap) (u_3:Nat->Value) (x_5:Bool),K_1 [.bool x_5] h_2->(
bcase x_5 (
K (.int .i64 12) h_2) <|
ptr w fun a_6 =>
ptr w fun a_7 =>
ldI h_2 (a_6.add 1) .i64 fun x_8 =>
bindI (IntKind.i64.wrap (x_8+width)) fun z_9 =>
ldI h_2 (a_7.add 2) .i64 fun x_10 =>
bcase (decide (z_9 > x_10)) (
K (.int .i64 13) h_2) <|
ptr w fun a_11 =>
ptr w fun a_12 =>
ldS h_2 (a_11.add 0) fun x_13 x_13n x_13c =>
ldI h_2 (a_12.add 1) .i64 fun x_14 =>
C F_bits_lay_uint64 #[.slice x_13 x_13n x_13c, .int .i64 x_14, .int .u64 n, .int .i64 width] h_2 (fun v_15 h_16 =>
∃ (r_17:Option Addr) (r_17n:Nat) (r_17c:Nat),v_15 = .slice r_17 r_17n r_17c/\(
ptr w fun a_18 =>
stV h_16 (a_18.add 0) (.slice r_17 r_17n r_17c) fun h_19 =>
ptr w fun a_20 =>
ldI h_19 (a_20.add 1) .i64 fun x_21 =>
bindI (IntKind.i64.wrap (x_21+width)) fun z_22 =>
ptr w fun a_23 =>
stV h_19 (a_23.add 1) (.int .i64 z_22) fun h_24 =>
K (.int .i64 0) h_24)) (Kp))
def bits_Writer_Var (C:CallP) (a0:Option Addr) (a1:Int) (h:Heap) (K:VK) (Kp:PK):Prop :=
bindI (shrI .u64 a1 (7:Int)) fun z_1 =>
∃ J_2:Nat->List Value->Heap->Prop,(∃ n_4,J_2 n_4 [.int .i64 1, .int .u64 z_1] h)/\∀ (n_4:Nat) (h_5:Heap) (u_6:Nat->Value) (x_7:Int) (x_8:Int),J_2 n_4 [.int .i64 x_7, .int .u64 x_8] h_5->(
bcase (decide (x_8 > (0:Int))) (
bindI (IntKind.i64.wrap (x_7+(1:Int))) fun z_9 =>
bindI (shrI .u64 x_8 (7:Int)) fun z_10 =>
∃ m_3,m_3<n_4/\J_2 m_3 [.int .i64 z_9, .int .u64 z_10] h_5) <|
ptr a0 fun a_11 =>
bindI (IntKind.i64.wrap ((8:Int)*x_7)) fun z_12 =>
ptr a0 fun a_13 =>
ldI h_5 (a_11.add 1) .i64 fun x_14 =>
bindI (IntKind.i64.wrap (x_14+z_12)) fun z_15 =>
ldI h_5 (a_13.add 2) .i64 fun x_16 =>
bcase (decide (z_15 > x_16)) (
K (.int .i64 13) h_5) <|
∃ J_17:Nat->List Value->Heap->Prop,(∃ n_19,J_17 n_19 [.int .i64 0] h_5)/\∀ (n_19:Nat) (h_20:Heap) (u_21:Nat->Value) (x_22:Int),J_17 n_19 [.int .i64 x_22] h_20->(
bcase (decide (x_22<x_7)) (
bindI (IntKind.i64.wrap ((7:Int)*x_22)) fun z_23 =>
needs (0<=z_23) <|
bindI (shrI .u64 a1 z_23) fun z_24 =>
bindI (IntKind.u8.wrap z_24) fun z_25 =>
bindI (bitI .and .u8 z_25 (127:Int)) fun z_26 =>
∃ K_27:List Value->Heap->Prop,(
bindI (IntKind.i64.wrap (x_7-(1:Int))) fun z_30 =>
bcase (decide (x_22<z_30)) (
bindI (bitI .or .u8 z_26 (128:Int)) fun z_31 =>
K_27 [.int .u8 z_31] h_20) <|
K_27 [.int .u8 z_26] h_20)/\∀ (h_28:Heap) (u_29:Nat->Value) (x_32:Int),K_27 [.int .u8 x_32] h_28->(
ptr a0 fun a_33 =>
ptr a0 fun a_34 =>
ldS h_28 (a_33.add 0) fun x_35 x_35n x_35c =>
ldI h_28 (a_34.add 1) .i64 fun x_36 =>
C F_bits_lay_uint8 #[.slice x_35 x_35n x_35c, .int .i64 x_36, .int .u8 x_32, .int .i64 8] h_28 (fun v_37 h_38 =>
∃ (r_39:Option Addr) (r_39n:Nat) (r_39c:Nat),v_37 = .slice r_39 r_39n r_39c/\(
ptr a0 fun a_40 =>
stV h_38 (a_40.add 0) (.slice r_39 r_39n r_39c) fun h_41 =>
ptr a0 fun a_42 =>
ldI h_41 (a_42.add 1) .i64 fun x_43 =>
bindI (IntKind.i64.wrap (x_43+(8:Int))) fun z_44 =>
ptr a0 fun a_45 =>
stV h_41 (a_45.add 1) (.int .i64 z_44) fun h_46 =>
bindI (IntKind.i64.wrap (x_22+(1:Int))) fun z_47 =>
∃ m_18,m_18<n_19/\J_17 m_18 [.int .i64 z_47] h_46)) (Kp))) <|
K (.int .i64 0) h_20))
def bits_Writer_Bytes (C:CallP) (w:Option Addr) (h:Heap) (K:VK) (Kp:PK):Prop :=
ptr w fun a_1 =>
ldS h (a_1.add 0) fun x_2 x_2n x_2c =>
appC h T_uint8 1 1 [.int .u8 0] none (0) (0) x_2 (x_2n) fun q_3 q_3n q_3c h_4 =>
K (.slice q_3 q_3n q_3c) h_4
def bits_NewReader (C:CallP) (b:Option Addr) (bn:Nat) (bc:Nat) (h:Heap) (K:VK) (Kp:PK):Prop :=
appC h T_uint8 1 1 [.int .u8 0] none (0) (0) b (bn) fun q_1 q_1n q_1c h_2 =>
newC h_2 [.slice q_1 q_1n q_1c, .int .i64 0] T_bits_Reader fun r_3 h_4 =>
K (.pointer (some ⟨r_3,0,none⟩)) h_4
def bits_Reader_Take (C:CallP) (r:Option Addr) (width:Int) (h:Heap) (K:VK) (Kp:PK):Prop :=
bcase (decide (width<(0:Int))) (
K (.tuple #[.int .u64 0, .int .i64 11]) h) <|
bcase (decide (width > (64:Int))) (
K (.tuple #[.int .u64 0, .int .i64 11]) h) <|
C F_bits_Reader_Left #[.pointer r] h (fun v_1 h_2 =>
∃ (r_3:Int),v_1 = .int .i64 r_3/\(
bcase (decide (width > r_3)) (
K (.tuple #[.int .u64 0, .int .i64 14]) h_2) <|
ptr r fun a_4 =>
ldI h_2 (a_4.add 1) .i64 fun x_5 =>
bindI (IntKind.i64.wrap (x_5+width)) fun z_6 =>
ptr r fun a_7 =>
stV h_2 (a_7.add 1) (.int .i64 z_6) fun h_8 =>
ptr r fun a_9 =>
ptr r fun a_10 =>
ldS h_8 (a_9.add 0) fun x_11 x_11n x_11c =>
ldI h_8 (a_10.add 1) .i64 fun x_12 =>
bindI (IntKind.i64.wrap (x_12-width)) fun z_13 =>
C F_bits_told_uint64 #[.slice x_11 x_11n x_11c, .int .i64 z_13, .int .i64 width] h_8 (fun v_14 h_15 =>
∃ (r_16:Int),v_14 = .int .u64 r_16/\(
K (.tuple #[.int .u64 r_16, .int .i64 0]) h_15)) (Kp))) (Kp)
def bits_Reader_Var (C:CallP) (D:CallDP) (r:Option Addr) (h:Heap) (K:VK) (Kp:PK):Prop :=
newC h [.pointer r] T_p_bits_Reader fun r_1 h_2 =>
newC h_2 [.int .u64 0] T_uint64 fun r_3 h_4 =>
newC h_4 [.int .i64 0] T_api_Errno fun r_5 h_6 =>
ldP h_6 (⟨r_1,0,none⟩:Addr) fun x_7 =>
ptr x_7 fun a_8 =>
ldI h_6 (a_8.add 1) .i64 fun x_9 =>
newC h_6 [.int .i64 0] T_int fun r_10 h_11 =>
stV h_11 (⟨r_10,0,none⟩:Addr) (.int .i64 x_9) fun h_12 =>
∃ J_13:Nat->List Value->Heap->Prop,(∃ n_15,J_13 n_15 [.int .i64 0] h_12)/\∀ (n_15:Nat) (h_16:Heap) (u_17:Nat->Value) (shift_18:Int),J_13 n_15 [.int .i64 shift_18] h_16->(
ldP h_16 (⟨r_1,0,none⟩:Addr) fun x_19 =>
C F_bits_Reader_group #[.pointer x_19] h_16 (fun v_20 h_21 =>
∃ (r_22:Int),∃ (r_23:Bool),v_20 = .tuple #[.int .u8 r_22, .bool r_23]/\(
∃ K_24:List Value->Heap->Prop,(
bcase (!r_23) (
stV h_21 (⟨r_3,0,none⟩:Addr) (.int .u64 0) fun h_27 =>
stV h_27 (⟨r_5,0,none⟩:Addr) (.int .i64 14) fun h_28 =>
leaveD D (fun h_29 =>
ldI h_29 (⟨r_3,0,none⟩:Addr) .u64 fun r_30 =>
ldI h_29 (⟨r_5,0,none⟩:Addr) .i64 fun r_31 =>
K (.tuple #[.int .u64 r_30, .int .i64 r_31]) h_29) Kp [{ target := .fn (.func F_bits_Reader_Var_c1) #[.pointer (some ⟨r_5,0,none⟩), .pointer (some ⟨r_10,0,none⟩), .pointer (some ⟨r_3,0,none⟩), .pointer (some ⟨r_1,0,none⟩)],args:=#[] }] .returning h_28) <|
bcase (shift_18 == (63:Int)) (
bcase (decide (r_22 > (1:Int))) (
bcase (decide (r_22 > (1:Int))) (
stV h_21 (⟨r_3,0,none⟩:Addr) (.int .u64 0) fun h_32 =>
stV h_32 (⟨r_5,0,none⟩:Addr) (.int .i64 16) fun h_33 =>
leaveD D (fun h_34 =>
ldI h_34 (⟨r_3,0,none⟩:Addr) .u64 fun r_35 =>
ldI h_34 (⟨r_5,0,none⟩:Addr) .i64 fun r_36 =>
K (.tuple #[.int .u64 r_35, .int .i64 r_36]) h_34) Kp [{ target := .fn (.func F_bits_Reader_Var_c1) #[.pointer (some ⟨r_5,0,none⟩), .pointer (some ⟨r_10,0,none⟩), .pointer (some ⟨r_3,0,none⟩), .pointer (some ⟨r_1,0,none⟩)],args:=#[] }] .returning h_33) <|
K_24 [] h_21) <|
bcase (decide (shift_18 > (0:Int))) (
bcase (r_22 == (0:Int)) (
stV h_21 (⟨r_3,0,none⟩:Addr) (.int .u64 0) fun h_37 =>
stV h_37 (⟨r_5,0,none⟩:Addr) (.int .i64 16) fun h_38 =>
leaveD D (fun h_39 =>
ldI h_39 (⟨r_3,0,none⟩:Addr) .u64 fun r_40 =>
ldI h_39 (⟨r_5,0,none⟩:Addr) .i64 fun r_41 =>
K (.tuple #[.int .u64 r_40, .int .i64 r_41]) h_39) Kp [{ target := .fn (.func F_bits_Reader_Var_c1) #[.pointer (some ⟨r_5,0,none⟩), .pointer (some ⟨r_10,0,none⟩), .pointer (some ⟨r_3,0,none⟩), .pointer (some ⟨r_1,0,none⟩)],args:=#[] }] .returning h_38) <|
K_24 [] h_21) <|
K_24 [] h_21) <|
bcase (decide (shift_18 > (0:Int))) (
bcase (r_22 == (0:Int)) (
stV h_21 (⟨r_3,0,none⟩:Addr) (.int .u64 0) fun h_42 =>
stV h_42 (⟨r_5,0,none⟩:Addr) (.int .i64 16) fun h_43 =>
leaveD D (fun h_44 =>
ldI h_44 (⟨r_3,0,none⟩:Addr) .u64 fun r_45 =>
ldI h_44 (⟨r_5,0,none⟩:Addr) .i64 fun r_46 =>
K (.tuple #[.int .u64 r_45, .int .i64 r_46]) h_44) Kp [{ target := .fn (.func F_bits_Reader_Var_c1) #[.pointer (some ⟨r_5,0,none⟩), .pointer (some ⟨r_10,0,none⟩), .pointer (some ⟨r_3,0,none⟩), .pointer (some ⟨r_1,0,none⟩)],args:=#[] }] .returning h_43) <|
K_24 [] h_21) <|
K_24 [] h_21)/\∀ (h_25:Heap) (u_26:Nat->Value) ,K_24 [] h_25->(
bindI (bitI .and .u8 r_22 (127:Int)) fun z_47 =>
bindI (IntKind.u64.wrap z_47) fun z_48 =>
needs (0<=shift_18) <|
bindI (shlI .u64 z_48 shift_18) fun z_49 =>
ldI h_25 (⟨r_3,0,none⟩:Addr) .u64 fun x_50 =>
bindI (bitI .or .u64 x_50 z_49) fun z_51 =>
stV h_25 (⟨r_3,0,none⟩:Addr) (.int .u64 z_51) fun h_52 =>
bcase (decide (r_22<(128:Int))) (
ldI h_52 (⟨r_3,0,none⟩:Addr) .u64 fun x_53 =>
stV h_52 (⟨r_3,0,none⟩:Addr) (.int .u64 x_53) fun h_54 =>
stV h_54 (⟨r_5,0,none⟩:Addr) (.int .i64 0) fun h_55 =>
leaveD D (fun h_56 =>
ldI h_56 (⟨r_3,0,none⟩:Addr) .u64 fun r_57 =>
ldI h_56 (⟨r_5,0,none⟩:Addr) .i64 fun r_58 =>
K (.tuple #[.int .u64 r_57, .int .i64 r_58]) h_56) Kp [{ target := .fn (.func F_bits_Reader_Var_c1) #[.pointer (some ⟨r_5,0,none⟩), .pointer (some ⟨r_10,0,none⟩), .pointer (some ⟨r_3,0,none⟩), .pointer (some ⟨r_1,0,none⟩)],args:=#[] }] .returning h_55) <|
bindI (IntKind.i64.wrap (shift_18+(7:Int))) fun z_59 =>
∃ m_14,m_14<n_15/\J_13 m_14 [.int .i64 z_59] h_52))) (fun c_63 h_64=>leaveD D (fun h_60 =>
ldI h_60 (⟨r_3,0,none⟩:Addr) .u64 fun r_61 =>
ldI h_60 (⟨r_5,0,none⟩:Addr) .i64 fun r_62 =>
K (.tuple #[.int .u64 r_61, .int .i64 r_62]) h_60) Kp [{ target := .fn (.func F_bits_Reader_Var_c1) #[.pointer (some ⟨r_5,0,none⟩), .pointer (some ⟨r_10,0,none⟩), .pointer (some ⟨r_3,0,none⟩), .pointer (some ⟨r_1,0,none⟩)],args:=#[] }] (.panicking c_63) h_64))
def bits_lay_uint64 (C:CallP) (b:Option Addr) (bn:Nat) (bc:Nat) (atv:Int) (n:Int) (width:Int) (h:Heap) (K:VK) (Kp:PK):Prop :=
bindI (IntKind.i64.wrap (width-(1:Int))) fun z_1 =>
∃ J_2:Nat->List Value->Heap->Prop,(∃ n_4,J_2 n_4 [.slice b bn bc, .int .i64 atv, .int .i64 z_1] h)/\∀ (n_4:Nat) (h_5:Heap) (u_6:Nat->Value) (b_7:Option Addr) (b_7n:Nat) (b_7c:Nat) (at_8:Int) (i_9:Int),J_2 n_4 [.slice b_7 b_7n b_7c, .int .i64 at_8, .int .i64 i_9] h_5->(
bcase (decide (i_9≥(0:Int))) (
∃ K_10:List Value->Heap->Prop,(
bindI (at_8.tmod (8:Int)) fun z_13 =>
bcase (z_13 == (0:Int)) (
newC h_5 [.int .u8 0] T_uint8 fun r_14 h_15 =>
appC h_15 T_uint8 1 1 [.int .u8 0] b_7 (b_7n) (b_7c) (some ⟨r_14,0,none⟩) (1) fun q_16 q_16n q_16c h_17 =>
K_10 [.slice q_16 q_16n q_16c] h_17) <|
K_10 [.slice b_7 b_7n b_7c] h_5)/\∀ (h_11:Heap) (u_12:Nat->Value) (b_18:Option Addr) (b_18n:Nat) (b_18c:Nat),K_10 [.slice b_18 b_18n b_18c] h_11->(
bindI (IntKind.i64.wrap (at_8.tdiv (8:Int))) fun z_19 =>
needs (0<=z_19/\z_19<(b_18n:Int)) <|
ptr b_18 fun a_20 =>
needs (0<=i_9) <|
bindI (shrI .u64 n i_9) fun z_21 =>
bindI (bitI .and .u64 z_21 (1:Int)) fun z_22 =>
bindI (IntKind.u8.wrap z_22) fun z_23 =>
bindI (at_8.tmod (8:Int)) fun z_24 =>
bindI (IntKind.i64.wrap ((7:Int)-z_24)) fun z_25 =>
needs (0<=z_25) <|
bindI (shlI .u8 z_23 z_25) fun z_26 =>
ldI h_11 (a_20.add (z_19.toNat*1)) .u8 fun x_27 =>
bindI (bitI .or .u8 x_27 z_26) fun z_28 =>
needs (0<=z_19/\z_19<(b_18n:Int)) <|
ptr b_18 fun a_29 =>
stV h_11 (a_29.add (z_19.toNat*1)) (.int .u8 z_28) fun h_30 =>
bindI (IntKind.i64.wrap (at_8+(1:Int))) fun z_31 =>
bindI (IntKind.i64.wrap (i_9-(1:Int))) fun z_32 =>
∃ m_3,m_3<n_4/\J_2 m_3 [.slice b_18 b_18n b_18c, .int .i64 z_31, .int .i64 z_32] h_30)) <|
K (.slice b_7 b_7n b_7c) h_5)
def bits_lay_uint8 (C:CallP) (b:Option Addr) (bn:Nat) (bc:Nat) (atv:Int) (n:Int) (width:Int) (h:Heap) (K:VK) (Kp:PK):Prop :=
bindI (IntKind.i64.wrap (width-(1:Int))) fun z_1 =>
∃ J_2:Nat->List Value->Heap->Prop,(∃ n_4,J_2 n_4 [.slice b bn bc, .int .i64 atv, .int .i64 z_1] h)/\∀ (n_4:Nat) (h_5:Heap) (u_6:Nat->Value) (b_7:Option Addr) (b_7n:Nat) (b_7c:Nat) (at_8:Int) (i_9:Int),J_2 n_4 [.slice b_7 b_7n b_7c, .int .i64 at_8, .int .i64 i_9] h_5->(
bcase (decide (i_9≥(0:Int))) (
∃ K_10:List Value->Heap->Prop,(
bindI (at_8.tmod (8:Int)) fun z_13 =>
bcase (z_13 == (0:Int)) (
newC h_5 [.int .u8 0] T_uint8 fun r_14 h_15 =>
appC h_15 T_uint8 1 1 [.int .u8 0] b_7 (b_7n) (b_7c) (some ⟨r_14,0,none⟩) (1) fun q_16 q_16n q_16c h_17 =>
K_10 [.slice q_16 q_16n q_16c] h_17) <|
K_10 [.slice b_7 b_7n b_7c] h_5)/\∀ (h_11:Heap) (u_12:Nat->Value) (b_18:Option Addr) (b_18n:Nat) (b_18c:Nat),K_10 [.slice b_18 b_18n b_18c] h_11->(
bindI (IntKind.i64.wrap (at_8.tdiv (8:Int))) fun z_19 =>
needs (0<=z_19/\z_19<(b_18n:Int)) <|
ptr b_18 fun a_20 =>
needs (0<=i_9) <|
bindI (shrI .u8 n i_9) fun z_21 =>
bindI (bitI .and .u8 z_21 (1:Int)) fun z_22 =>
bindI (at_8.tmod (8:Int)) fun z_23 =>
bindI (IntKind.i64.wrap ((7:Int)-z_23)) fun z_24 =>
needs (0<=z_24) <|
bindI (shlI .u8 z_22 z_24) fun z_25 =>
ldI h_11 (a_20.add (z_19.toNat*1)) .u8 fun x_26 =>
bindI (bitI .or .u8 x_26 z_25) fun z_27 =>
needs (0<=z_19/\z_19<(b_18n:Int)) <|
ptr b_18 fun a_28 =>
stV h_11 (a_28.add (z_19.toNat*1)) (.int .u8 z_27) fun h_29 =>
bindI (IntKind.i64.wrap (at_8+(1:Int))) fun z_30 =>
bindI (IntKind.i64.wrap (i_9-(1:Int))) fun z_31 =>
∃ m_3,m_3<n_4/\J_2 m_3 [.slice b_18 b_18n b_18c, .int .i64 z_30, .int .i64 z_31] h_29)) <|
K (.slice b_7 b_7n b_7c) h_5)
def bits_told_uint64 (C:CallP) (b:Option Addr) (bn:Nat) (bc:Nat) (atv:Int) (width:Int) (h:Heap) (K:VK) (Kp:PK):Prop :=
∃ J_1:Nat->List Value->Heap->Prop,(∃ n_3,J_1 n_3 [.int .u64 0, .int .i64 0] h)/\∀ (n_3:Nat) (h_4:Heap) (u_5:Nat->Value) (n_6:Int) (x_7:Int),J_1 n_3 [.int .u64 n_6, .int .i64 x_7] h_4->(
bcase (decide (x_7<width)) (
bindI (shlI .u64 n_6 (1:Int)) fun z_8 =>
bindI (IntKind.i64.wrap (atv+x_7)) fun z_9 =>
bindI (IntKind.i64.wrap (z_9.tdiv (8:Int))) fun z_10 =>
needs (0<=z_10/\z_10<(bn:Int)) <|
ptr b fun a_11 =>
ldI h_4 (a_11.add (z_10.toNat*1)) .u8 fun x_12 =>
bindI (IntKind.i64.wrap (atv+x_7)) fun z_13 =>
bindI (z_13.tmod (8:Int)) fun z_14 =>
bindI (IntKind.i64.wrap ((7:Int)-z_14)) fun z_15 =>
needs (0<=z_15) <|
bindI (shrI .u8 x_12 z_15) fun z_16 =>
bindI (bitI .and .u8 z_16 (1:Int)) fun z_17 =>
bindI (IntKind.u64.wrap z_17) fun z_18 =>
bindI (bitI .or .u64 z_8 z_18) fun z_19 =>
bindI (IntKind.i64.wrap (x_7+(1:Int))) fun z_20 =>
∃ m_2,m_2<n_3/\J_1 m_2 [.int .u64 z_19, .int .i64 z_20] h_4) <|
K (.int .u64 n_6) h_4)
def bits_Reader_Var_c1 (C:CallP) (cap0:Addr) (cap1:Addr) (cap2:Addr) (cap3:Addr) (h:Heap) (K:VK) (Kp:PK):Prop :=
ldI h cap0 .i64 fun x_1 =>
bcase (x_1 != (0:Int)) (
ldP h cap3 fun x_2 =>
ldI h cap1 .i64 fun x_3 =>
stV h cap2 (.int .u64 0) fun h_4 =>
ptr x_2 fun a_5 =>
stV h_4 (a_5.add 1) (.int .i64 x_3) fun h_6 =>
K (.tuple #[]) h_6) <|
K (.tuple #[]) h
def bits_Reader_group (C:CallP) (r:Option Addr) (h:Heap) (K:VK) (Kp:PK):Prop :=
C F_bits_Reader_Left #[.pointer r] h (fun v_1 h_2 =>
∃ (r_3:Int),v_1 = .int .i64 r_3/\(
bcase (decide (r_3<(8:Int))) (
K (.tuple #[.int .u8 0, .bool false]) h_2) <|
ptr r fun a_4 =>
ldI h_2 (a_4.add 1) .i64 fun x_5 =>
bindI (IntKind.i64.wrap (x_5+(8:Int))) fun z_6 =>
ptr r fun a_7 =>
stV h_2 (a_7.add 1) (.int .i64 z_6) fun h_8 =>
ptr r fun a_9 =>
ptr r fun a_10 =>
ldS h_8 (a_9.add 0) fun x_11 x_11n x_11c =>
ldI h_8 (a_10.add 1) .i64 fun x_12 =>
bindI (IntKind.i64.wrap (x_12-(8:Int))) fun z_13 =>
C F_bits_told_uint8 #[.slice x_11 x_11n x_11c, .int .i64 z_13, .int .i64 8] h_8 (fun v_14 h_15 =>
∃ (r_16:Int),v_14 = .int .u8 r_16/\(
K (.tuple #[.int .u8 r_16, .bool true]) h_15)) (Kp))) (Kp)
def bits_told_uint8 (C:CallP) (b:Option Addr) (bn:Nat) (bc:Nat) (atv:Int) (width:Int) (h:Heap) (K:VK) (Kp:PK):Prop :=
∃ J_1:Nat->List Value->Heap->Prop,(∃ n_3,J_1 n_3 [.int .u8 0, .int .i64 0] h)/\∀ (n_3:Nat) (h_4:Heap) (u_5:Nat->Value) (n_6:Int) (x_7:Int),J_1 n_3 [.int .u8 n_6, .int .i64 x_7] h_4->(
bcase (decide (x_7<width)) (
bindI (shlI .u8 n_6 (1:Int)) fun z_8 =>
bindI (IntKind.i64.wrap (atv+x_7)) fun z_9 =>
bindI (IntKind.i64.wrap (z_9.tdiv (8:Int))) fun z_10 =>
needs (0<=z_10/\z_10<(bn:Int)) <|
ptr b fun a_11 =>
ldI h_4 (a_11.add (z_10.toNat*1)) .u8 fun x_12 =>
bindI (IntKind.i64.wrap (atv+x_7)) fun z_13 =>
bindI (z_13.tmod (8:Int)) fun z_14 =>
bindI (IntKind.i64.wrap ((7:Int)-z_14)) fun z_15 =>
needs (0<=z_15) <|
bindI (shrI .u8 x_12 z_15) fun z_16 =>
bindI (bitI .and .u8 z_16 (1:Int)) fun z_17 =>
bindI (bitI .or .u8 z_8 z_17) fun z_18 =>
bindI (IntKind.i64.wrap (x_7+(1:Int))) fun z_19 =>
∃ m_2,m_2<n_3/\J_1 m_2 [.int .u8 z_18, .int .i64 z_19] h_4) <|
K (.int .u8 n_6) h_4)
end Go.Den.YtfaclehehhgpcaaGreat
namespace Go.Den.YtfaclehehhgpcaaGreat
open Go Go.Den
theorem call_bits_Reader_Left {r:Option Addr} {h:Heap} {K:VK} {Kp:PK} (H:bits_Reader_Left (CallsHP Go.Proofs.Tryz.prog) r h K Kp):CallsHP Go.Proofs.Tryz.prog F_bits_Reader_Left #[.pointer r] h K Kp :=
 callsHP_ofE (Hints.mk (fun i=>bif Nat.beq i 1 then some ([], .take 0 <| .take 1 <| .take 2 <| .take 6 <| .take 7 <| .take 8 <| .take 3 <| .take 4 <| .take 5 <| .take 9 <| .take 10 <| .take 11 <| .done) else (none)) (fun i=>none) (fun i=>none) []) (by kernel_rfl) Go.Proofs.Tryz.func71 (by kernel_rfl) (fun C=>bits_Reader_Left C r h K Kp) (fun C=>by kernel_rfl) H
theorem call_bits_NewWriter {most:Int} {h:Heap} {K:VK} {Kp:PK} (H:bits_NewWriter (CallsHP Go.Proofs.Tryz.prog) most h K Kp):CallsHP Go.Proofs.Tryz.prog F_bits_NewWriter #[.int .i64 most] h K Kp :=
 callsHP_ofE (Hints.mk (fun i=>none) (fun i=>none) (fun i=>none) []) (by kernel_rfl) Go.Proofs.Tryz.func84 (by kernel_rfl) (fun C=>bits_NewWriter C most h K Kp) (fun C=>by kernel_rfl) H
theorem call_bits_Writer_Put {w:Option Addr} {n:Int} {width:Int} {h:Heap} {K:VK} {Kp:PK} (H:bits_Writer_Put (CallsHP Go.Proofs.Tryz.prog) w n width h K Kp):CallsHP Go.Proofs.Tryz.prog F_bits_Writer_Put #[.pointer w, .int .u64 n, .int .i64 width] h K Kp :=
 callsHP_ofE (Hints.mk (fun i=>bif Nat.beq i 5 then some ([], .take 0 <| .take 1 <| .take 2 <| .take 4 <| .take 6 <| .take 7 <| .take 8 <| .take 3 <| .take 5 <| .take 9 <| .take 10 <| .take 11 <| .done) else (bif Nat.beq i 7 then some ([11,14], .take 0 <| .take 1 <| .take 2 <| .take 3 <| .take 5 <| .take 6 <| .take 7 <| .take 9 <| .take 10 <| .take 4 <| .take 8 <| .bar 11 [14] <| .take 12 <| .take 13 <| .bar 14 [] <| .done) else (none))) (fun i=>none) (fun i=>bif Nat.beq i 4 then some ([(14, .bool)],8372224) else (none)) []) (by kernel_rfl) Go.Proofs.Tryz.func86 (by kernel_rfl) (fun C=>bits_Writer_Put C w n width h K Kp) (fun C=>by kernel_rfl) H
theorem call_bits_Writer_Var {a0:Option Addr} {a1:Int} {h:Heap} {K:VK} {Kp:PK} (H:bits_Writer_Var (CallsHP Go.Proofs.Tryz.prog) a0 a1 h K Kp):CallsHP Go.Proofs.Tryz.prog F_bits_Writer_Var #[.pointer a0, .int .u64 a1] h K Kp :=
 callsHP_ofE (Hints.mk (fun i=>bif Nat.beq i 6 then some ([], .take 0 <| .take 1 <| .take 2 <| .take 4 <| .take 5 <| .take 7 <| .take 8 <| .take 9 <| .take 3 <| .take 6 <| .take 10 <| .take 11 <| .done) else (bif Nat.beq i 14 then some ([10,13], .take 0 <| .take 1 <| .take 2 <| .take 3 <| .take 5 <| .take 6 <| .take 7 <| .take 9 <| .take 4 <| .take 8 <| .bar 10 [13] <| .take 11 <| .take 12 <| .bar 13 [] <| .done) else (none))) (fun i=>bif Nat.beq i 3 then some ([(5, .int .i64),(6, .int .u64)],129120) else (bif Nat.beq i 9 then some ([(30, .int .i64)],73786976293764465024) else (none))) (fun i=>bif Nat.beq i 14 then some ([(8, .int .u8)],34634616275200) else (none)) []) (by kernel_rfl) Go.Proofs.Tryz.func87 (by kernel_rfl) (fun C=>bits_Writer_Var C a0 a1 h K Kp) (fun C=>by kernel_rfl) H
theorem call_bits_Writer_Bytes {w:Option Addr} {h:Heap} {K:VK} {Kp:PK} (H:bits_Writer_Bytes (CallsHP Go.Proofs.Tryz.prog) w h K Kp):CallsHP Go.Proofs.Tryz.prog F_bits_Writer_Bytes #[.pointer w] h K Kp :=
 callsHP_ofE (Hints.mk (fun i=>none) (fun i=>none) (fun i=>none) []) (by kernel_rfl) Go.Proofs.Tryz.func93 (by kernel_rfl) (fun C=>bits_Writer_Bytes C w h K Kp) (fun C=>by kernel_rfl) H
theorem call_bits_NewReader {b:Option Addr} {bn:Nat} {bc:Nat} {h:Heap} {K:VK} {Kp:PK} (H:bits_NewReader (CallsHP Go.Proofs.Tryz.prog) b bn bc h K Kp):CallsHP Go.Proofs.Tryz.prog F_bits_NewReader #[.slice b bn bc] h K Kp :=
 callsHP_ofE (Hints.mk (fun i=>none) (fun i=>none) (fun i=>none) []) (by kernel_rfl) Go.Proofs.Tryz.func107 (by kernel_rfl) (fun C=>bits_NewReader C b bn bc h K Kp) (fun C=>by kernel_rfl) H
theorem call_bits_Reader_Take {r:Option Addr} {width:Int} {h:Heap} {K:VK} {Kp:PK} (H:bits_Reader_Take (CallsHP Go.Proofs.Tryz.prog) r width h K Kp):CallsHP Go.Proofs.Tryz.prog F_bits_Reader_Take #[.pointer r, .int .i64 width] h K Kp :=
 callsHP_ofE (Hints.mk (fun i=>bif Nat.beq i 6 then some ([11], .take 0 <| .take 1 <| .take 2 <| .take 4 <| .take 5 <| .take 6 <| .take 8 <| .take 10 <| .take 3 <| .take 7 <| .take 9 <| .bar 11 [] <| .take 12 <| .take 13 <| .done) else (none)) (fun i=>none) (fun i=>none) []) (by kernel_rfl) Go.Proofs.Tryz.func108 (by kernel_rfl) (fun C=>bits_Reader_Take C r width h K Kp) (fun C=>by kernel_rfl) H
noncomputable def hints_bits_Reader_Var:Hints:=Hints.mk (fun i=>bif Nat.beq i 11 then some ([7], .take 1 <| .take 2 <| .take 3 <| .take 4 <| .take 5 <| .take 0 <| .take 6 <| .bar 7 [] <| .done) else (none))
 (fun i=>bif Nat.beq i 5 then some ([(5, .int .i64)],70368744169696) else (none))
 (fun i=>bif Nat.beq i 11 then some ([],68718428160) else (none)) []
theorem eq_bits_Reader_Var (C:CallP) (D:CallDP) (r:Option Addr) (h:Heap) (K:VK) (Kp:PK) :
  fnDD Go.Proofs.Tryz.prog C D hints_bits_Reader_Var Go.Proofs.Tryz.f109 [.pointer r] h K Kp=bits_Reader_Var C D r h K Kp:=by kernel_rfl
theorem call_bits_Reader_Var {r:Option Addr} {h:Heap} {K:VK} {Kp:PK} (H:bits_Reader_Var (CallsHP Go.Proofs.Tryz.prog) (DCalls Go.Proofs.Tryz.prog) r h K Kp):CallsHP Go.Proofs.Tryz.prog F_bits_Reader_Var #[.pointer r] h K Kp :=
 callsHP_ofD hints_bits_Reader_Var (by kernel_rfl) Go.Proofs.Tryz.func109 (by kernel_rfl) (by rw [eq_bits_Reader_Var]; exact H)
theorem call_bits_lay_uint64 {b:Option Addr} {bn:Nat} {bc:Nat} {atv:Int} {n:Int} {width:Int} {h:Heap} {K:VK} {Kp:PK} (H:bits_lay_uint64 (CallsHP Go.Proofs.Tryz.prog) b bn bc atv n width h K Kp):CallsHP Go.Proofs.Tryz.prog F_bits_lay_uint64 #[.slice b bn bc, .int .i64 atv, .int .u64 n, .int .i64 width] h K Kp :=
 callsHP_ofE (Hints.mk (fun i=>bif Nat.beq i 6 then some ([16], .take 0 <| .take 1 <| .take 2 <| .take 3 <| .take 5 <| .take 6 <| .take 7 <| .take 8 <| .take 9 <| .take 10 <| .take 11 <| .take 12 <| .take 13 <| .take 4 <| .take 14 <| .take 15 <| .bar 16 [] <| .done) else (none)) (fun i=>bif Nat.beq i 2 then some ([(0, .slc),(1, .int .i64),(9, .int .i64)],1099511624195) else (none)) (fun i=>bif Nat.beq i 6 then some ([(0, .slc)],4128769) else (none)) []) (by kernel_rfl) Go.Proofs.Tryz.func138 (by kernel_rfl) (fun C=>bits_lay_uint64 C b bn bc atv n width h K Kp) (fun C=>by kernel_rfl) H
theorem call_bits_lay_uint8 {b:Option Addr} {bn:Nat} {bc:Nat} {atv:Int} {n:Int} {width:Int} {h:Heap} {K:VK} {Kp:PK} (H:bits_lay_uint8 (CallsHP Go.Proofs.Tryz.prog) b bn bc atv n width h K Kp):CallsHP Go.Proofs.Tryz.prog F_bits_lay_uint8 #[.slice b bn bc, .int .i64 atv, .int .u8 n, .int .i64 width] h K Kp :=
 callsHP_ofE (Hints.mk (fun i=>bif Nat.beq i 6 then some ([15], .take 0 <| .take 1 <| .take 2 <| .take 3 <| .take 5 <| .take 6 <| .take 7 <| .take 8 <| .take 9 <| .take 10 <| .take 11 <| .take 12 <| .take 4 <| .take 13 <| .take 14 <| .bar 15 [] <| .done) else (none)) (fun i=>bif Nat.beq i 2 then some ([(0, .slc),(1, .int .i64),(9, .int .i64)],549755810307) else (none)) (fun i=>bif Nat.beq i 6 then some ([(0, .slc)],4128769) else (none)) []) (by kernel_rfl) Go.Proofs.Tryz.func139 (by kernel_rfl) (fun C=>bits_lay_uint8 C b bn bc atv n width h K Kp) (fun C=>by kernel_rfl) H
theorem call_bits_told_uint64 {b:Option Addr} {bn:Nat} {bc:Nat} {atv:Int} {width:Int} {h:Heap} {K:VK} {Kp:PK} (H:bits_told_uint64 (CallsHP Go.Proofs.Tryz.prog) b bn bc atv width h K Kp):CallsHP Go.Proofs.Tryz.prog F_bits_told_uint64 #[.slice b bn bc, .int .i64 atv, .int .i64 width] h K Kp :=
 callsHP_ofE (Hints.mk (fun i=>none) (fun i=>bif Nat.beq i 3 then some ([(7, .int .u64),(10, .int .i64)],4294966656) else (none)) (fun i=>none) []) (by kernel_rfl) Go.Proofs.Tryz.func159 (by kernel_rfl) (fun C=>bits_told_uint64 C b bn bc atv width h K Kp) (fun C=>by kernel_rfl) H
noncomputable def hints_bits_Reader_Var_c1:Hints:=Hints.mk (fun i=>none)
 (fun i=>none)
 (fun i=>none) []
theorem eq_bits_Reader_Var_c1 (C:CallP) (cap0:Addr) (cap1:Addr) (cap2:Addr) (cap3:Addr) (h:Heap) (K:VK) (Kp:PK) :
  fnD Go.Proofs.Tryz.prog C hints_bits_Reader_Var_c1 Go.Proofs.Tryz.f160 [.pointer (some cap0), .pointer (some cap1), .pointer (some cap2), .pointer (some cap3)] h K Kp=bits_Reader_Var_c1 C cap0 cap1 cap2 cap3 h K Kp:=by kernel_rfl
theorem call_bits_Reader_group {r:Option Addr} {h:Heap} {K:VK} {Kp:PK} (H:bits_Reader_group (CallsHP Go.Proofs.Tryz.prog) r h K Kp):CallsHP Go.Proofs.Tryz.prog F_bits_Reader_group #[.pointer r] h K Kp :=
 callsHP_ofE (Hints.mk (fun i=>bif Nat.beq i 4 then some ([9], .take 0 <| .take 1 <| .take 2 <| .take 4 <| .take 5 <| .take 6 <| .take 3 <| .take 7 <| .take 8 <| .bar 9 [] <| .take 10 <| .take 11 <| .done) else (none)) (fun i=>none) (fun i=>none) []) (by kernel_rfl) Go.Proofs.Tryz.func161 (by kernel_rfl) (fun C=>bits_Reader_group C r h K Kp) (fun C=>by kernel_rfl) H
theorem call_bits_told_uint8 {b:Option Addr} {bn:Nat} {bc:Nat} {atv:Int} {width:Int} {h:Heap} {K:VK} {Kp:PK} (H:bits_told_uint8 (CallsHP Go.Proofs.Tryz.prog) b bn bc atv width h K Kp):CallsHP Go.Proofs.Tryz.prog F_bits_told_uint8 #[.slice b bn bc, .int .i64 atv, .int .i64 width] h K Kp :=
 callsHP_ofE (Hints.mk (fun i=>none) (fun i=>bif Nat.beq i 3 then some ([(7, .int .u8),(10, .int .i64)],2147483008) else (none)) (fun i=>none) []) (by kernel_rfl) Go.Proofs.Tryz.func195 (by kernel_rfl) (fun C=>bits_told_uint8 C b bn bc atv width h K Kp) (fun C=>by kernel_rfl) H
end Go.Den.YtfaclehehhgpcaaGreat
namespace Go.Bm
open Go Go.Den Go.Den.YtfaclehehhgpcaaGreat
open Go.Ar (u8s u8s_length)
theorem take_snocG {α:Type} {l:List α} {i:Nat} {x:α} (h:l[i]? = some x):l.take (i+1)=l.take i++[x]:=by
 obtain ⟨hi,he⟩:=List.getElem?_eq_some_iff.1 h
 rw [List.take_succ_eq_append_getElem hi,he]
def grpF:Nat->Nat->List Nat
 | 0,n=>[n % 128]
 | f+1,n=>if n<128 then [n] else (n % 128+128)::grpF f (n / 128)
def grp (n:Nat):List Nat:=grpF 10 n
def preG (d n:Nat):List Nat:=(List.range d).map fun i=>n / 128 ^ i % 128+128
theorem grpF_eq:∀ (d f n:Nat),d<f->n / 128 ^ d<128->(∀ j,j<d->128<=n / 128 ^ j)->grpF f n=preG d n++[n / 128 ^ d]
 | 0,f+1,n,_,h,_=>by
  rw [Nat.pow_zero,Nat.div_one] at h ⊢
  show (if n<128 then [n] else _)=_
  rw [if_pos h]
  rfl
 | d+1,f+1,n,hf,h,hj=>by
  have h0:=hj 0 (by omega)
  rw [Nat.pow_zero,Nat.div_one] at h0
  have hd:∀ k,n / 128 / 128 ^ k=n / 128 ^ (k+1):=fun k=>by rw [Nat.div_div_eq_div_mul,Nat.pow_succ,Nat.mul_comm]
  have ih:=grpF_eq d f (n / 128) (by omega) (by rw [hd]; exact h) (fun j hjd=>by rw [hd]; exact hj (j+1) (by omega))
  show (if n<128 then [n] else (n % 128+128)::grpF f (n / 128))=_
  rw [if_neg (by omega),ih,hd]
  have e:preG (d+1) n=(n % 128+128)::preG d (n / 128):=by
   unfold preG
   rw [List.range_succ_eq_map,List.map_cons,List.map_map,Nat.pow_zero,Nat.div_one]
   congr 1
   refine List.map_congr_left fun i _=>?_
   show n / 128 ^ (i+1) % 128+128=_
   rw [hd]
  rw [e]
  rfl
theorem grpF_lt:∀ (f n:Nat),∀ x∈grpF f n,x<256
 | 0,n=>fun x hx=>by rw [List.mem_singleton.1 hx]; omega
 | f+1,n=>fun x hx=>by
  have hx:x∈(if n<128 then [n] else (n % 128+128)::grpF f (n / 128)):=hx
  split at hx
  ·rw [List.mem_singleton.1 hx]; omega
  ·rcases List.mem_cons.1 hx with rfl | hx
   ·omega
   ·exact grpF_lt f _ x hx
theorem grpF_len:∀ (f n:Nat),1<=(grpF f n).length/\(grpF f n).length<=f+1
 | 0,n=>⟨Nat.le_refl _,Nat.le_refl _⟩
 | f+1,n=>by
  show 1<=(if n<128 then [n] else (n % 128+128)::grpF f (n / 128)).length/\(if n<128 then [n] else (n % 128+128)::grpF f (n / 128)).length<=_
  have:=grpF_len f (n / 128)
  split
  ·exact ⟨Nat.le_refl _,by show 1<=_; omega⟩
  ·rw [List.length_cons]; omega
theorem grp_lt {n:Nat}:∀ x∈grp n,x<256:=grpF_lt 10 n
theorem grp_len (n:Nat):1<=(grp n).length/\(grp n).length<=11:=grpF_len 10 n
def bitsUp (x j:Nat):Nat:=x / 2 ^ (8-j)*2 ^ (8-j)
def upOk:Bool:=(List.range 256).all fun x=>(List.range 8).all fun j=>Nat.beq (bitsUp x j ||| (x / 2 ^ (7-j) % 2)*2 ^ (7-j)) (bitsUp x (j+1)) && Nat.blt (bitsUp x j) 256 && Nat.blt ((x / 2 ^ (7-j) % 2)*2 ^ (7-j)) 256
theorem upOk_t:upOk=true:=by kernel_rfl
theorem up_step {x j:Nat} (hx:x<256) (hj:j<8):bitsUp x j ||| (x / 2 ^ (7-j) % 2)*2 ^ (7-j)=bitsUp x (j+1)/\bitsUp x j<256/\(x / 2 ^ (7-j) % 2)*2 ^ (7-j)<256:=by
 have h:=List.all_eq_true.1 (List.all_eq_true.1 upOk_t x (List.mem_range.2 hx)) j (List.mem_range.2 hj)
 simp only [Bool.and_eq_true] at h
 exact ⟨Nat.eq_of_beq_eq_true h.1.1,Nat.le_of_ble_eq_true h.1.2,Nat.le_of_ble_eq_true h.2⟩
section
variable {h0 h:Heap} {F:List Nat} {A B D:List Ent}
theorem Slot.stV {t:TypeId} {n c i:Nat} {q:Option Addr} {xs:List Value} {v:Value} (hd:Slot t 1 D q n c xs) (H:Hp h0 F h (A++(D++B))) (hi:i<n) (hv:v.oneCell'=true) {K:Heap->Prop}
  (hk:∀ D' h',Slot t 1 D' q n c (xs.set i v)->Hp h0 F h' (A++(D'++B))->K h'):∃ b,q=some ⟨b,0,none⟩/\Go.Den.stV h ⟨b,i,none⟩ v K:=by
 obtain ⟨hl,⟨rfl,rfl,rfl,rfl⟩ | ⟨b,rest,rfl,rfl,hc⟩⟩:=hd
 ·omega
 ·refine ⟨b,rfl,?_⟩
  rw [Nat.mul_one] at hl
  have hlen:i<(xs++rest).length:=by rw [List.length_append]; omega
  have he:(xs++rest).set i v=xs.set i v++rest:=List.set_append_left _ _ (by omega)
  refine stV_hp (i:=i) H A.length (by rw [List.getElem?_append_right (Nat.le_refl _),Nat.sub_self]; rfl) hlen hv fun h' _ H'=>?_
  refine hk [⟨b,true,t,xs.set i v++rest⟩] h' ⟨by rw [List.length_set]; omega, .inr ⟨b,rest,rfl,rfl,by rw [List.length_append,List.length_set,<- List.length_append]; exact hc⟩⟩ (H'.as ?_)
  rw [List.set_append_right _ _ (Nat.le_refl _),Nat.sub_self,<- he]
  rfl
theorem u8s_snoc (l:List Nat) (x:Nat):u8s (l++[x])=u8s l++[.int .u8 (x:Nat)]:=by simp [u8s]
theorem u8s_last (l:List Nat) (x y:Nat):(u8s (l++[x])).set l.length (.int .u8 (y:Nat))=u8s (l++[y]):=by
 rw [u8s_snoc,u8s_snoc,List.set_append_right _ _ (by rw [u8s_length]; exact Nat.le_refl _),u8s_length,Nat.sub_self]
 rfl
end
section
variable {h0 h:Heap} {F:List Nat} {A B D:List Ent} {K:VK} {Kp:PK} {q:Option Addr} {c:Nat} {bs:List Nat} {x:Nat}
set_option maxHeartbeats 2000000 in
theorem lay8_ok (hsl:Slot T_uint8 1 D q bs.length c (u8s bs)) (H:Hp h0 F h (A++(D++B))) (hx:x<256) (hl:bs.length<=1000000000)
  (hk:∀ D' q' c' h',Slot T_uint8 1 D' q' (bs++[x]).length c' (u8s (bs++[x]))->Hp h0 F h' (A++(D'++B))->K (.slice q' (bs++[x]).length c') h') :
  CP F_bits_lay_uint8 #[.slice q bs.length c, .int .i64 ((8*bs.length:Nat):Int), .int .u8 (x:Nat), .int .i64 8] h K Kp:=by
 refine call_bits_lay_uint8 ?_
 unfold bits_lay_uint8
 refine bindI_of ((7:Int)) (by exact i64_in _ (by omega) (by omega)) ?_
 refine ⟨fun f vs h'=>∃ (j:Nat) (bb:List Nat) (D':List Ent) (q':Option Addr) (c':Nat),j+f=8/\bb=(if j=0 then bs else bs++[bitsUp x j])/\vs=[.slice q' bb.length c', .int .i64 ((8*bs.length+j:Nat):Int), .int .i64 (7-(j:Int))] /\
  Slot T_uint8 1 D' q' bb.length c' (u8s bb)/\Hp h0 F h' (A++(D'++B)),⟨8,0,bs,D,q,c,rfl,rfl,rfl,hsl,H⟩,?_⟩
 clear H hsl
 rintro f h u qa na ca ta ia ⟨j,bb,D,q,c,hjf,hbb,hxx,hsl,H⟩
 injection hxx with hx1 hxx
 injection hxx with hx2 hxx
 injection hxx with hx3 hxx
 injection hx1 with hx1 hx4 hx5
 injection hx2 with _ hx2
 injection hx3 with _ hx3
 subst qa na ca ta ia
 refine bcase_dec (fun h4=>?_) fun h4=>?_
 ·have hj:j<8:=by omega
  obtain ⟨u1,u2,u3⟩:=up_step hx hj
  refine ⟨fun vs h'=>∃ (D':List Ent) (q':Option Addr) (c':Nat),vs=[.slice q' (bs++[bitsUp x j]).length c']/\Slot T_uint8 1 D' q' (bs++[bitsUp x j]).length c' (u8s (bs++[bitsUp x j]))/\Hp h0 F h' (A++(D'++B)),?_,?_⟩
  ·refine bindI_of (((j:Nat):Int)) (by exact (tmod_nat (8*bs.length+j) 8).trans (by omega)) ?_
   refine bcase_eq (fun h5=>?_) fun h5=>?_
   ·have hj0:j=0:=by omega
    rw [if_pos hj0] at hbb
    subst hbb
    refine newC_hp H fun r h H=>?_
    have H:Hp h0 F h (A++(D++(B++[⟨r,true,T_uint8,[.int .u8 0]⟩]))):=H.as (by simp only [List.append_assoc])
    refine Slot.app (m:=1) (new:=[.int .u8 0]) hsl H rfl (Hp.rdO_mem (rest:=[]) (cs:=[.int .u8 0]) H (List.mem_append_right _ (List.mem_append_right _ (List.mem_append_right _ (List.mem_singleton.2 rfl)))) rfl) rfl (fun v hv=>by rw [List.mem_singleton.1 hv]; rfl) (by decide) (by omega) fun D' q' c' h' hsl' H'=>?_
    have e0:bitsUp x j=0:=by rw [hj0]; unfold bitsUp; rw [show 8-0=8 by rfl,Nat.div_eq_of_lt (by omega),Nat.zero_mul]
    rw [e0]
    refine ⟨D',q',c',?_,?_,?_⟩
    ·rw [List.length_append]; rfl
    ·rw [List.length_append,u8s_snoc]; exact hsl'
    ·have H2:Hp h0 F h' ((A++(D'++B))++[⟨r,true,T_uint8,[.int .u8 0]⟩]):=H'.as (by simp only [List.append_assoc])
     exact Hp.pre H2
   ·rw [if_neg (by omega)] at hbb
    subst hbb
    exact ⟨D,q,c,rfl,hsl,H⟩
  clear H hsl hbb bb
  rintro h u qa na ca ⟨D,q,c,hxx,hsl,H⟩
  injection hxx with hx1 hxx
  injection hx1 with hx1 hx4 hx5
  subst qa na ca
  have hlen:(bs++[bitsUp x j]).length=bs.length+1:=by rw [List.length_append]; rfl
  have hcell:(u8s (bs++[bitsUp x j]))[bs.length]? = some (.int .u8 (bitsUp x j:Nat)):=by
   rw [u8s_snoc,List.getElem?_append_right (by rw [u8s_length]; exact Nat.le_refl _),u8s_length,Nat.sub_self]
   rfl
  obtain ⟨b,hqb,hc⟩:=Slot.cell hsl H hcell
  subst hqb
  refine bindI_of (((bs.length:Nat):Int)) (by exact i64_at _ _ (by rw [show ((8*bs.length+j:Nat):Int).tdiv 8=(((8*bs.length+j) / 8:Nat):Int) from rfl]; omega) (by omega) (by omega)) ?_
  refine needs_of (by rw [hlen]; omega) (ptr_of (a:=⟨b,0,none⟩) ?_)
  rw [show (7-(j:Int))=((7-j:Nat):Int) by omega]
  refine needs_of (by omega) ?_
  refine bindI_of (((x / 2 ^ (7-j):Nat):Int)) (by exact shr_of (by show 7-j<=8; omega)) ?_
  have hxd:x / 2 ^ (7-j)<256:=Nat.lt_of_le_of_lt (Nat.div_le_self _ _) hx
  refine bindI_of (((x / 2 ^ (7-j) % 2:Nat):Int)) (by exact (and8 _ 1 hxd (by decide)).trans (by rw [Nat.and_one_is_mod])) ?_
  refine bindI_of (((j:Nat):Int)) (by exact (tmod_nat (8*bs.length+j) 8).trans (by omega)) ?_
  refine bindI_of (((7-j:Nat):Int)) (by exact i64_at _ _ (by omega) (by omega) (by omega)) ?_
  refine needs_of (by omega) ?_
  refine bindI_of ((((x / 2 ^ (7-j) % 2)*2 ^ (7-j):Nat):Int)) (by exact shl_of (by show 7-j<=8; omega) (wr8 _ (by omega) (by omega))) ?_
  rw [Int.toNat_natCast,Nat.mul_one]
  refine ldI_of (x:=((bitsUp x j:Nat):Int)) (by rw [add_mk,Nat.zero_add]; exact hc) ?_
  refine bindI_of (((bitsUp x (j+1):Nat):Int)) (by exact (or8 _ _ u2 u3).trans (by rw [u1])) ?_
  refine needs_of (by rw [hlen]; omega) (ptr_of (a:=⟨b,0,none⟩) ?_)
  rw [add_mk,Nat.zero_add]
  obtain ⟨b',hb',hst⟩:=Slot.stV (i:=bs.length) (v := .int .u8 ((bitsUp x (j+1):Nat):Int)) hsl H (by omega) rfl (K:=fun h_29=>bindI (IntKind.i64.wrap (((8*bs.length+j:Nat):Int)+1)) fun z_30=>bindI (IntKind.i64.wrap (((7-j:Nat):Int)-1)) fun z_31=>∃ m_3,m_3<f/\∃ (j:Nat) (bb:List Nat) (D':List Ent) (q':Option Addr) (c':Nat),j+m_3=8/\bb=(if j=0 then bs else bs++[bitsUp x j])/\[Value.slice (some ⟨b,0,none⟩) (bs++[bitsUp x j.pred]).length c,Value.int .i64 z_30,Value.int .i64 z_31]=[.slice q' bb.length c', .int .i64 ((8*bs.length+j:Nat):Int), .int .i64 (7-(j:Int))] /\
   Slot T_uint8 1 D' q' bb.length c' (u8s bb)/\Hp h0 F h_29 (A++(D'++B))) fun D' h' hsl' H'=>by
    refine bindI_of (((8*bs.length+(j+1):Nat):Int)) (by exact i64_at _ _ (by omega) (by omega) (by omega)) ?_
    refine bindI_of ((7-((j+1:Nat):Int))) (by exact i64_at _ _ (by omega) (by omega) (by omega)) ?_
    rw [u8s_last] at hsl'
    refine ⟨f-1,by omega,j+1,bs++[bitsUp x (j+1)],D',some ⟨b,0,none⟩,c,by omega,by rw [if_neg (by omega)],?_,?_,H'⟩
    ·rw [List.length_append,List.length_append]; rfl
    ·rw [List.length_append] at hsl' ⊢; exact hsl'
  injection hb' with hb'
  injection hb' with hb'
  subst hb'
  have e3:∀ k,(bs++[bitsUp x k]).length=bs.length+1:=fun k=>by rw [List.length_append]; rfl
  simp only [e3] at hst ⊢
  exact hst
 ·have hj:j=8:=by omega
  subst hj
  rw [if_neg (by decide)] at hbb
  have e8:bitsUp x 8=x:=by unfold bitsUp; simp
  rw [e8] at hbb
  subst hbb
  exact hk D q c h hsl H
end
end Go.Bm
namespace Go.Bm
open Go Go.Den Go.Den.YtfaclehehhgpcaaGreat
open Go.Ar (u8s u8s_length u8s_cells)
section
variable {h0 h:Heap} {F:List Nat} {A B D:List Ent} {K:VK} {Kp:PK} {q:Option Addr} {c:Nat} {bs:List Nat} {x:Nat}
set_option maxHeartbeats 2000000 in
theorem lay64_ok (hsl:Slot T_uint8 1 D q bs.length c (u8s bs)) (H:Hp h0 F h (A++(D++B))) (hx:x<256) (hl:bs.length<=1000000000)
  (hk:∀ D' q' c' h',Slot T_uint8 1 D' q' (bs++[x]).length c' (u8s (bs++[x]))->Hp h0 F h' (A++(D'++B))->K (.slice q' (bs++[x]).length c') h') :
  CP F_bits_lay_uint64 #[.slice q bs.length c, .int .i64 ((8*bs.length:Nat):Int), .int .u64 (x:Nat), .int .i64 8] h K Kp:=by
 refine call_bits_lay_uint64 ?_
 unfold bits_lay_uint64
 refine bindI_of ((7:Int)) (by exact i64_in _ (by omega) (by omega)) ?_
 refine ⟨fun f vs h'=>∃ (j:Nat) (bb:List Nat) (D':List Ent) (q':Option Addr) (c':Nat),j+f=8/\bb=(if j=0 then bs else bs++[bitsUp x j])/\vs=[.slice q' bb.length c', .int .i64 ((8*bs.length+j:Nat):Int), .int .i64 (7-(j:Int))] /\
  Slot T_uint8 1 D' q' bb.length c' (u8s bb)/\Hp h0 F h' (A++(D'++B)),⟨8,0,bs,D,q,c,rfl,rfl,rfl,hsl,H⟩,?_⟩
 clear H hsl
 rintro f h u qa na ca ta ia ⟨j,bb,D,q,c,hjf,hbb,hxx,hsl,H⟩
 injection hxx with hx1 hxx
 injection hxx with hx2 hxx
 injection hxx with hx3 hxx
 injection hx1 with hx1 hx4 hx5
 injection hx2 with _ hx2
 injection hx3 with _ hx3
 subst qa na ca ta ia
 refine bcase_dec (fun h4=>?_) fun h4=>?_
 ·have hj:j<8:=by omega
  obtain ⟨u1,u2,u3⟩:=up_step hx hj
  refine ⟨fun vs h'=>∃ (D':List Ent) (q':Option Addr) (c':Nat),vs=[.slice q' (bs++[bitsUp x j]).length c']/\Slot T_uint8 1 D' q' (bs++[bitsUp x j]).length c' (u8s (bs++[bitsUp x j]))/\Hp h0 F h' (A++(D'++B)),?_,?_⟩
  ·refine bindI_of (((j:Nat):Int)) (by exact (tmod_nat (8*bs.length+j) 8).trans (by omega)) ?_
   refine bcase_eq (fun h5=>?_) fun h5=>?_
   ·have hj0:j=0:=by omega
    rw [if_pos hj0] at hbb
    subst hbb
    refine newC_hp H fun r h H=>?_
    have H:Hp h0 F h (A++(D++(B++[⟨r,true,T_uint8,[.int .u8 0]⟩]))):=H.as (by simp only [List.append_assoc])
    refine Slot.app (m:=1) (new:=[.int .u8 0]) hsl H rfl (Hp.rdO_mem (rest:=[]) (cs:=[.int .u8 0]) H (List.mem_append_right _ (List.mem_append_right _ (List.mem_append_right _ (List.mem_singleton.2 rfl)))) rfl) rfl (fun v hv=>by rw [List.mem_singleton.1 hv]; rfl) (by decide) (by omega) fun D' q' c' h' hsl' H'=>?_
    have e0:bitsUp x j=0:=by rw [hj0]; unfold bitsUp; rw [show 8-0=8 by rfl,Nat.div_eq_of_lt (by omega),Nat.zero_mul]
    rw [e0]
    refine ⟨D',q',c',?_,?_,?_⟩
    ·rw [List.length_append]; rfl
    ·rw [List.length_append,u8s_snoc]; exact hsl'
    ·have H2:Hp h0 F h' ((A++(D'++B))++[⟨r,true,T_uint8,[.int .u8 0]⟩]):=H'.as (by simp only [List.append_assoc])
     exact Hp.pre H2
   ·rw [if_neg (by omega)] at hbb
    subst hbb
    exact ⟨D,q,c,rfl,hsl,H⟩
  clear H hsl hbb bb
  rintro h u qa na ca ⟨D,q,c,hxx,hsl,H⟩
  injection hxx with hx1 hxx
  injection hx1 with hx1 hx4 hx5
  subst qa na ca
  have hlen:(bs++[bitsUp x j]).length=bs.length+1:=by rw [List.length_append]; rfl
  have hcell:(u8s (bs++[bitsUp x j]))[bs.length]? = some (.int .u8 (bitsUp x j:Nat)):=by
   rw [u8s_snoc,List.getElem?_append_right (by rw [u8s_length]; exact Nat.le_refl _),u8s_length,Nat.sub_self]
   rfl
  obtain ⟨b,hqb,hc⟩:=Slot.cell hsl H hcell
  subst hqb
  refine bindI_of (((bs.length:Nat):Int)) (by exact i64_at _ _ (by rw [show ((8*bs.length+j:Nat):Int).tdiv 8=(((8*bs.length+j) / 8:Nat):Int) from rfl]; omega) (by omega) (by omega)) ?_
  refine needs_of (by rw [hlen]; omega) (ptr_of (a:=⟨b,0,none⟩) ?_)
  rw [show (7-(j:Int))=((7-j:Nat):Int) by omega]
  refine needs_of (by omega) ?_
  refine bindI_of (((x / 2 ^ (7-j):Nat):Int)) (by exact shr_of (by show 7-j<=64; omega)) ?_
  have hxd:x / 2 ^ (7-j)<256:=Nat.lt_of_le_of_lt (Nat.div_le_self _ _) hx
  refine bindI_of (((x / 2 ^ (7-j) % 2:Nat):Int)) (by exact (and64 _ 1 (by omega) (by decide)).trans (by rw [Nat.and_one_is_mod])) ?_
  refine bindI_of (((x / 2 ^ (7-j) % 2:Nat):Int)) (by exact wr8 _ (by omega) (by omega)) ?_
  refine bindI_of (((j:Nat):Int)) (by exact (tmod_nat (8*bs.length+j) 8).trans (by omega)) ?_
  refine bindI_of (((7-j:Nat):Int)) (by exact i64_at _ _ (by omega) (by omega) (by omega)) ?_
  refine needs_of (by omega) ?_
  refine bindI_of ((((x / 2 ^ (7-j) % 2)*2 ^ (7-j):Nat):Int)) (by exact shl_of (by show 7-j<=8; omega) (wr8 _ (by omega) (by omega))) ?_
  rw [Int.toNat_natCast,Nat.mul_one]
  refine ldI_of (x:=((bitsUp x j:Nat):Int)) (by rw [add_mk,Nat.zero_add]; exact hc) ?_
  refine bindI_of (((bitsUp x (j+1):Nat):Int)) (by exact (or8 _ _ u2 u3).trans (by rw [u1])) ?_
  refine needs_of (by rw [hlen]; omega) (ptr_of (a:=⟨b,0,none⟩) ?_)
  rw [add_mk,Nat.zero_add]
  obtain ⟨b',hb',hst⟩:=Slot.stV (i:=bs.length) (v := .int .u8 ((bitsUp x (j+1):Nat):Int)) hsl H (by omega) rfl (K:=fun h_29=>bindI (IntKind.i64.wrap (((8*bs.length+j:Nat):Int)+1)) fun z_30=>bindI (IntKind.i64.wrap (((7-j:Nat):Int)-1)) fun z_31=>∃ m_3,m_3<f/\∃ (j:Nat) (bb:List Nat) (D':List Ent) (q':Option Addr) (c':Nat),j+m_3=8/\bb=(if j=0 then bs else bs++[bitsUp x j])/\[Value.slice (some ⟨b,0,none⟩) (bs++[bitsUp x j.pred]).length c,Value.int .i64 z_30,Value.int .i64 z_31]=[.slice q' bb.length c', .int .i64 ((8*bs.length+j:Nat):Int), .int .i64 (7-(j:Int))] /\
   Slot T_uint8 1 D' q' bb.length c' (u8s bb)/\Hp h0 F h_29 (A++(D'++B))) fun D' h' hsl' H'=>by
    refine bindI_of (((8*bs.length+(j+1):Nat):Int)) (by exact i64_at _ _ (by omega) (by omega) (by omega)) ?_
    refine bindI_of ((7-((j+1:Nat):Int))) (by exact i64_at _ _ (by omega) (by omega) (by omega)) ?_
    rw [u8s_last] at hsl'
    refine ⟨f-1,by omega,j+1,bs++[bitsUp x (j+1)],D',some ⟨b,0,none⟩,c,by omega,by rw [if_neg (by omega)],?_,?_,H'⟩
    ·rw [List.length_append,List.length_append]; rfl
    ·rw [List.length_append] at hsl' ⊢; exact hsl'
  injection hb' with hb'
  injection hb' with hb'
  subst hb'
  have e3:∀ k,(bs++[bitsUp x k]).length=bs.length+1:=fun k=>by rw [List.length_append]; rfl
  simp only [e3] at hst ⊢
  exact hst
 ·have hj:j=8:=by omega
  subst hj
  rw [if_neg (by decide)] at hbb
  have e8:bitsUp x 8=x:=by unfold bitsUp; simp
  rw [e8] at hbb
  subst hbb
  exact hk D q c h hsl H
end
def wrE (w:Nat) (q:Option Addr) (c:Nat) (bs:List Nat):Ent:=⟨w,true,T_bits_Writer,[.slice q bs.length c, .int .i64 ((8*bs.length:Nat):Int), .int .i64 536870912]⟩
def WrL (w:Nat) (bs:List Nat) (L:List Ent):Prop:=∃ q c D,Slot T_uint8 1 D q bs.length c (u8s bs)/\L=wrE w q c bs::D
theorem WrL.w {w:Nat} {bs:List Nat} {L:List Ent} (h:WrL w bs L):L.all Ent.w=true:=by
 obtain ⟨q,c,D,hs,rfl⟩:=h
 rw [List.all_cons,hs.w]
 rfl
section
variable {h0 h:Heap} {F:List Nat} {L:List Ent} {K:VK} {Kp:PK} {w:Nat} {bs:List Nat} {x:Nat}
theorem newWriter_ok (hk:∀ w h',Hp h [] h' [wrE w none 0 []]->K (.tuple #[.pointer (some ⟨w,0,none⟩), .int .i64 0]) h'):CP F_bits_NewWriter #[.int .i64 67108864] h K Kp:=by
 refine call_bits_NewWriter ?_
 unfold bits_NewWriter
 refine bcase_dec (fun h1=>absurd h1 (by decide)) fun _=>?_
 refine bcase_dec (fun h1=>absurd h1 (by decide)) fun _=>?_
 refine bindI_of ((536870912:Int)) (by exact i64_at _ _ (by decide) (by decide) (by decide)) ?_
 exact newC_hp (Hp.nil h []) fun r h H=>hk r h H
set_option maxHeartbeats 2000000 in
theorem put8_ok (H:Hp h0 F h L) (hw:WrL w bs L) (hx:x<256) (hl:bs.length<=60000000) (hk:∀ L' h',WrL w (bs++[x]) L'->Hp h0 F h' L'->K (.int .i64 0) h') :
  CP F_bits_Writer_Put #[.pointer (some ⟨w,0,none⟩), .int .u64 (x:Nat), .int .i64 8] h K Kp:=by
 obtain ⟨q,c,D,hs,rfl⟩:=hw
 refine call_bits_Writer_Put ?_
 unfold bits_Writer_Put
 refine bcase_dec (fun h1=>absurd h1 (by decide)) fun _=>?_
 refine bcase_dec (fun h1=>absurd h1 (by decide)) fun _=>?_
 refine ⟨fun vs h'=>vs=[.bool false]/\h'=h,?_,?_⟩
 ·refine bcase_dec (fun _=>?_) fun h1=>absurd (by decide) h1
  refine needs_of (by decide) ?_
  refine bindI_of (((x / 2 ^ 8:Nat):Int)) (by exact shr_of (i:=8) (by decide)) ?_
  rw [Nat.div_eq_of_lt (by omega)]
  exact ⟨rfl,rfl⟩
 rintro h' u b ⟨hb,rfl⟩
 injection hb with hb _
 injection hb with hb
 subst hb
 refine bcase_false (by rfl) ?_
 refine ptr_of (a:=⟨w,0,none⟩) (ptr_of (a:=⟨w,0,none⟩) ?_)
 refine ldI_of (hpA H 0 rfl rfl) ?_
 refine bindI_of (((8*bs.length+8:Nat):Int)) (by exact i64_at _ _ (by omega) (by omega) (by omega)) ?_
 refine ldI_of (hpA H 0 rfl rfl) ?_
 refine bcase_dec (fun h1=>absurd h1 (by omega)) fun _=>?_
 refine ptr_of (a:=⟨w,0,none⟩) (ptr_of (a:=⟨w,0,none⟩) ?_)
 refine ldS_of (hpA H 0 rfl rfl) (ldI_of (hpA H 0 rfl rfl) ?_)
 have H1:Hp h0 F h' ([wrE w q c bs]++(D++[])):=H.as (by simp)
 refine lay64_ok hs H1 hx (by omega) fun D' q' c' h hs' H=>?_
 refine ⟨_,_,_,rfl,?_⟩
 refine ptr_of (a:=⟨w,0,none⟩) ?_
 refine stA H 0 rfl rfl rfl fun h H=>?_
 refine ptr_of (a:=⟨w,0,none⟩) ?_
 refine ldI_of (hpA H 0 rfl rfl) ?_
 refine bindI_of (((8*(bs++[x]).length:Nat):Int)) (by exact i64_at _ _ (by have:(bs++[x]).length=bs.length+1:=List.length_append; omega) (by omega) (by have:(bs++[x]).length=bs.length+1:=List.length_append; omega)) ?_
 refine ptr_of (a:=⟨w,0,none⟩) ?_
 refine stA H 0 rfl rfl rfl fun h H=>?_
 have H:Hp h0 F h (wrE w q' c' (bs++[x])::(D'++[])):=H
 rw [List.append_nil] at H
 exact hk _ h ⟨q',c',D',hs',rfl⟩ H
theorem pow7 (i:Nat):(2:Nat) ^ (7*i)=128 ^ i:=by rw [Nat.pow_mul]
theorem or128:((List.range 128).all fun y=>Nat.beq (y ||| 128) (y+128))=true:=by decide +kernel
set_option maxHeartbeats 4000000 in
theorem var_ok {n:Nat} (H:Hp h0 F h L) (hw:WrL w bs L) (hn:n<18446744073709551616) (hl:bs.length<=60000000) (hk:∀ L' h',WrL w (bs++grp n) L'->Hp h0 F h' L'->K (.int .i64 0) h') :
  CP F_bits_Writer_Var #[.pointer (some ⟨w,0,none⟩), .int .u64 (n:Nat)] h K Kp:=by
 refine call_bits_Writer_Var ?_
 unfold bits_Writer_Var
 have hd:∀ k,n / 128 ^ k / 128=n / 128 ^ (k+1):=fun k=>by rw [Nat.div_div_eq_div_mul,Nat.pow_succ]
 refine bindI_of (((n / 128 ^ 1:Nat):Int)) (by exact shr_of (i:=7) (by decide)) ?_
 refine ⟨fun m vs h'=>∃ k:Nat,1<=k/\m=n / 128 ^ k/\vs=[.int .i64 (k:Nat), .int .u64 ((n / 128 ^ k:Nat):Int)]/\(∀ j,j+1<k->128<=n / 128 ^ j)/\h'=h,⟨n / 128 ^ 1,1,Nat.le_refl _,rfl,rfl,fun j hj=>by omega,rfl⟩,?_⟩
 rintro m h' u xa xb ⟨k,hk1,hm,hxx,hge,rfl⟩
 injection hxx with hx1 hxx
 injection hxx with hx2 hxx
 injection hx1 with _ hx1
 injection hx2 with _ hx2
 subst xa xb
 have hk11:k<=11:=by
  refine Decidable.byContradiction fun hh=>?_
  have h1:=hge 10 (by omega)
  have h2:n / 128 ^ 10=0:=Nat.div_eq_of_lt (Nat.lt_trans hn (by decide))
  omega
 refine bcase_dec (fun h1=>?_) fun h1=>?_
 ·refine bindI_of (((k+1:Nat):Int)) (by exact i64_at _ _ (by omega) (by omega) (by omega)) ?_
  refine bindI_of (((n / 128 ^ (k+1):Nat):Int)) (by exact (shr_of (i:=7) (by decide)).trans (by rw [<- hd])) ?_
  have h1:0<n / 128 ^ k:=by omega
  refine ⟨n / 128 ^ (k+1),?_,k+1,by omega,rfl,rfl,fun j hj=>?_,rfl⟩
  ·rw [hm,<- hd]
   exact Nat.div_lt_self h1 (by decide)
  ·by_cases hjk:j+1<k
   ·exact hge j hjk
   ·have:j+1=k:=by omega
    rw [<- this,<- hd] at h1
    have:=(Nat.div_pos_iff.1 h1).2
    omega
 have hk10:n / 128 ^ k=0:=by omega
 have hlast:n / 128 ^ (k-1)<128:=by
  have e:=hd (k-1)
  rw [show k-1+1=k by omega,hk10] at e
  rcases Nat.div_eq_zero_iff.1 e with e | e
  ·cases e
  ·exact e
 have hk10':k<=10:=by
  refine Decidable.byContradiction fun hh=>?_
  have h1:=hge 9 (by omega)
  have h2:n / 128 ^ 9<128:=(Nat.div_lt_iff_lt_mul (by decide)).2 (Nat.lt_trans hn (by decide))
  omega
 have hgrp:=grpF_eq (k-1) 10 n (by omega) hlast (fun j hj=>hge j (by omega))
 have hgl:(grp n).length=k:=by
  unfold grp
  rw [hgrp,List.length_append,List.length_singleton]
  unfold preG
  rw [List.length_map,List.length_range]
  omega
 have hgi:∀ i,i<k->(grp n)[i]? = some (if i+1<k then n / 128 ^ i % 128+128 else n / 128 ^ i):=fun i hi=>by
  unfold grp
  rw [hgrp]
  have hpl:(preG (k-1) n).length=k-1:=by unfold preG; rw [List.length_map,List.length_range]
  by_cases h2:i+1<k
  ·rw [List.getElem?_append_left (by omega),if_pos h2]
   unfold preG
   rw [List.getElem?_map,List.getElem?_range (by omega)]
   rfl
  ·rw [List.getElem?_append_right (by omega),if_neg h2,hpl,show i-(k-1)=0 by omega,show k-1=i by omega]
   rfl
 obtain ⟨q,c,D,hs,rfl⟩:=hw
 refine ptr_of (a:=⟨w,0,none⟩) ?_
 refine bindI_of (((8*k:Nat):Int)) (by exact i64_at _ _ (by omega) (by omega) (by omega)) ?_
 refine ptr_of (a:=⟨w,0,none⟩) ?_
 refine ldI_of (hpA H 0 rfl rfl) ?_
 refine bindI_of (((8*bs.length+8*k:Nat):Int)) (by exact i64_at _ _ (by omega) (by omega) (by omega)) ?_
 refine ldI_of (hpA H 0 rfl rfl) ?_
 refine bcase_dec (fun h1=>absurd h1 (by omega)) fun _=>?_
 refine ⟨fun m vs h'=>∃ (i:Nat) (L':List Ent),i+m=k/\vs=[.int .i64 (i:Nat)]/\WrL w (bs++(grp n).take i) L'/\Hp h0 F h' L',⟨k,0,_,by omega,rfl,⟨q,c,D,by rw [List.take_zero,List.append_nil]; exact hs,by rw [List.take_zero,List.append_nil]⟩,H⟩,?_⟩
 clear H hs
 rintro m h u xa ⟨i,L',him,hxx,⟨q,c,D,hs,rfl⟩,H⟩
 injection hxx with hx1 hxx
 injection hx1 with _ hx1
 subst xa
 have htl:(bs++(grp n).take i).length<=bs.length+k:=by rw [List.length_append,List.length_take]; omega
 refine bcase_dec (fun h1=>?_) fun h1=>?_
 ·have hi:i<k:=by omega
  refine bindI_of (((7*i:Nat):Int)) (by exact i64_at _ _ (by omega) (by omega) (by omega)) ?_
  refine needs_of (by omega) ?_
  refine bindI_of (((n / 128 ^ i:Nat):Int)) (by exact (shr_of (by show 7*i<=64; omega)).trans (by rw [pow7])) ?_
  refine bindI_of (((n / 128 ^ i % 256:Nat):Int)) (by rw [IntKind.wrap_u8]; omega) ?_
  refine bindI_of (((n / 128 ^ i % 128:Nat):Int)) (by exact (and8 _ 127 (by omega) (by decide)).trans (by have:=Nat.and_two_pow_sub_one_eq_mod (n / 128 ^ i % 256) 7; rw [show (127:Nat)=2 ^ 7-1 from rfl,this]; omega)) ?_
  obtain ⟨y,hy⟩:∃ y,y=(if i+1<k then n / 128 ^ i % 128+128 else n / 128 ^ i):=⟨_,rfl⟩
  have hgy:=hgi i hi
  rw [<- hy] at hgy
  have hy256:y<256:=grp_lt y (List.mem_of_getElem? hgy)
  refine ⟨fun vs h2=>vs=[.int .u8 (y:Nat)]/\h2=h,?_,?_⟩
  ·refine bindI_of (((k-1:Nat):Int)) (by exact i64_at _ _ (by omega) (by omega) (by omega)) ?_
   refine bcase_dec (fun h2=>?_) fun h2=>?_
   ·rw [if_pos (by omega)] at hy
    refine bindI_of (((y:Nat):Int)) (by exact (or8 _ 128 (by omega) (by decide)).trans (by rw [hy,Nat.eq_of_beq_eq_true (List.all_eq_true.1 or128 (n / 128 ^ i % 128) (List.mem_range.2 (Nat.mod_lt _ (by decide))))])) ?_
    exact ⟨rfl,rfl⟩
   ·rw [if_neg (by omega)] at hy
    have:i=k-1:=by omega
    rw [this] at hy ⊢
    rw [Nat.mod_eq_of_lt hlast,<- hy]
    exact ⟨rfl,rfl⟩
  rintro h2 u xa ⟨hxx,rfl⟩
  injection hxx with hx1 hxx
  injection hx1 with _ hx1
  subst xa
  refine ptr_of (a:=⟨w,0,none⟩) (ptr_of (a:=⟨w,0,none⟩) ?_)
  refine ldS_of (hpA H 0 rfl rfl) (ldI_of (hpA H 0 rfl rfl) ?_)
  have H1:Hp h0 F h2 ([wrE w q c (bs++(grp n).take i)]++(D++[])):=H.as (by simp)
  refine lay8_ok hs H1 hy256 (by omega) fun D' q' c' h hs' H=>?_
  have hnx:bs++(grp n).take i++[y]=bs++(grp n).take (i+1):=by rw [List.append_assoc,<- take_snocG hgy]
  rw [hnx] at hs' ⊢
  have hln:(bs++(grp n).take (i+1)).length=(bs++(grp n).take i).length+1:=by rw [<- hnx,List.length_append]; rfl
  refine ⟨_,_,_,rfl,?_⟩
  refine ptr_of (a:=⟨w,0,none⟩) ?_
  refine stA H 0 rfl rfl rfl fun h H=>?_
  refine ptr_of (a:=⟨w,0,none⟩) ?_
  refine ldI_of (hpA H 0 rfl rfl) ?_
  refine bindI_of (((8*(bs++(grp n).take (i+1)).length:Nat):Int)) (by exact i64_at _ _ (by rw [hln] <;> omega) (by omega) (by rw [hln] <;> omega)) ?_
  refine ptr_of (a:=⟨w,0,none⟩) ?_
  refine stA H 0 rfl rfl rfl fun h H=>?_
  have H:Hp h0 F h (wrE w q' c' (bs++(grp n).take (i+1))::(D'++[])):=H
  rw [List.append_nil] at H
  refine bindI_of (((i+1:Nat):Int)) (by exact i64_at _ _ (by omega) (by omega) (by omega)) ?_
  exact ⟨m-1,by omega,i+1,_,by omega,rfl,⟨q',c',D',hs',rfl⟩,H⟩
 ·rw [List.take_of_length_le (by omega)] at hs H
  exact hk _ h ⟨q,c,D,hs,rfl⟩ H
theorem bytes_ok (H:Hp h0 F h L) (hw:WrL w bs L) (hl:bs.length<=100000000) (hk:∀ D qo co h',Slot T_uint8 1 D qo bs.length co (u8s bs)->Hp h0 F h' (L++D)->K (.slice qo bs.length co) h') :
  CP F_bits_Writer_Bytes #[.pointer (some ⟨w,0,none⟩)] h K Kp:=by
 obtain ⟨q,c,D,hs,rfl⟩:=hw
 refine call_bits_Writer_Bytes ?_
 unfold bits_Writer_Bytes
 refine ptr_of (a:=⟨w,0,none⟩) ?_
 refine ldS_of (hpA H 0 rfl rfl) ?_
 have hr:rdO h q (bs.length*1) (u8s bs):=Slot.rdO' hs H fun e he=>List.mem_cons_of_mem _ he
 rcases Nat.eq_zero_or_pos bs.length with h1 | h1
 ·have hb0:bs=[]:=List.length_eq_zero_iff.1 h1
  subst hb0
  refine ⟨u8s [],hr,?_⟩
  rw [if_pos (by simp)]
  exact hk [] none 0 h (Slot.nil _ _) (by rw [List.append_nil]; exact H)
 ·refine Slot.app (A:=wrE w q c bs::D) (B:=[]) (D:=[]) (n:=0) (m:=bs.length) (new:=u8s bs) (Slot.nil T_uint8 1) (by simpa using H) rfl hr (by rw [u8s_length,Nat.mul_one]) (u8s_cells bs) h1 (by omega) fun D' q' c' h' hs' H'=>?_
  rw [Nat.zero_add] at hs' ⊢
  exact hk D' q' c' h' (by simpa using hs') (by simpa using H')
end
end Go.Bm
namespace Go.Den
section
variable {P:Program}
theorem dcalls_of_plain {f:FuncId} {fn:Func} {args:List Value} {u:FrameMode} {h:Heap} {Kd:FrameMode->Heap->Prop} {Kdp:FrameMode->PK} (Hn:Hints) (hm:P.follows .mixedOrders=true)
  (hf:P.funcs[f]? = some fn) (hn:(fn.name == "runtime.NumGoroutine")=false) (H:fnD P (CallsHP P) Hn fn args h (fun _ h'=>Kd u h') fun c h'=>Kdp u c h'):DCalls P f args.toArray u h Kd Kdp:=by
 unfold fnD at H
 split at H
 ·rename_i c hb
  refine ⟨⟨fn,hf,hn,by rw [hb]; rfl⟩,fun w hw=>?_⟩
  subst hw
  have hact:(⟨args.toArray++Array.replicate (fn.ntmps-args.toArray.size) undef,[]⟩:Act)=⟨(args++List.replicate (fn.ntmps-args.length) undef).toArray,[]⟩:=by
   congr 1
   apply Array.toList_inj.1
   simp
  refine (callsD_of_wp (R:=fun e w'=>keeps w w'/\match e with
   | .returned _=>Kd u w'.heap
   | .panicked c=>Kdp u c w'.heap
   | .outgrown=>False) hf hb ?_).mono fun e u' w' he=>?_
  ·rw [hact]
   refine wp_mono (den_sound (callsHP_ok P) hm w c _ _ w (keeps.refl w) (fnQ_panic _ _ _ _) H) fun e a w' he=>?_
   cases e with
   | normal =>
    obtain ⟨h1,_,h3⟩:=he
    simp only [fnQ] at h3
    split at h3
    ·rename_i hd
     obtain ⟨v,hr,hk⟩:=results_run (K:=fun _ h'=>Kd u h') h3
     exact ⟨hd,v,hr,h1,hk⟩
    ·exact h3.elim
   | ret =>
    obtain ⟨h1,_,h3⟩:=he
    simp only [fnQ] at h3
    split at h3
    ·rename_i hd
     obtain ⟨v,hr,hk⟩:=results_run (K:=fun _ h'=>Kd u h') h3
     exact ⟨hd,v,hr,h1,hk⟩
    ·exact h3.elim
   | panic c =>
    obtain ⟨h1,h3⟩:=he
    simp only [fnQ] at h3
    split at h3
    ·rename_i hd
     exact ⟨hd,h1,h3⟩
    ·exact h3.elim
   | outgrown=>exact he.elim
   | exit id=>exact he.2.2.elim
   | goto l=>exact he.2.2.elim
  ·obtain ⟨rfl,h1,h2⟩:=he
   refine ⟨h1,?_⟩
   cases e with
   | returned v=>exact h2
   | panicked c=>exact h2
   | outgrown=>exact h2
 ·exact H.elim
end
end Go.Den
namespace Go.Bm
open Go Go.Den Go.Den.YtfaclehehhgpcaaGreat
open Go.Ar (u8s)
def varF (b:List Nat) (i:Nat):Nat->Nat->Nat->Int × Nat × Nat
 | 0,_,_=>(16,0,i)
 | f+1,j,n=>match b[i+j]? with
  | none=>(14,0,i)
  | some c=>if j=9/\1<c\/0<j/\c=0 then (16,0,i) else if c<128 then (0,n+c % 128*128 ^ j,i+j+1) else varF b i f (j+1) (n+c % 128*128 ^ j)
def varP (b:List Nat) (i:Nat):Int × Nat × Nat:=varF b i 10 0 0
theorem varF_le {b:List Nat} {i:Nat} (hi:i<=b.length):∀ (f j n:Nat),(varF b i f j n).2.2<=b.length/\i<=(varF b i f j n).2.2
 | 0,j,n=>⟨hi,Nat.le_refl _⟩
 | f+1,j,n=>by
  unfold varF
  cases hc:b[i+j]? with
  | none=>exact ⟨hi,Nat.le_refl _⟩
  | some c =>
   have hl:=(List.getElem?_eq_some_iff.1 hc).1
   dsimp only
   split
   ·exact ⟨hi,Nat.le_refl _⟩
   ·split
    ·exact ⟨hl,by show i<=i+j+1; omega⟩
    ·exact varF_le hi f _ _
theorem varP_le {b:List Nat} {i:Nat} (hi:i<=b.length):(varP b i).2.2<=b.length:=(varF_le hi 10 0 0).1
def dnOk:Bool:=(List.range 256).all fun x=>(List.range 8).all fun j=>Nat.beq (x / 2 ^ (8-j)*2 ||| x / 2 ^ (7-j) % 2) (x / 2 ^ (8-(j+1))) && Nat.beq (x / 2 ^ (8-j)*2+x / 2 ^ (7-j) % 2) (x / 2 ^ (8-(j+1)))
theorem dnOk_t:dnOk=true:=by kernel_rfl
theorem dn_step {x j:Nat} (hx:x<256) (hj:j<8):(x / 2 ^ (8-j)*2 ||| x / 2 ^ (7-j) % 2)=x / 2 ^ (8-(j+1))/\x / 2 ^ (8-j)*2+x / 2 ^ (7-j) % 2=x / 2 ^ (8-(j+1))/\x / 2 ^ (8-j)*2<256:=by
 have h:=List.all_eq_true.1 (List.all_eq_true.1 dnOk_t x (List.mem_range.2 hx)) j (List.mem_range.2 hj)
 simp only [Bool.and_eq_true] at h
 have e:=Nat.eq_of_beq_eq_true h.2
 have h3:x / 2 ^ (8-(j+1))<256:=Nat.lt_of_le_of_lt (Nat.div_le_self _ _) hx
 exact ⟨Nat.eq_of_beq_eq_true h.1,e,by omega⟩
section
variable {h0 h:Heap} {F:List Nat} {K:VK} {Kp:PK} {q:Option Addr} {c i x:Nat} {b:List Nat}
theorem told8_ok (hr:rdO h q (b.length*1) (u8s b)) (hb:b[i]? = some x) (hx:x<256) (hl:b.length<=140737488351299) (hk:K (.int .u8 (x:Nat)) h) :
  CP F_bits_told_uint8 #[.slice q b.length c, .int .i64 ((8*i:Nat):Int), .int .i64 8] h K Kp:=by
 refine call_bits_told_uint8 ?_
 unfold bits_told_uint8
 have hil:=(List.getElem?_eq_some_iff.1 hb).1
 obtain ⟨a,rfl,hc⟩:=rdO_cell hr (i:=i) (v := .int .u8 (x:Nat)) (by unfold u8s; rw [List.getElem?_map,hb]; rfl)
 refine ⟨fun f vs h'=>∃ j:Nat,j+f=8/\vs=[.int .u8 ((x / 2 ^ (8-j):Nat):Int), .int .i64 (j:Nat)]/\h'=h,⟨8,0,rfl,by rw [Nat.sub_zero,Nat.div_eq_of_lt (show x<2 ^ 8 by omega)]; rfl,rfl⟩,?_⟩
 rintro f h' u xa xb ⟨j,hjf,hxx,rfl⟩
 injection hxx with hx1 hxx
 injection hxx with hx2 hxx
 injection hx1 with _ hx1
 injection hx2 with _ hx2
 subst xa xb
 refine bcase_dec (fun h1=>?_) fun h1=>?_
 ·have hj:j<8:=by omega
  obtain ⟨d1,d2,d3⟩:=dn_step hx hj
  have hb2:x / 2 ^ (7-j) % 2<256:=by omega
  have hxd:x / 2 ^ (7-j)<256:=Nat.lt_of_le_of_lt (Nat.div_le_self _ _) hx
  refine bindI_of (((x / 2 ^ (8-j)*2:Nat):Int)) (by exact shl_of (i:=1) (by decide) (by rw [Nat.pow_one]; exact wr8 _ (by omega) (by omega))) ?_
  refine bindI_of (((8*i+j:Nat):Int)) (by exact i64_at _ _ (by omega) (by omega) (by omega)) ?_
  refine bindI_of (((i:Nat):Int)) (by exact i64_at _ _ (by rw [show ((8*i+j:Nat):Int).tdiv 8=(((8*i+j) / 8:Nat):Int) from rfl]; omega) (by omega) (by omega)) ?_
  refine needs_of (by omega) (ptr_of (a:=a) ?_)
  rw [Int.toNat_natCast,Nat.mul_one]
  refine ldI_of hc ?_
  refine bindI_of (((8*i+j:Nat):Int)) (by exact i64_at _ _ (by omega) (by omega) (by omega)) ?_
  refine bindI_of (((j:Nat):Int)) (by exact (tmod_nat (8*i+j) 8).trans (by omega)) ?_
  refine bindI_of (((7-j:Nat):Int)) (by exact i64_at _ _ (by omega) (by omega) (by omega)) ?_
  refine needs_of (by omega) ?_
  refine bindI_of (((x / 2 ^ (7-j):Nat):Int)) (by exact shr_of (by show 7-j<=8; omega)) ?_
  refine bindI_of (((x / 2 ^ (7-j) % 2:Nat):Int)) (by exact (and8 _ 1 hxd (by decide)).trans (by rw [Nat.and_one_is_mod])) ?_
  refine bindI_of (((x / 2 ^ (8-(j+1)):Nat):Int)) (by exact (or8 _ _ d3 hb2).trans (by rw [d1])) ?_
  refine bindI_of (((j+1:Nat):Int)) (by exact i64_at _ _ (by omega) (by omega) (by omega)) ?_
  exact ⟨f-1,by omega,j+1,by omega,rfl,rfl⟩
 ·have hj:j=8:=by omega
  subst hj
  rw [Nat.sub_self,Nat.pow_zero,Nat.div_one]
  exact hk
theorem told64_ok (hr:rdO h q (b.length*1) (u8s b)) (hb:b[i]? = some x) (hx:x<256) (hl:b.length<=140737488351299) (hk:K (.int .u64 (x:Nat)) h) :
  CP F_bits_told_uint64 #[.slice q b.length c, .int .i64 ((8*i:Nat):Int), .int .i64 8] h K Kp:=by
 refine call_bits_told_uint64 ?_
 unfold bits_told_uint64
 have hil:=(List.getElem?_eq_some_iff.1 hb).1
 obtain ⟨a,rfl,hc⟩:=rdO_cell hr (i:=i) (v := .int .u8 (x:Nat)) (by unfold u8s; rw [List.getElem?_map,hb]; rfl)
 refine ⟨fun f vs h'=>∃ j:Nat,j+f=8/\vs=[.int .u64 ((x / 2 ^ (8-j):Nat):Int), .int .i64 (j:Nat)]/\h'=h,⟨8,0,rfl,by rw [Nat.sub_zero,Nat.div_eq_of_lt (show x<2 ^ 8 by omega)]; rfl,rfl⟩,?_⟩
 rintro f h' u xa xb ⟨j,hjf,hxx,rfl⟩
 injection hxx with hx1 hxx
 injection hxx with hx2 hxx
 injection hx1 with _ hx1
 injection hx2 with _ hx2
 subst xa xb
 refine bcase_dec (fun h1=>?_) fun h1=>?_
 ·have hj:j<8:=by omega
  obtain ⟨d1,d2,d3⟩:=dn_step hx hj
  have hb2:x / 2 ^ (7-j) % 2<256:=by omega
  have hxd:x / 2 ^ (7-j)<256:=Nat.lt_of_le_of_lt (Nat.div_le_self _ _) hx
  refine bindI_of (((x / 2 ^ (8-j)*2:Nat):Int)) (by exact shl_of (i:=1) (by decide) (by rw [Nat.pow_one]; exact u64_in _ (by omega) (by omega))) ?_
  refine bindI_of (((8*i+j:Nat):Int)) (by exact i64_at _ _ (by omega) (by omega) (by omega)) ?_
  refine bindI_of (((i:Nat):Int)) (by exact i64_at _ _ (by rw [show ((8*i+j:Nat):Int).tdiv 8=(((8*i+j) / 8:Nat):Int) from rfl]; omega) (by omega) (by omega)) ?_
  refine needs_of (by omega) (ptr_of (a:=a) ?_)
  rw [Int.toNat_natCast,Nat.mul_one]
  refine ldI_of hc ?_
  refine bindI_of (((8*i+j:Nat):Int)) (by exact i64_at _ _ (by omega) (by omega) (by omega)) ?_
  refine bindI_of (((j:Nat):Int)) (by exact (tmod_nat (8*i+j) 8).trans (by omega)) ?_
  refine bindI_of (((7-j:Nat):Int)) (by exact i64_at _ _ (by omega) (by omega) (by omega)) ?_
  refine needs_of (by omega) ?_
  refine bindI_of (((x / 2 ^ (7-j):Nat):Int)) (by exact shr_of (by show 7-j<=8; omega)) ?_
  refine bindI_of (((x / 2 ^ (7-j) % 2:Nat):Int)) (by exact (and8 _ 1 hxd (by decide)).trans (by rw [Nat.and_one_is_mod])) ?_
  refine bindI_of (((x / 2 ^ (7-j) % 2:Nat):Int)) (by exact u64_in _ (by omega) (by omega)) ?_
  refine bindI_of (((x / 2 ^ (8-(j+1)):Nat):Int)) (by exact (or64 _ _ (by omega) (by omega)).trans (by rw [d1])) ?_
  refine bindI_of (((j+1:Nat):Int)) (by exact i64_at _ _ (by omega) (by omega) (by omega)) ?_
  exact ⟨f-1,by omega,j+1,by omega,rfl,rfl⟩
 ·have hj:j=8:=by omega
  subst hj
  rw [Nat.sub_self,Nat.pow_zero,Nat.div_one]
  exact hk
def rdE (r:Nat) (q:Option Addr) (n c i:Nat):Ent:=⟨r,true,T_bits_Reader,[.slice q n c, .int .i64 ((8*i:Nat):Int)]⟩
structure RdB (b:List Nat):Prop where
 b8:∀ x∈b,x<256
 bl:b.length<=140737488351299
variable {r:Nat} {D L:List Ent}
theorem rleft_ok (H:Hp h0 F h (rdE r q b.length c i::D)) (hb:RdB b) (hi:i<=b.length) (hk:K (.int .i64 ((8*(b.length-i):Nat):Int)) h):CP F_bits_Reader_Left #[.pointer (some ⟨r,0,none⟩)] h K Kp:=by
 refine call_bits_Reader_Left ?_
 unfold bits_Reader_Left
 have hbl:=hb.bl
 refine ptr_of (a:=⟨r,0,none⟩) (ptr_of (a:=⟨r,0,none⟩) ?_)
 refine ldS_of (hpA H 0 rfl rfl) ?_
 refine bindI_of (((8*b.length:Nat):Int)) (by exact i64_at _ _ (by omega) (by omega) (by omega)) ?_
 refine ldI_of (hpA H 0 rfl rfl) ?_
 refine bindI_of (((8*(b.length-i):Nat):Int)) (by exact i64_at _ _ (by omega) (by omega) (by omega)) ?_
 exact hk
theorem rtake8_ok (H:Hp h0 F h (rdE r q b.length c i::D)) (hs:Slot T_uint8 1 D q b.length c (u8s b)) (hb:RdB b) (hi:i<=b.length)
  (hk0:b[i]? = none->K (.tuple #[.int .u64 0, .int .i64 14]) h) (hk1:∀ x h',b[i]? = some x->Hp h0 F h' (rdE r q b.length c (i+1)::D)->K (.tuple #[.int .u64 (x:Nat), .int .i64 0]) h') :
  CP F_bits_Reader_Take #[.pointer (some ⟨r,0,none⟩), .int .i64 8] h K Kp:=by
 refine call_bits_Reader_Take ?_
 unfold bits_Reader_Take
 have hbl:=hb.bl
 refine bcase_dec (fun h1=>absurd h1 (by decide)) fun _=>?_
 refine bcase_dec (fun h1=>absurd h1 (by decide)) fun _=>?_
 refine rleft_ok H hb hi ?_
 refine ⟨_,rfl,?_⟩
 refine bcase_dec (fun h1=>hk0 (List.getElem?_eq_none (by omega))) fun h1=>?_
 obtain ⟨x,hx⟩:∃ x,b[i]? = some x:=⟨_,List.getElem?_eq_getElem (by omega)⟩
 refine ptr_of (a:=⟨r,0,none⟩) ?_
 refine ldI_of (hpA H 0 rfl rfl) ?_
 refine bindI_of (((8*(i+1):Nat):Int)) (by exact i64_at _ _ (by omega) (by omega) (by omega)) ?_
 refine ptr_of (a:=⟨r,0,none⟩) ?_
 refine stA H 0 rfl rfl rfl fun h H=>?_
 have H:Hp h0 F h (rdE r q b.length c (i+1)::D):=H
 refine ptr_of (a:=⟨r,0,none⟩) (ptr_of (a:=⟨r,0,none⟩) ?_)
 refine ldS_of (hpA H 0 rfl rfl) (ldI_of (hpA H 0 rfl rfl) ?_)
 refine bindI_of (((8*i:Nat):Int)) (by exact i64_at _ _ (by omega) (by omega) (by omega)) ?_
 refine told64_ok (Slot.rdO' hs H fun e he=>List.mem_cons_of_mem _ he) hx (hb.b8 x (List.mem_of_getElem? hx)) hb.bl ?_
 refine ⟨_,rfl,?_⟩
 exact hk1 x h hx H
theorem rgroup_ok (H:Hp h0 F h (rdE r q b.length c i::D)) (hs:Slot T_uint8 1 D q b.length c (u8s b)) (hb:RdB b) (hi:i<=b.length)
  (hk0:b[i]? = none->K (.tuple #[.int .u8 0, .bool false]) h) (hk1:∀ x h',b[i]? = some x->Hp h0 F h' (rdE r q b.length c (i+1)::D)->K (.tuple #[.int .u8 (x:Nat), .bool true]) h') :
  CP F_bits_Reader_group #[.pointer (some ⟨r,0,none⟩)] h K Kp:=by
 refine call_bits_Reader_group ?_
 unfold bits_Reader_group
 have hbl:=hb.bl
 refine rleft_ok H hb hi ?_
 refine ⟨_,rfl,?_⟩
 refine bcase_dec (fun h1=>hk0 (List.getElem?_eq_none (by omega))) fun h1=>?_
 obtain ⟨x,hx⟩:∃ x,b[i]? = some x:=⟨_,List.getElem?_eq_getElem (by omega)⟩
 refine ptr_of (a:=⟨r,0,none⟩) ?_
 refine ldI_of (hpA H 0 rfl rfl) ?_
 refine bindI_of (((8*(i+1):Nat):Int)) (by exact i64_at _ _ (by omega) (by omega) (by omega)) ?_
 refine ptr_of (a:=⟨r,0,none⟩) ?_
 refine stA H 0 rfl rfl rfl fun h H=>?_
 have H:Hp h0 F h (rdE r q b.length c (i+1)::D):=H
 refine ptr_of (a:=⟨r,0,none⟩) (ptr_of (a:=⟨r,0,none⟩) ?_)
 refine ldS_of (hpA H 0 rfl rfl) (ldI_of (hpA H 0 rfl rfl) ?_)
 refine bindI_of (((8*i:Nat):Int)) (by exact i64_at _ _ (by omega) (by omega) (by omega)) ?_
 refine told8_ok (Slot.rdO' hs H fun e he=>List.mem_cons_of_mem _ he) hx (hb.b8 x (List.mem_of_getElem? hx)) hb.bl ?_
 refine ⟨_,rfl,?_⟩
 exact hk1 x h hx H
end
theorem deferVar {cap0 cap1 cap2 cap3:Addr} {u:FrameMode} {h:Heap} {Kd:FrameMode->Heap->Prop} {Kdp:FrameMode->PK} (H:bits_Reader_Var_c1 (CallsHP Go.Proofs.Tryz.prog) cap0 cap1 cap2 cap3 h (fun _ h'=>Kd u h') fun c h'=>Kdp u c h') :
  DCalls Go.Proofs.Tryz.prog F_bits_Reader_Var_c1 #[.pointer (some cap0), .pointer (some cap1), .pointer (some cap2), .pointer (some cap3)] u h Kd Kdp :=
 dcalls_of_plain hints_bits_Reader_Var_c1 (by kernel_rfl) Go.Proofs.Tryz.func160 (by kernel_rfl) (by rw [eq_bits_Reader_Var_c1]; exact H)
section
variable {h0 h:Heap} {F:List Nat} {K:VK} {Kp:PK} {q:Option Addr} {c i x:Nat} {b:List Nat} {r:Nat} {D:List Ent}
set_option maxHeartbeats 4000000 in
theorem rvar_ok (H:Hp h0 F h (rdE r q b.length c i::D)) (hs:Slot T_uint8 1 D q b.length c (u8s b)) (hb:RdB b) (hi:i<=b.length)
  (hk:∀ h',Hp h0 F h' (rdE r q b.length c (varP b i).2.2::D)->K (.tuple #[.int .u64 ((varP b i).2.1:Nat), .int .i64 (varP b i).1]) h') :
  CP F_bits_Reader_Var #[.pointer (some ⟨r,0,none⟩)] h K Kp:=by
 refine call_bits_Reader_Var ?_
 unfold bits_Reader_Var
 have hbl:=hb.bl
 refine newC_hp H fun r1 h H=>?_
 refine newC_hp H fun r3 h H=>?_
 refine newC_hp H fun r5 h H=>?_
 have H:Hp h0 F h ((rdE r q b.length c i::D)++[⟨r1,true,T_p_bits_Reader,[.pointer (some ⟨r,0,none⟩)]⟩,⟨r3,true,T_uint64,[.int .u64 0]⟩,⟨r5,true,T_api_Errno,[.int .i64 0]⟩]):=H.as (by simp only [List.append_assoc,List.cons_append,List.nil_append])
 have H:=H.rot
 refine ldP_of (H.cell 0 rfl rfl) (ptr_of (a:=⟨r,0,none⟩) ?_)
 refine ldI_of (hpA H 3 rfl rfl) ?_
 refine newC_hp H fun r10 h H=>?_
 have H:=H.rot
 refine st0 H 0 rfl rfl rfl fun h H=>?_
 have H:Hp h0 F h ([⟨r10,true,T_int,[.int .i64 ((8*i:Nat):Int)]⟩,⟨r1,true,T_p_bits_Reader,[.pointer (some ⟨r,0,none⟩)]⟩,⟨r3,true,T_uint64,[.int .u64 ((0:Nat):Int)]⟩,⟨r5,true,T_api_Errno,[.int .i64 0]⟩]++(rdE r q b.length c (i+0)::D)):=H
 have done:∀ {e:Int} {n p:Nat} {h:Heap},(e=0\/e≠0/\n=0/\p=i)->∀ {p' n':Nat},(e=0->p'=p/\n'=n)->(∀ h',Hp h0 F h' (rdE r q b.length c p::D)->K (.tuple #[.int .u64 (n:Nat), .int .i64 e]) h') ->
   Hp h0 F h ([⟨r10,true,T_int,[.int .i64 ((8*i:Nat):Int)]⟩,⟨r1,true,T_p_bits_Reader,[.pointer (some ⟨r,0,none⟩)]⟩,⟨r3,true,T_uint64,[.int .u64 (n':Nat)]⟩,⟨r5,true,T_api_Errno,[.int .i64 e]⟩]++(rdE r q b.length c p'::D)) ->
   leaveD (DCalls Go.Proofs.Tryz.prog) (fun h_29=>ldI h_29 (⟨r3,0,none⟩:Addr) .u64 fun r_30=>ldI h_29 (⟨r5,0,none⟩:Addr) .i64 fun r_31=>K (.tuple #[.int .u64 r_30, .int .i64 r_31]) h_29) Kp [{ target := .fn (.func F_bits_Reader_Var_c1) #[.pointer (some ⟨r5,0,none⟩), .pointer (some ⟨r10,0,none⟩), .pointer (some ⟨r3,0,none⟩), .pointer (some ⟨r1,0,none⟩)],args:=#[] }] .returning h:=by
  intro e n p h he p' n' hp hk H
  show DCalls Go.Proofs.Tryz.prog F_bits_Reader_Var_c1 #[.pointer (some ⟨r5,0,none⟩), .pointer (some ⟨r10,0,none⟩), .pointer (some ⟨r3,0,none⟩), .pointer (some ⟨r1,0,none⟩)] .returning h _ _
  refine deferVar ?_
  unfold bits_Reader_Var_c1
  refine ldI_of (H.cell 3 rfl rfl) ?_
  rcases he with he | ⟨he,hn,hpi⟩
  ·refine bcase_ne (fun h1=>absurd he h1) fun _=>?_
   obtain ⟨rfl,rfl⟩:=hp he
   show ldI h ⟨r3,0,none⟩ .u64 _
   refine ldI_of (H.cell 2 rfl rfl) (ldI_of (H.cell 3 rfl rfl) ?_)
   exact hk h (Hp.suf H)
  ·refine bcase_ne (fun _=>?_) fun h1=>absurd h1 he
   refine ldP_of (H.cell 1 rfl rfl) (ldI_of (H.cell 0 rfl rfl) ?_)
   refine st0 H 2 rfl rfl rfl fun h H=>?_
   refine ptr_of (a:=⟨r,0,none⟩) ?_
   refine stA H 4 rfl rfl rfl fun h H=>?_
   have H:Hp h0 F h ([⟨r10,true,T_int,[.int .i64 ((8*i:Nat):Int)]⟩,⟨r1,true,T_p_bits_Reader,[.pointer (some ⟨r,0,none⟩)]⟩,⟨r3,true,T_uint64,[.int .u64 0]⟩,⟨r5,true,T_api_Errno,[.int .i64 e]⟩]++(rdE r q b.length c i::D)):=H
   show ldI h ⟨r3,0,none⟩ .u64 _
   refine ldI_of (H.cell 2 rfl rfl) (ldI_of (H.cell 3 rfl rfl) ?_)
   rw [hn,hpi] at hk
   exact hk h (Hp.suf H)
 refine ⟨fun f vs h'=>∃ (j n:Nat),1<=f/\j+f=10/\n<128 ^ j/\varF b i f j n=varP b i/\i+j<=b.length/\vs=[.int .i64 ((7*j:Nat):Int)] /\
  Hp h0 F h' ([⟨r10,true,T_int,[.int .i64 ((8*i:Nat):Int)]⟩,⟨r1,true,T_p_bits_Reader,[.pointer (some ⟨r,0,none⟩)]⟩,⟨r3,true,T_uint64,[.int .u64 (n:Nat)]⟩,⟨r5,true,T_api_Errno,[.int .i64 0]⟩]++(rdE r q b.length c (i+j)::D)),⟨10,0,0,by omega,rfl,by decide,rfl,hi,rfl,H⟩,?_⟩
 clear H
 rintro f h u xa ⟨j,n,hf1,hjf,hn,hv,hij,hxx,H⟩
 obtain ⟨f,rfl⟩:∃ g,f=g+1:=⟨f-1,by omega⟩
 injection hxx with hx1 hxx
 injection hx1 with _ hx1
 subst xa
 refine ldP_of (H.cell 1 rfl rfl) ?_
 have hsw:∀ p,(rdE r q b.length c p::D).all Ent.w=true:=fun p=>by rw [List.all_cons,hs.w]; rfl
 refine rgroup_ok (Hp.giveS H) hs hb hij (fun hnone=>?_) fun y h hy H'=>?_
 ·refine ⟨_,_,rfl,?_⟩
  refine ⟨fun _ _=>False,?_,fun _ _ hh=>hh.elim⟩
  refine bcase_true (by rfl) ?_
  refine st0 H 2 rfl rfl rfl fun h H=>?_
  refine st0 H 3 rfl rfl rfl fun h H=>?_
  have hvp:varP b i=(14,0,i):=by
   rw [<- hv]
   unfold varF
   rw [hnone]
  rw [hvp] at hk
  exact done (e:=14) (n:=0) (p:=i) (n':=0) (p':=i+j) (.inr ⟨by decide,rfl,rfl⟩) (fun hh=>absurd hh (by decide)) hk H
 ·have H:=Hp.putS H (hsw _) H' (hsw _)
  clear H'
  have hy8:=hb.b8 y (List.mem_of_getElem? hy)
  have hyl:=(List.getElem?_eq_some_iff.1 hy).1
  refine ⟨_,_,rfl,?_⟩
  have err:(j=9/\1<y\/0<j/\y=0)->stV h (⟨r3,0,none⟩:Addr) (.int .u64 0) fun h_32=>stV h_32 (⟨r5,0,none⟩:Addr) (.int .i64 16) fun h_33 =>
    leaveD (DCalls Go.Proofs.Tryz.prog) (fun h_29=>ldI h_29 (⟨r3,0,none⟩:Addr) .u64 fun r_30=>ldI h_29 (⟨r5,0,none⟩:Addr) .i64 fun r_31=>K (.tuple #[.int .u64 r_30, .int .i64 r_31]) h_29) Kp [{ target := .fn (.func F_bits_Reader_Var_c1) #[.pointer (some ⟨r5,0,none⟩), .pointer (some ⟨r10,0,none⟩), .pointer (some ⟨r3,0,none⟩), .pointer (some ⟨r1,0,none⟩)],args:=#[] }] .returning h_33:=fun hc=>by
   refine st0 H 2 rfl rfl rfl fun h H=>?_
   refine st0 H 3 rfl rfl rfl fun h H=>?_
   have hvp:varP b i=(16,0,i):=by
    rw [<- hv]
    unfold varF
    rw [hy]
    dsimp only
    rw [if_pos hc]
   rw [hvp] at hk
   exact done (e:=16) (n:=0) (p:=i) (n':=0) (p':=i+j+1) (.inr ⟨by decide,rfl,rfl⟩) (fun hh=>absurd hh (by decide)) hk H
  refine ⟨fun _ h'=>h'=h/\¬ (j=9/\1<y\/0<j/\y=0),?_,?_⟩
  ·refine bcase_false (by rfl) ?_
   refine bcase_eq (fun h9=>?_) fun h9=>?_
   ·refine bcase_dec (fun h10=>?_) fun h10=>?_
    ·refine bcase_dec (fun _=>err (.inl ⟨by omega,by omega⟩)) fun h11=>absurd h10 h11
    ·refine bcase_dec (fun h11=>?_) fun h11=>⟨rfl,by omega⟩
     refine bcase_eq (fun h12=>err (.inr ⟨by omega,by omega⟩)) fun h12=>⟨rfl,by omega⟩
   ·refine bcase_dec (fun h11=>?_) fun h11=>⟨rfl,by omega⟩
    refine bcase_eq (fun h12=>err (.inr ⟨by omega,by omega⟩)) fun h12=>⟨rfl,by omega⟩
  rintro h' u ⟨rfl,hnc⟩
  have hz:y % 128*128 ^ j<18446744073709551616:=by
   by_cases hj:j=9
   ·have h1:y % 128<=1:=by omega
    have h2:y % 128*128 ^ j<=1*128 ^ j:=Nat.mul_le_mul_right _ h1
    rw [hj] at h2 ⊢
    have e9:(128:Nat) ^ 9=9223372036854775808:=by decide
    omega
   ·have h1:y % 128*128 ^ j<=127*128 ^ j:=Nat.mul_le_mul_right _ (by omega)
    have h2:128 ^ j<=128 ^ 8:=Nat.pow_le_pow_right (by decide) (by omega)
    have e8:(128:Nat) ^ 8=72057594037927936:=by decide
    omega
  have hm127:y % 128*128 ^ j<=127*128 ^ j:=Nat.mul_le_mul_right _ (by omega)
  have hp1:128 ^ (j+1)=128*128 ^ j:=by rw [Nat.pow_succ,Nat.mul_comm]
  refine bindI_of (((y % 128:Nat):Int)) (by exact (and8 _ 127 hy8 (by decide)).trans (by have:=Nat.and_two_pow_sub_one_eq_mod y 7; rw [show (127:Nat)=2 ^ 7-1 from rfl,this])) ?_
  refine bindI_of (((y % 128:Nat):Int)) (by exact u64_in _ (by omega) (by omega)) ?_
  refine needs_of (by omega) ?_
  refine bindI_of (((y % 128*128 ^ j:Nat):Int)) (by exact shl_of (by show 7*j<=64; omega) (by rw [pow7]; exact u64_in _ (by omega) (by omega))) ?_
  refine ldI_of (H.cell 2 rfl rfl) ?_
  have hn64:n<18446744073709551616:=by
   have h2:128 ^ j<=128 ^ 9:=Nat.pow_le_pow_right (by decide) (by omega)
   have e9:(128:Nat) ^ 9=9223372036854775808:=by decide
   omega
  have hor:n ||| y % 128*128 ^ j=n+y % 128*128 ^ j:=by
   have:=Nat.shiftLeft_add_eq_or_of_lt (b:=n) (i:=7*j) (by rw [pow7]; exact hn) (y % 128)
   rw [Nat.shiftLeft_eq,pow7] at this
   rw [Nat.or_comm,<- this,Nat.add_comm]
  refine bindI_of (((n+y % 128*128 ^ j:Nat):Int)) (by exact (or64 _ _ hn64 hz).trans (by rw [hor])) ?_
  refine st0 H 2 rfl rfl rfl fun h H=>?_
  refine bcase_dec (fun h13=>?_) fun h13=>?_
  ·refine ldI_of (H.cell 2 rfl rfl) ?_
   refine st0 H 2 rfl rfl rfl fun h H=>?_
   refine st0 H 3 rfl rfl rfl fun h H=>?_
   have hvp:varP b i=(0,n+y % 128*128 ^ j,i+j+1):=by
    rw [<- hv]
    unfold varF
    rw [hy]
    dsimp only
    rw [if_neg hnc,if_pos (by omega)]
   rw [hvp] at hk
   exact done (e:=0) (n:=n+y % 128*128 ^ j) (p:=i+j+1) (n':=n+y % 128*128 ^ j) (p':=i+j+1) (.inl rfl) (fun _=>⟨rfl,rfl⟩) hk H
  ·refine bindI_of (((7*(j+1):Nat):Int)) (by exact i64_at _ _ (by omega) (by omega) (by omega)) ?_
   refine ⟨f,by omega,j+1,n+y % 128*128 ^ j,by omega,by omega,by omega,?_,by omega,rfl,H⟩
   rw [<- hv]
   conv=>rhs; unfold varF
   rw [hy]
   dsimp only
   rw [if_neg hnc,if_neg (by omega)]
end
end Go.Bm
namespace Go.Bm
open Go Go.Den Go.Den.YtfaclehehhgpcaaGreat
open Go.Ar (u8s u8s_length)
section
variable {h0 h:Heap} {F:List Nat} {K:VK} {Kp:PK} {q:Option Addr} {c i r:Nat} {b:List Nat} {D:List Ent}
theorem newReader_ok (hr:rdO h q (b.length*1) (u8s b)) (hb:RdB b) (hk:∀ r q' c' D h',Slot T_uint8 1 D q' b.length c' (u8s b)->Hp h [] h' (rdE r q' b.length c' 0::D)->K (.pointer (some ⟨r,0,none⟩)) h'):CP F_bits_NewReader #[.slice q b.length c] h K Kp:=by
 refine call_bits_NewReader ?_
 unfold bits_NewReader
 have hbl:=hb.bl
 have fin:∀ D q' c' h',Slot T_uint8 1 D q' b.length c' (u8s b)->Hp h [] h' D->newC h' [.slice q' b.length c', .int .i64 0] T_bits_Reader fun r_3 h_4=>K (.pointer (some ⟨r_3,0,none⟩)) h_4:=fun D q' c' h' hs H=>by
  refine newC_hp H fun r h2 H=>?_
  have H:=H.rot
  exact hk r q' c' D h2 hs H
 rcases Nat.eq_zero_or_pos b.length with h1 | h1
 ·have hb0:b=[]:=List.length_eq_zero_iff.1 h1
  subst hb0
  refine ⟨u8s [],hr,?_⟩
  rw [if_pos (by simp)]
  exact fin [] none 0 h (Slot.nil _ _) (Hp.nil h [])
 ·have H:=Hp.nil h []
  refine appC_new H hr (u8s_length b) h1 (by omega) fun o rest h' he H'=>?_
  exact fin _ _ _ h' (Slot.one (by rw [u8s_length,Nat.mul_one]) (by rw [List.length_append,u8s_length,Nat.mul_one])) H'
end
section
variable {hB:Heap} {K:VK} {Kp:PK} {q:Option Addr} {c:Nat} {b:List Nat}
end
end Go.Bm
namespace Go.Bm
open Go Go.Den Go.Den.YtfaclehehhgpcaaGreat
open Go.Ar (u8s u8s_length)
theorem rdO_drop {h:Heap} {q:Option Addr} {c i:Nat} {b:List Nat} (hr:rdO h q (b.length*1) (u8s b)) (hi:i<=b.length) (hc:b.length<=c):rdO h (subA q c i 1) ((b.drop i).length*1) (u8s (b.drop i)):=by
 have hd:u8s (b.drop i)=(u8s b).drop i:=by simp [u8s,List.map_drop]
 cases q with
 | none =>
  have h0:u8s b=[]:=hr
  have e:subA none c i 1=none:=by unfold subA; split <;> rfl
  rw [e,hd,h0]
  exact List.drop_nil
 | some a =>
  unfold subA
  by_cases h1:c=i
  ·rw [if_pos h1]
   have:b.drop i=[]:=List.drop_eq_nil_of_le (by omega)
   rw [this]
   exact ⟨rfl,fun j v hj=>by simp [u8s] at hj⟩
  ·rw [if_neg h1]
   refine ⟨by rw [u8s_length,Nat.mul_one],fun j v hj=>?_⟩
   rw [hd,List.getElem?_drop] at hj
   have:=hr.2 _ v hj
   show hcell h ((a.add (i*1)).add j)=_
   rw [Nat.mul_one,Go.Ar.add_add']
   exact this
section
variable {hB:Heap} {K:VK} {Kp:PK} {q:Option Addr} {c:Nat} {b:List Nat}
end
end Go.Bm
namespace Go.Den.YtfaclehehhgpcaaGreat
open Go Go.Den
def burinref1_Reader_Left (C:CallP) (r:Option Addr) (h:Heap) (K:VK) (Kp:PK):Prop :=
ptr r fun a_1 =>
ptr r fun a_2 =>
ldS h (a_1.add 0) fun x_3 x_3n x_3c =>
bindI (IntKind.i64.wrap ((8:Int)*(x_3n:Int))) fun z_4 =>
ldI h (a_2.add 1) .i64 fun x_5 =>
bindI (IntKind.i64.wrap (z_4-x_5)) fun z_6 =>
K (.int .i64 z_6) h
def burinref1_Reader_Var (C:CallP) (r:Option Addr) (h:Heap) (K:VK) (Kp:PK):Prop :=
ptr r fun a_1 =>
ldI h (a_1.add 1) .i64 fun x_2 =>
∃ J_3:Nat->List Value->Heap->Prop,(∃ n_5,J_3 n_5 [.int .u64 0, .int .i64 0] h)/\∀ (n_5:Nat) (h_6:Heap) (u_7:Nat->Value) (n_8:Int) (i_9:Int),J_3 n_5 [.int .u64 n_8, .int .i64 i_9] h_6->(
bcase (decide (i_9<(10:Int))) (
C F_burinref1_Reader_Take #[.pointer r, .int .i64 8] h_6 (fun v_10 h_11 =>
∃ (r_12:Int),∃ (r_13:Int),v_10 = .tuple #[.int .u64 r_12, .int .i64 r_13]/\(
bcase (r_13 != (0:Int)) (
ptr r fun a_14 =>
stV h_11 (a_14.add 1) (.int .i64 x_2) fun h_15 =>
K (.tuple #[.int .u64 0, .int .i64 14]) h_15) <|
∃ K_16:List Value->Heap->Prop,(
bcase (i_9 == (9:Int)) (
bcase (decide (r_12 > (1:Int))) (
ptr r fun a_19 =>
stV h_11 (a_19.add 1) (.int .i64 x_2) fun h_20 =>
K (.tuple #[.int .u64 0, .int .i64 16]) h_20) <|
bcase (decide (i_9 > (0:Int))) (
bcase (r_12 == (0:Int)) (
ptr r fun a_21 =>
stV h_11 (a_21.add 1) (.int .i64 x_2) fun h_22 =>
K (.tuple #[.int .u64 0, .int .i64 16]) h_22) <|
K_16 [] h_11) <|
K_16 [] h_11) <|
bcase (decide (i_9 > (0:Int))) (
bcase (r_12 == (0:Int)) (
ptr r fun a_23 =>
stV h_11 (a_23.add 1) (.int .i64 x_2) fun h_24 =>
K (.tuple #[.int .u64 0, .int .i64 16]) h_24) <|
K_16 [] h_11) <|
K_16 [] h_11)/\∀ (h_17:Heap) (u_18:Nat->Value) ,K_16 [] h_17->(
bindI (r_12.tmod (128:Int)) fun z_25 =>
bindI (IntKind.i64.wrap ((7:Int)*i_9)) fun z_26 =>
bindI (IntKind.u64.wrap z_26) fun z_27 =>
needs (0<=z_27) <|
bindI (shlI .u64 z_25 z_27) fun z_28 =>
bindI (IntKind.u64.wrap (n_8+z_28)) fun z_29 =>
bcase (decide (r_12<(128:Int))) (
K (.tuple #[.int .u64 z_29, .int .i64 0]) h_17) <|
bindI (IntKind.i64.wrap (i_9+(1:Int))) fun z_30 =>
∃ m_4,m_4<n_5/\J_3 m_4 [.int .u64 z_29, .int .i64 z_30] h_17))) (Kp)) <|
ptr r fun a_31 =>
stV h_6 (a_31.add 1) (.int .i64 x_2) fun h_32 =>
K (.tuple #[.int .u64 0, .int .i64 16]) h_32)
def burinref1_Reader_Take (C:CallP) (r:Option Addr) (width:Int) (h:Heap) (K:VK) (Kp:PK):Prop :=
bcase (decide (width<(0:Int))) (
K (.tuple #[.int .u64 0, .int .i64 11]) h) <|
bcase (decide (width > (64:Int))) (
K (.tuple #[.int .u64 0, .int .i64 11]) h) <|
C F_burinref1_Reader_Left #[.pointer r] h (fun v_1 h_2 =>
∃ (r_3:Int),v_1 = .int .i64 r_3/\(
bcase (decide (r_3<width)) (
K (.tuple #[.int .u64 0, .int .i64 14]) h_2) <|
∃ J_4:Nat->List Value->Heap->Prop,(∃ n_6,J_4 n_6 [.int .u64 0, .int .i64 0] h_2)/\∀ (n_6:Nat) (h_7:Heap) (u_8:Nat->Value) (n_9:Int) (i_10:Int),J_4 n_6 [.int .u64 n_9, .int .i64 i_10] h_7->(
bcase (decide (i_10<width)) (
bindI (IntKind.u64.wrap ((2:Int)*n_9)) fun z_11 =>
ptr r fun a_12 =>
ptr r fun a_13 =>
ptr r fun a_14 =>
ldS h_7 (a_12.add 0) fun x_15 x_15n x_15c =>
ldI h_7 (a_13.add 1) .i64 fun x_16 =>
bindI (IntKind.i64.wrap (x_16.tdiv (8:Int))) fun z_17 =>
needs (0<=z_17/\z_17<(x_15n:Int)) <|
ptr x_15 fun a_18 =>
ldI h_7 (a_18.add (z_17.toNat*1)) .u8 fun x_19 =>
ldI h_7 (a_14.add 1) .i64 fun x_20 =>
bindI (x_20.tmod (8:Int)) fun z_21 =>
bindI (IntKind.i64.wrap ((7:Int)-z_21)) fun z_22 =>
bindI (IntKind.u64.wrap z_22) fun z_23 =>
needs (0<=z_23) <|
bindI (shrI .u8 x_19 z_23) fun z_24 =>
bindI (bitI .and .u8 z_24 (1:Int)) fun z_25 =>
bindI (IntKind.u64.wrap z_25) fun z_26 =>
bindI (IntKind.u64.wrap (z_11+z_26)) fun z_27 =>
ptr r fun a_28 =>
ldI h_7 (a_28.add 1) .i64 fun x_29 =>
bindI (IntKind.i64.wrap (x_29+(1:Int))) fun z_30 =>
ptr r fun a_31 =>
stV h_7 (a_31.add 1) (.int .i64 z_30) fun h_32 =>
bindI (IntKind.i64.wrap (i_10+(1:Int))) fun z_33 =>
∃ m_5,m_5<n_6/\J_4 m_5 [.int .u64 z_27, .int .i64 z_33] h_32) <|
K (.tuple #[.int .u64 n_9, .int .i64 0]) h_7))) (Kp)
end Go.Den.YtfaclehehhgpcaaGreat
namespace Go.Den.YtfaclehehhgpcaaGreat
open Go Go.Den
theorem call_burinref1_Reader_Left {r:Option Addr} {h:Heap} {K:VK} {Kp:PK} (H:burinref1_Reader_Left (CallsHP Go.Proofs.Tryz.prog) r h K Kp):CallsHP Go.Proofs.Tryz.prog F_burinref1_Reader_Left #[.pointer r] h K Kp :=
 callsHP_ofE (Hints.mk (fun i=>bif Nat.beq i 1 then some ([], .take 0 <| .take 1 <| .take 2 <| .take 6 <| .take 7 <| .take 8 <| .take 3 <| .take 4 <| .take 5 <| .take 9 <| .take 10 <| .take 11 <| .done) else (none)) (fun i=>none) (fun i=>none) []) (by kernel_rfl) Go.Proofs.Tryz.func75 (by kernel_rfl) (fun C=>burinref1_Reader_Left C r h K Kp) (fun C=>by kernel_rfl) H
theorem call_burinref1_Reader_Var {r:Option Addr} {h:Heap} {K:VK} {Kp:PK} (H:burinref1_Reader_Var (CallsHP Go.Proofs.Tryz.prog) r h K Kp):CallsHP Go.Proofs.Tryz.prog F_burinref1_Reader_Var #[.pointer r] h K Kp :=
 callsHP_ofE (Hints.mk (fun i=>none) (fun i=>bif Nat.beq i 4 then some ([(5, .int .u64),(6, .int .i64)],144115188075848172) else (none)) (fun i=>bif Nat.beq i 13 then some ([],70368475742220) else (none)) []) (by kernel_rfl) Go.Proofs.Tryz.func115 (by kernel_rfl) (fun C=>burinref1_Reader_Var C r h K Kp) (fun C=>by kernel_rfl) H
theorem call_burinref1_Reader_Take {r:Option Addr} {width:Int} {h:Heap} {K:VK} {Kp:PK} (H:burinref1_Reader_Take (CallsHP Go.Proofs.Tryz.prog) r width h K Kp):CallsHP Go.Proofs.Tryz.prog F_burinref1_Reader_Take #[.pointer r, .int .i64 width] h K Kp :=
 callsHP_ofE (Hints.mk (fun i=>bif Nat.beq i 9 then some ([], .take 0 <| .take 1 <| .take 2 <| .take 3 <| .take 4 <| .take 6 <| .take 7 <| .take 8 <| .take 13 <| .take 14 <| .take 15 <| .take 5 <| .take 9 <| .take 10 <| .take 11 <| .take 12 <| .take 16 <| .take 17 <| .take 18 <| .take 19 <| .take 20 <| .take 21 <| .take 22 <| .take 23 <| .take 24 <| .done) else (none)) (fun i=>bif Nat.beq i 7 then some ([(6, .int .u64),(7, .int .i64)],18014398509220032) else (none)) (fun i=>none) []) (by kernel_rfl) Go.Proofs.Tryz.func134 (by kernel_rfl) (fun C=>burinref1_Reader_Take C r width h K Kp) (fun C=>by kernel_rfl) H
end Go.Den.YtfaclehehhgpcaaGreat
namespace Go.Bm
open Go Go.Den Go.Den.YtfaclehehhgpcaaGreat
open Go.Ar (u8s)
def r1E (ra:Nat) (q:Option Addr) (n c:Nat) (at_:Nat):Ent:=⟨ra,true,T_burinref1_Reader,[.slice q n c, .int .i64 (at_:Nat)]⟩
section
variable {hB h:Heap} {K:VK} {Kp:PK} {q:Option Addr} {c i ra rb:Nat} {b:List Nat} {M:List Ent} {e:Int}
theorem left1_ok (H:Hp hB [] h (r1E ra q b.length c i::M)) (hb:RdB b) (hi:i<=8*b.length) (hk:K (.int .i64 ((8*b.length-i:Nat):Int)) h):CP F_burinref1_Reader_Left #[.pointer (some ⟨ra,0,none⟩)] h K Kp:=by
 refine call_burinref1_Reader_Left ?_
 unfold burinref1_Reader_Left
 have hbl:=hb.bl
 refine ptr_of (a:=⟨ra,0,none⟩) (ptr_of (a:=⟨ra,0,none⟩) ?_)
 refine ldS_of (hpA H 0 rfl rfl) ?_
 refine bindI_of (((8*b.length:Nat):Int)) (by exact i64_at _ _ (by omega) (by omega) (by omega)) ?_
 refine ldI_of (hpA H 0 rfl rfl) ?_
 refine bindI_of (((8*b.length-i:Nat):Int)) (by exact i64_at _ _ (by omega) (by omega) (by omega)) ?_
 exact hk
set_option maxHeartbeats 2000000 in
theorem take1_ok (H:Hp hB [] h (r1E ra q b.length c (8*i)::M)) (hr:rdO hB q (b.length*1) (u8s b)) (hb:RdB b) (hi:i<=b.length)
  (hk0:b[i]? = none->K (.tuple #[.int .u64 0, .int .i64 14]) h) (hk1:∀ x h',b[i]? = some x->Hp hB [] h' (r1E ra q b.length c (8*(i+1))::M)->K (.tuple #[.int .u64 (x:Nat), .int .i64 0]) h') :
  CP F_burinref1_Reader_Take #[.pointer (some ⟨ra,0,none⟩), .int .i64 8] h K Kp:=by
 refine call_burinref1_Reader_Take ?_
 unfold burinref1_Reader_Take
 have hbl:=hb.bl
 refine bcase_dec (fun h1=>absurd h1 (by decide)) fun _=>?_
 refine bcase_dec (fun h1=>absurd h1 (by decide)) fun _=>?_
 refine left1_ok H hb (by omega) ?_
 refine ⟨_,rfl,?_⟩
 refine bcase_dec (fun h1=>hk0 (List.getElem?_eq_none (by omega))) fun h1=>?_
 obtain ⟨x,hx⟩:∃ x,b[i]? = some x:=⟨_,List.getElem?_eq_getElem (by omega)⟩
 have hx8:=hb.b8 x (List.mem_of_getElem? hx)
 refine ⟨fun f vs h'=>∃ j:Nat,j+f=8/\vs=[.int .u64 ((x / 2 ^ (8-j):Nat):Int), .int .i64 (j:Nat)]/\Hp hB [] h' (r1E ra q b.length c (8*i+j)::M),⟨8,0,rfl,by rw [Nat.sub_zero,Nat.div_eq_of_lt (show x<2 ^ 8 by omega)]; rfl,H⟩,?_⟩
 clear H
 rintro f h u xa xb ⟨j,hjf,hxx,H⟩
 injection hxx with hx1 hxx
 injection hxx with hx2 hxx
 injection hx1 with _ hx1
 injection hx2 with _ hx2
 subst xa xb
 refine bcase_dec (fun h2=>?_) fun h2=>?_
 ·have hj:j<8:=by omega
  obtain ⟨d1,d2,d3⟩:=dn_step hx8 hj
  have hb2:x / 2 ^ (7-j) % 2<256:=by omega
  have hxd:x / 2 ^ (7-j)<256:=Nat.lt_of_le_of_lt (Nat.div_le_self _ _) hx8
  obtain ⟨a,rfl,hc⟩:=rdO_cell (H.rdO hr) (i:=i) (v := .int .u8 (x:Nat)) (by unfold u8s; rw [List.getElem?_map,hx]; rfl)
  refine bindI_of (((x / 2 ^ (8-j)*2:Nat):Int)) (by exact u64_at _ _ (by omega) (by omega) (by omega)) ?_
  refine ptr_of (a:=⟨ra,0,none⟩) (ptr_of (a:=⟨ra,0,none⟩) (ptr_of (a:=⟨ra,0,none⟩) ?_))
  refine ldS_of (hpA H 0 rfl rfl) (ldI_of (hpA H 0 rfl rfl) ?_)
  refine bindI_of (((i:Nat):Int)) (by exact i64_at _ _ (by rw [show ((8*i+j:Nat):Int).tdiv 8=(((8*i+j) / 8:Nat):Int) from rfl]; omega) (by omega) (by omega)) ?_
  refine needs_of (by omega) (ptr_of (a:=a) ?_)
  rw [Int.toNat_natCast,Nat.mul_one]
  refine ldI_of hc ?_
  refine ldI_of (hpA H 0 rfl rfl) ?_
  refine bindI_of (((j:Nat):Int)) (by exact (tmod_nat (8*i+j) 8).trans (by omega)) ?_
  refine bindI_of (((7-j:Nat):Int)) (by exact i64_at _ _ (by omega) (by omega) (by omega)) ?_
  refine bindI_of (((7-j:Nat):Int)) (by exact u64_in _ (by omega) (by omega)) ?_
  refine needs_of (by omega) ?_
  refine bindI_of (((x / 2 ^ (7-j):Nat):Int)) (by exact shr_of (by show 7-j<=8; omega)) ?_
  refine bindI_of (((x / 2 ^ (7-j) % 2:Nat):Int)) (by exact (and8 _ 1 hxd (by decide)).trans (by rw [Nat.and_one_is_mod])) ?_
  refine bindI_of (((x / 2 ^ (7-j) % 2:Nat):Int)) (by exact u64_in _ (by omega) (by omega)) ?_
  refine bindI_of (((x / 2 ^ (8-(j+1)):Nat):Int)) (by exact u64_at _ _ (by omega) (by omega) (by omega)) ?_
  refine ptr_of (a:=⟨ra,0,none⟩) ?_
  refine ldI_of (hpA H 0 rfl rfl) ?_
  refine bindI_of (((8*i+(j+1):Nat):Int)) (by exact i64_at _ _ (by omega) (by omega) (by omega)) ?_
  refine ptr_of (a:=⟨ra,0,none⟩) ?_
  refine stA H 0 rfl rfl rfl fun h H=>?_
  refine bindI_of (((j+1:Nat):Int)) (by exact i64_at _ _ (by omega) (by omega) (by omega)) ?_
  exact ⟨f-1,by omega,j+1,by omega,rfl,H⟩
 ·have hj:j=8:=by omega
  subst hj
  rw [Nat.sub_self,Nat.pow_zero,Nat.div_one]
  exact hk1 x h hx H
set_option maxHeartbeats 4000000 in
theorem var1_ok (H:Hp hB [] h (r1E ra q b.length c (8*i)::M)) (hr:rdO hB q (b.length*1) (u8s b)) (hb:RdB b) (hi:i<=b.length)
  (hk:∀ h',Hp hB [] h' (r1E ra q b.length c (8*(varP b i).2.2)::M)->K (.tuple #[.int .u64 ((varP b i).2.1:Nat), .int .i64 (varP b i).1]) h') :
  CP F_burinref1_Reader_Var #[.pointer (some ⟨ra,0,none⟩)] h K Kp:=by
 refine call_burinref1_Reader_Var ?_
 unfold burinref1_Reader_Var
 have hbl:=hb.bl
 refine ptr_of (a:=⟨ra,0,none⟩) ?_
 refine ldI_of (hpA H 0 rfl rfl) ?_
 refine ⟨fun f vs h'=>∃ (j n:Nat),j+f=10/\n<128 ^ j/\varF b i f j n=varP b i/\i+j<=b.length/\vs=[.int .u64 (n:Nat), .int .i64 (j:Nat)]/\Hp hB [] h' (r1E ra q b.length c (8*(i+j))::M),⟨10,0,0,rfl,by decide,rfl,hi,rfl,H⟩,?_⟩
 clear H
 rintro f h u xa xb ⟨j,n,hjf,hn,hv,hij,hxx,H⟩
 injection hxx with hx1 hxx
 injection hxx with hx2 hxx
 injection hx1 with _ hx1
 injection hx2 with _ hx2
 subst xa xb
 have back:∀ {h:Heap} {p:Nat} {e:Int},varP b i=(e,0,i)->Hp hB [] h (r1E ra q b.length c p::M)->ptr (some ⟨ra,0,none⟩) fun a_14=>stV h (a_14.add 1) (.int .i64 ((8*i:Nat):Int)) fun h_15=>K (.tuple #[.int .u64 0, .int .i64 e]) h_15:=fun {h p e} hvp H=>by
  refine ptr_of (a:=⟨ra,0,none⟩) ?_
  refine stA H 0 rfl rfl rfl fun h H=>?_
  rw [hvp] at hk
  exact hk h H
 refine bcase_dec (fun h1=>?_) fun h1=>?_
 rotate_left
 ·have hf:f=0:=by omega
  subst hf
  exact back (e:=16) hv.symm H
 obtain ⟨f,rfl⟩:∃ g,f=g+1:=⟨f-1,by omega⟩
 refine take1_ok H hr hb hij (fun hnone=>?_) fun y h hy H=>?_
 ·refine ⟨_,_,rfl,?_⟩
  refine bcase_true (by rfl) ?_
  refine back (e:=14) ?_ H
  rw [<- hv]
  unfold varF
  rw [hnone]
 have hy8:=hb.b8 y (List.mem_of_getElem? hy)
 have hyl:=(List.getElem?_eq_some_iff.1 hy).1
 refine ⟨_,_,rfl,?_⟩
 refine bcase_false (by rfl) ?_
 have err:(j=9/\1<y\/0<j/\y=0)->varP b i=(16,0,i):=fun hc=>by
  rw [<- hv]
  unfold varF
  rw [hy]
  dsimp only
  rw [if_pos hc]
 refine ⟨fun _ h'=>h'=h/\¬ (j=9/\1<y\/0<j/\y=0),?_,?_⟩
 ·refine bcase_eq (fun h9=>?_) fun h9=>?_
  ·refine bcase_dec (fun h10=>back (err (.inl ⟨by omega,by omega⟩)) H) fun h10=>?_
   refine bcase_dec (fun h11=>?_) fun h11=>⟨rfl,by omega⟩
   refine bcase_eq (fun h12=>back (err (.inr ⟨by omega,by omega⟩)) H) fun h12=>⟨rfl,by omega⟩
  ·refine bcase_dec (fun h11=>?_) fun h11=>⟨rfl,by omega⟩
   refine bcase_eq (fun h12=>back (err (.inr ⟨by omega,by omega⟩)) H) fun h12=>⟨rfl,by omega⟩
 rintro h' u ⟨rfl,hnc⟩
 have hm127:y % 128*128 ^ j<=127*128 ^ j:=Nat.mul_le_mul_right _ (by omega)
 have hp1:128 ^ (j+1)=128*128 ^ j:=by rw [Nat.pow_succ,Nat.mul_comm]
 have hz:n+y % 128*128 ^ j<18446744073709551616:=by
  by_cases hj:j=9
  ·have h1:y % 128<=1:=by omega
   have h2:y % 128*128 ^ j<=1*128 ^ j:=Nat.mul_le_mul_right _ h1
   rw [hj] at h2 hn ⊢
   have e9:(128:Nat) ^ 9=9223372036854775808:=by decide
   omega
  ·have h2:128 ^ (j+1)<=128 ^ 9:=Nat.pow_le_pow_right (by decide) (by omega)
   have e9:(128:Nat) ^ 9=9223372036854775808:=by decide
   omega
 refine bindI_of (((y % 128:Nat):Int)) (by exact tmod_nat y 128) ?_
 refine bindI_of (((7*j:Nat):Int)) (by exact i64_at _ _ (by omega) (by omega) (by omega)) ?_
 refine bindI_of (((7*j:Nat):Int)) (by exact u64_in _ (by omega) (by omega)) ?_
 refine needs_of (by omega) ?_
 refine bindI_of (((y % 128*128 ^ j:Nat):Int)) (by exact shl_of (by show 7*j<=64; omega) (by rw [pow7]; exact u64_in _ (by omega) (by omega))) ?_
 refine bindI_of (((n+y % 128*128 ^ j:Nat):Int)) (by exact u64_at _ _ (by simp) (by omega) (by omega)) ?_
 refine bcase_dec (fun h13=>?_) fun h13=>?_
 ·have hvp:varP b i=(0,n+y % 128*128 ^ j,i+j+1):=by
   rw [<- hv]
   unfold varF
   rw [hy]
   dsimp only
   rw [if_neg hnc,if_pos (by omega)]
  rw [hvp] at hk
  exact hk _ H
 ·refine bindI_of (((j+1:Nat):Int)) (by exact i64_at _ _ (by omega) (by omega) (by omega)) ?_
  refine ⟨f,by omega,j+1,n+y % 128*128 ^ j,by omega,by omega,?_,by omega,rfl,H⟩
  rw [<- hv]
  conv=>rhs; unfold varF
  rw [hy]
  dsimp only
  rw [if_neg hnc,if_neg (by omega)]
end
end Go.Bm
namespace Go.Bm
open Go Go.Den Go.Den.YtfaclehehhgpcaaGreat
theorem hset_same {h:Heap} {a:Addr} {v:Value} (hc:hcell h a=some v):hset h a v=h:=by
 apply Array.ext_getElem?
 intro i
 unfold hset
 rw [Array.getElem?_modify]
 split
 ·rename_i hi
  subst hi
  unfold hcell at hc
  cases ho:h[a.block]? with
  | none=>rfl
  | some o =>
   rw [ho] at hc
   cases o with
   | cells c el fz =>
    dsimp only at hc
    by_cases hs:a.spot.isSome
    ·rw [if_pos hs] at hc; cases hc
    ·rw [if_neg hs] at hc
     have hc':c.setIfInBounds a.off v=c:=by
      apply Array.ext_getElem?
      intro j
      rw [Array.getElem?_setIfInBounds]
      split
      ·rename_i hj
       subst hj
       split
       ·exact hc.symm
       ·rename_i hj
        rw [Array.getElem?_eq_none (by omega)]
      ·rfl
     show some (Obj.cells (if a.spot.isSome then c else c.setIfInBounds a.off v) el fz)=some (Obj.cells c el fz)
     rw [if_neg hs,hc']
   | _=>cases hc
 ·rfl
theorem stS {h0 h:Heap} {FF:List Nat} {L:List Ent} (H:Hp h0 FF h L) (k:Nat) {b o i:Nat} {t:TypeId} {cs:List Value} {v:Value} {K:Heap->Prop} (he:L[k]? = some ⟨b,true,t,cs⟩) (hc:cs[o+i]? = some v) (hv:v.oneCell'=true) (hk:K h):stV h ((⟨b,o,none⟩:Addr).add i) v K:=by
 rw [add_mk]
 refine stV_of hv (H.cell k he hc) ((H.bl k _ he).frozen _) ?_
 rw [hset_same (H.cell k he hc)]
 exact hk
section
variable {hB:Heap} {K:VK} {Kp:PK} {q:Option Addr} {c:Nat} {b:List Nat}
end
end Go.Bm
namespace Go.Bm
open Go Go.Den Go.Den.YtfaclehehhgpcaaGreat
section
variable {hB:Heap} {K:VK} {Kp:PK} {q:Option Addr} {c:Nat} {b:List Nat}
end
end Go.Bm
namespace Go.Bm
open Go Go.Den Go.Den.YtfaclehehhgpcaaGreat
section
variable {h0 h:Heap} {F:List Nat} {A B D:List Ent}
theorem Slot.appN {t:TypeId} {sz by_ n c m:Nat} {q:Option Addr} {xs z:List Value} (hd:Slot t sz D q n c xs) (H:Hp h0 F h (A++(D++B))) (hz:z.length=sz) (hs0:1<=sz) {src:Option Addr} {new:List Value} (hr:Go.Den.rdO h src (m*sz) new) (hm:new.length=m*sz)
  (hnew:∀ v∈new,v.oneCell'=true) (hby:(n+m)*by_<=70368744177664)
  {K:Option Addr->Nat->Nat->Heap->Prop} (hk:∀ (D':List Ent) (q':Option Addr) (c':Nat) h',Slot t sz D' q' (n+m) c' (xs++new)->Hp h0 F h' (A++(D'++B))->K q' (n+m) c' h'):appC h t sz by_ z q n c src m K:=by
 rcases Nat.eq_zero_or_pos m with h1 | h1
 ·subst h1
  rw [Nat.zero_mul] at hr hm
  have hn0:new=[]:=List.length_eq_zero_iff.1 hm
  subst hn0
  have hnc:n<=c:=by
   obtain ⟨hl,⟨_,_,h2,_⟩ | ⟨b,rest,_,_,h2⟩⟩:=hd
   ·omega
   ·rw [List.length_append,hl] at h2
    exact Nat.le_of_mul_le_mul_right (Nat.le.intro h2) hs0
  refine ⟨[],by rw [Nat.zero_mul]; exact hr,?_⟩
  rw [if_pos (by omega)]
  have:=hk D q c h (by rw [List.append_nil,Nat.add_zero]; exact hd) H
  cases q with
  | none=>exact this
  | some a=>exact this
 ·exact Slot.app hd H hz hr hm hnew h1 hby hk
end
section
variable {hB:Heap} {q:Option Addr} {c:Nat} {l:List Int} {K:VK} {Kp:PK}
end
section
variable {hB:Heap} {w g d s:Int} {K:VK} {Kp:PK}
end
end Go.Bm
namespace Go.Den.YtfaclehehhgpcaaGreat
open Go Go.Den
end Go.Den.YtfaclehehhgpcaaGreat
namespace Go.Den.YtfaclehehhgpcaaGreat
open Go Go.Den
end Go.Den.YtfaclehehhgpcaaGreat
namespace Go.Bm
open Go Go.Den Go.Den.YtfaclehehhgpcaaGreat
section
variable {x y op t w b:Int} {sk:Bool} {ws:List Nat}
variable {hB:Heap} {q1:Option Addr} {c1:Nat} {K:VK} {Kp:PK}
end
end Go.Bm
namespace Go.Bm
open Go Go.Den Go.Den.YtfaclehehhgpcaaGreat
end Go.Bm
