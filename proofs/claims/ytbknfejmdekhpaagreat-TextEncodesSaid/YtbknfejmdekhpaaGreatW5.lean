/- W5: put together by wip/tools/bundle.py: RfI RfJ RfK BkA BkB BkC BkD RfL BkE RfM GnA GnB GnC GnS GnD GnE GnF RdA GnG RfR RfS GnH GnI GnJa GnJ GnK RdB RdC GnL GnQ Mbits Bbits PbA PbB RnD PbF PbG PbH Mburinref1 Bburinref1 PbI PbJ PbJb PbC PbD PbE PbK PbL PbM. -/
import Derived.Test.YtbknfejmdekhpaaGreatW1
import Derived.Test.YtbknfejmdekhpaaGreatW2
import Derived.Test.YtbknfejmdekhpaaGreatW3
import Derived.Test.YtbknfejmdekhpaaGreatW4
import Derived.Test.YtbknfejmdekhpaaGreatProg
set_option linter.unusedVariables false
set_option linter.unusedSimpArgs false
set_option maxRecDepth 100000
namespace Go.Bm
open Go Go.Den Go.Den.YtbknfejmdekhpaaGreat
open Go.Ar (Dec iW idx xX tg BOk)
def stepG (m:Nat) (base:Int) (s:Dec) (n:Nat) (_:Bool):(Bool × Dec) ⊕ (Int × Dec) := .inl (decide ((Go.Ar.getD s (idx (base+(n:Int)) m)).2=1),(Go.Ar.getD s (idx (base+(n:Int)) m)).1)
def SG (p q rc rb:Nat) (base:Int) (e:Ent) (bp:Option Addr) (bc:Nat) (s:Dec) (M:List Ent):Prop:=BOk e bp s.b/\M=iW p q e bp bc s++[⟨rc,true,mP,[.pointer (at0 p)]⟩,⟨rb,true,gQ,[.int .i64 base]⟩]
theorem G4 {m:Nat} {base:Int} {W:Nat} {R:Int->Int->Bool} {dx dy:Int} (g:(Int->Int->Bool) × Dec):∀ k,∃ g',runN W R dx dy (stepG m base) k g = .inl g'
 | 0=>⟨_,rfl⟩
 | k+1=>by
  obtain ⟨⟨G,s⟩,hg⟩:=G4 (m:=m) (base:=base) (W:=W) (R:=R) (dx:=dx) (dy:=dy) g k
  unfold runN
  rw [hg]
  exact ⟨_,rfl⟩
theorem SG.w {p q rc rb:Nat} {base:Int} {e:Ent} {bp:Option Addr} {bc:Nat} {s:Dec} {M:List Ent} (h:SG p q rc rb base e bp bc s M):M.all Ent.w=true:=by
 obtain ⟨h1,rfl⟩:=h
 simp [iW,Go.Ar.yM,h1.1]
theorem Nl {p q rc rb m n0 N:Nat} {e:Ent} {bp:Option Addr} {bc:Nat} {base:Int} {bytes:List Nat} (hbl:bytes.length<140737488351300) (hb:0<=base/\base<=131072) (hm1:1<=m) (hm2:m<=131072) (hN:n0+N<=16777216) :
  nh N (SG p q rc rb base e bp bc) (fun k s=>Go.Ar.nh bytes m (n0+k) s) (stepG m base) (.func (.func pT) #[] #[.pointer (some ⟨rc,0,none⟩),.pointer (some ⟨rb,0,none⟩)]):=by
 intro h0 h FF s n bit K Kp M k hok hk hn hM H hgood hbad
 obtain ⟨hbok,rfl⟩:=hM
 show CP pT #[.int .i64 (n:Nat),.int .i64 (bit.toNat:Nat),.pointer (some ⟨rc,0,none⟩),.pointer (some ⟨rb,0,none⟩)] h K Kp
 refine BZ (cap0:=⟨rc,0,none⟩) (cap1:=⟨rb,0,none⟩) ?_
 unfold wo
 refine ja (H.cell 3 rfl (i:=0) rfl) ?_
 refine fz (H.cell 4 rfl (i:=0) rfl) ?_
 refine fw ((base+(n:Int))) (by exact i64_in _ (by omega) (by omega)) ?_
 refine Go.Ar.wv (H.JY [0,1,2] (by decide) rfl) hbok hok.wf (by rw [hok.b]; exact hbl) (by rw [hok.n]; omega) (by rw [hok.len]; exact hm1) (by rw [hok.len]; exact hm2) fun h' H'=>?_
 have hbw:=hbok.1
 replace H:=H.put [0,1,2] (by decide) rfl (by simp [iW,Go.Ar.yM,hbw]) H' (by simp [iW,Go.Ar.yM,hbw]) rfl
 clear H'
 refine ⟨_,_,rfl,?_⟩
 refine fZ (by rfl) ?_
 rw [hok.len] at H ⊢
 have hbit:=tg (s:=s) (idx (base+(n:Int)) m)
 have hbn:=(Go.Ar.Pa s (idx (base+(n:Int)) m)).2.2
 have e1:(Go.Ar.getD s (idx (base+(n:Int)) m)).2=(decide ((Go.Ar.getD s (idx (base+(n:Int)) m)).2=1)).toNat:=by
  by_cases h1:(Go.Ar.getD s (idx (base+(n:Int)) m)).2=1
  ·rw [decide_eq_true h1,h1]; rfl
  ·rw [decide_eq_false h1]; show _=0; omega
 rw [e1]
 exact hgood _ _ _ h' rfl (xX hok _ (by omega)) ⟨by rw [hbn]; exact hbok,rfl⟩ H
open Go.Ar (Dec iW BOk)
def Tj (bytes:List Nat) (m n0:Nat) (base w b w2 b2:Int) (ws2:List Nat) (dx dy:Int) (s:Dec) (e w' b':Int) (bs:List Nat) (s':Dec):Prop :=
 ¬ sE w2 b2 ws2/\e=62/\w'=0/\b'=0/\bs=[]/\s'=s \/
 sE w2 b2 ws2/\¬ jX w b/\e=63/\w'=0/\b'=0/\bs=[]/\s'=s \/
 sE w2 b2 ws2/\jX w b/\¬ Aj dx dy/\e=70/\w'=0/\b'=0/\bs=[]/\s'=s \/
 sE w2 b2 ws2/\jX w b/\Aj dx dy/\¬ (0<=base/\base<=(m:Int)-8192)/\e=51/\w'=0/\b'=0/\bs=[]/\s'=s \/
 sE w2 b2 ws2/\jX w b/\Aj dx dy/\(0<=base/\base<=(m:Int)-8192)/\e=0/\w'=w/\b'=b/\runN w.toNat (jR ws2 w2.toNat b2.toNat) dx dy (stepG m base) (b.toNat*w.toNat) (fun _ _=>false,s) = .inl (jR bs w.toNat b.toNat,s') /\
  bs.length=b.toNat*wds w.toNat/\W64 bs/\Gx w.toNat b.toNat bs/\Go.Ar.nh bytes m (n0+b.toNat*w.toNat) s'
theorem Nk (n W X:Nat):jR (List.replicate n 0) W X=fun _ _=>false:=by
 funext x y
 unfold jR
 rw [CA,Bool.and_false]
set_option maxHeartbeats 1000000 in
theorem Oh {h0 h:Heap} {FF:List Nat} {p q m n0:Nat} {e0:Ent} {bp:Option Addr} {bc:Nat} {s:Dec} {bytes:List Nat} (H:Hp h0 FF h (iW p q e0 bp bc s)) (hb:BOk e0 bp s.b) (hbl:bytes.length<140737488351300) (hc:Go.Ar.nh bytes m n0 s) (hm1:1<=m) (hm2:m<=131072) {base:Int}
  {w b w2 b2:Int} {q2:Option Addr} {c2:Nat} {ws2:List Nat} (hr2:rdO h q2 (ws2.length*1) (il ws2)) (hw2:W64 ws2) (hl2:ws2.length<140737488351300)
  {dx dy:Int} (hN:jX w b->n0+b.toNat*w.toNat<=16777216) {K:VK} {Kp:PK}
  (hk:∀ e w' b' bs s' D qo c h',Tj bytes m n0 base w b w2 b2 ws2 dx dy s e w' b' bs s'->Slot gj 1 D qo bs.length c (il bs)->Hp h0 FF h' (iW p q e0 bp bc s'++D)->K (.tuple #[.agg #[.int .i64 w',.int .i64 b',.slice qo bs.length c],.int .i64 e]) h') :
  CP uz #[.pointer (at0 p),.int .i64 base,.int .i64 w,.int .i64 b,.agg #[.int .i64 w2,.int .i64 b2,.slice q2 ws2.length c2],.int .i64 dx,.int .i64 dy] h K Kp:=by
 refine EI ?_
 unfold BG
 refine qK H fun r4 h1 x1 H=>?_
 refine qK H fun r6 h2 x2 H=>?_
 refine qK H fun r8 h3 x3 H=>?_
 refine qK H fun r10 h4 x4 H=>?_
 have x:=((x1.trans x2).trans x3).trans x4
 clear x1 x2 x3 x4
 have bad:∀ (e:Int) (h:Heap) (T:List Ent),(∀ h',Hp h0 FF h' (iW p q e0 bp bc s++[])->K (.tuple #[.agg #[.int .i64 0,.int .i64 0,.slice none 0 0],.int .i64 e]) h')->Hp h0 FF h (iW p q e0 bp bc s++[⟨r4,true,mP,[.pointer (at0 p)]⟩,⟨r6,true,gQ,[.int .i64 base]⟩,⟨r8,true,fK,[.int .i64 w2,.int .i64 b2,.slice q2 ws2.length c2]⟩,⟨r10,true,fK,[.int .i64 0,.int .i64 0,.slice none 0 0]⟩]++T) ->
   stV h ((⟨r10,0,none⟩:Addr).add 0) (.int .i64 0) fun h_13=>stV h_13 ((⟨r10,0,none⟩:Addr).add 1) (.int .i64 0) fun h_14=>stV h_14 ((⟨r10,0,none⟩:Addr).add 2) (.slice none 0 0) fun h_15 =>
    ldI h_15 ((⟨r10,0,none⟩:Addr).add 0) .i64 fun r_16=>ldI h_15 ((⟨r10,0,none⟩:Addr).add 1) .i64 fun r_17=>ldS h_15 ((⟨r10,0,none⟩:Addr).add 2) fun r_18 r_18n r_18c =>
     K (.tuple #[.agg #[.int .i64 r_16,.int .i64 r_17,.slice r_18 r_18n r_18c],.int .i64 e]) h_15:=fun e h T hk H=>by
  rw [gC,gC,gC]
  refine gq H 6 rfl (fB rfl) rfl fun h hsz H=>?_
  refine gq H 6 rfl (fB rfl) rfl fun h hsz H=>?_
  refine gq H 6 rfl (fB rfl) rfl fun h hsz H=>?_
  refine fz (H.cell 6 rfl (i:=0) rfl) ?_
  refine fz (H.cell 6 rfl (i:=1) rfl) ?_
  refine fU (H.cell 6 rfl (i:=2) rfl) ?_
  exact hk _ ((H.take 3).as (fT _).symm)
 refine ja (H.cell 3 rfl (i:=0) rfl) ?_
 refine fZ (by rfl) ?_
 refine fz (Hp.kH H 5 rfl (i:=0) rfl) ?_
 refine fz (Hp.kH H 5 rfl (i:=1) rfl) ?_
 refine fU (Hp.kH H 5 rfl (i:=2) rfl) ?_
 refine CG (oa x hr2) hw2 hl2 (fun W2 X2 p2 qs2 srest2 h5 hwW hbX hm H'=>?_) fun h5 hm e5=>?_
 ·subst hwW hbX
  replace H:=H.join H' rfl
  clear H'
  refine ⟨_,_,rfl,?_⟩
  refine fZ (by rfl) ?_
  refine IA (fun W X p1 qs h6 hw hx hsz H'=>?_) fun hn=>?_
  ·subst hw hx
   have H2:Hp h5 [] h6 [ph p1 qs W X (X*wds W) (X*wds W),⟨qs,true,gj,il (List.replicate (X*wds W) 0)++[]⟩]:=by
    unfold oV at H'
    rw [Ao] at H'
    exact H'
   clear H'
   have H':=H2
   clear H2
   replace H:=H.join H' rfl
   clear H'
   refine ⟨_,_,rfl,?_⟩
   refine fZ (by rfl) ?_
   refine G6 fun bs hbs=>?_
   refine ⟨_,rfl,?_⟩
   refine iM (fun h3=>?_) fun h3=>?_
   ·exact bad 70 _ _ (fun h' H'=>hk 70 0 0 [] s [] none 0 h' (.inr (.inr (.inl ⟨hm,hsz,(fun hh=>by rw [hbs.2 hh] at h3; cases h3),rfl,rfl,rfl,rfl,rfl⟩))) (Slot.nil _ _) H') H
   have hsh:=hbs.1 h3
   refine fz (H.cell 4 rfl (i:=0) rfl) ?_
   refine ja (H.cell 3 rfl (i:=0) rfl) ?_
   refine gv (a:=⟨p,0,none⟩) ?_
   rw [gC,fN]
   refine Go.Ar.qx (n:=s.st.length) H 0 rfl ?_
   refine ⟨_,rfl,gi.refl _,?_⟩
   rw [hc.len]
   refine J3 (by omega) fun bf hbf=>?_
   refine ⟨_,rfl,?_⟩
   refine iM (fun h2=>?_) fun h2=>?_
   ·exact bad 51 _ _ (fun h' H'=>hk 51 0 0 [] s [] none 0 h' (.inr (.inr (.inr (.inl ⟨hm,hsz,hsh,(fun hh=>by rw [hbf.2 hh] at h2; cases h2),rfl,rfl,rfl,rfl,rfl⟩)))) (Slot.nil _ _) H') H
   have hft:=hbf.1 h2
   have hX:=hN hsz
   simp only [fD] at hX
   have HH:Hp h6 _ h6 ([ph p1 qs W X (X*wds W) (X*wds W),⟨qs,true,gj,il (List.replicate (X*wds W) 0)++[]⟩,ph p2 qs2 W2 X2 ws2.length (ws2.length+srest2.length),⟨qs2,true,gj,il ws2++srest2⟩]++(iW p q e0 bp bc s++[⟨r4,true,mP,[.pointer (at0 p)]⟩,⟨r6,true,gQ,[.int .i64 base]⟩])):=H.JY [9,10,7,8,0,1,2,3,4] (by decide) rfl
   refine N7 (σ:=Dec) (S:=SG p q r4 r6 base e0 bp bc) (Ok:=fun k s=>Go.Ar.nh bytes m (n0+k) s) (step:=stepG m base) (fun s M hM=>hM.w) (Nl hbl ⟨by omega,by omega⟩ hm1 hm2 hX) ⟨hb,rfl⟩ HH (by simp) rfl hsz rfl (W64.zero _) (fun y hy x h1 h2=>CA _ _ _ _) hm.1 (xR hm) hw2 hsh.1 hsh.2 hc (fun ws' s' M h' T hM hrun hlen hww hz hok' H'=>?_) fun e ws' s' M h' T hM hrun _ _ H'=>?_
   ·have hMw:=hM.w
    obtain ⟨hb',rfl⟩:=hM
    have H:=H.put [9,10,7,8,0,1,2,3,4] (by decide) rfl (by simp [iW,Go.Ar.yM,hb.1,ph]) (Hp.suf H') (by simp [iW,Go.Ar.yM,hb.1,ph]) rfl
    clear H'
    have hlen2:ws'.length=X*wds W:=hlen
    have H:Hp h0 FF h' (iW p q e0 bp bc s'++[⟨r4,true,mP,[.pointer (at0 p)]⟩,⟨r6,true,gQ,[.int .i64 base]⟩,⟨r8,true,fK,[.int .i64 (W2:Nat),.int .i64 (X2:Nat),.slice q2 ws2.length c2]⟩,⟨r10,true,fK,[.int .i64 0,.int .i64 0,.slice none 0 0]⟩]++[ph p2 qs2 W2 X2 ws2.length (ws2.length+srest2.length),⟨qs2,true,gj,il ws2++srest2⟩,ph p1 qs W X (X*wds W) (X*wds W),⟨qs,true,gj,il ws'++[]⟩]):=H
    obtain ⟨W',X',e1,e2,hW1,hW2,hX1,hX2,hWX⟩:=jf hsz
    obtain rfl:W=W':=by omega
    obtain rfl:X=X':=by omega
    have hhw:=rR hW1 hWX
    have hpos:1<=X*wds W:=GP hX1 (by unfold wds; omega)
    refine ⟨_,rfl,?_⟩
    refine fZ (by rfl) ?_
    refine Jw (ws:=ws') (rest:=[]) H 9 10 (by rw [hlen]; rfl) rfl (by omega) (by omega) fun o orest h' H=>?_
    refine ⟨_,_,_,_,_,rfl,?_⟩
    rw [gC,gC,gC]
    refine gq H 6 rfl (fB rfl) rfl fun h hs2 H=>?_
    refine gq H 6 rfl (fB rfl) rfl fun h hs2 H=>?_
    refine gq H 6 rfl (fB rfl) rfl fun h hs2 H=>?_
    refine fz (H.cell 6 rfl (i:=0) rfl) ?_
    refine fz (H.cell 6 rfl (i:=1) rfl) ?_
    refine fU (H.cell 6 rfl (i:=2) rfl) ?_
    rw [Nk] at hrun
    refine hk 0 _ _ ws' s' [⟨o,true,gj,il ws'++orest⟩] _ _ h (.inr (.inr (.inr (.inr ⟨hm,hsz,hsh,hft,rfl,rfl,rfl,by simpa using hrun,by simpa using hlen2,hww,by simpa using hz,by simpa using hok'⟩)))) (Slot.one (by rw [iO,gu]) (by rw [fA,iO,gu])) ?_
    exact H.pick [0,1,2,11] (by decide) rfl
   ·obtain ⟨g',hg⟩:=G4 (m:=m) (base:=base) (W:=W) (R:=jR ws2 W2 X2) (dx:=dx) (dy:=dy) (jR (List.replicate (X*wds W) 0) W X,s) (X*W)
    rw [hg] at hrun
    cases hrun
  ·refine ⟨_,_,rfl,?_⟩
   refine gN (by rfl) ?_
   exact bad 63 _ _ (fun h' H'=>hk 63 0 0 [] s [] none 0 h' (.inr (.inl ⟨hm,hn,rfl,rfl,rfl,rfl,rfl⟩)) (Slot.nil _ _) H') H
 ·have H:=H.ext e5
  refine ⟨_,_,rfl,?_⟩
  refine gN (by rfl) ?_
  exact bad 62 _ [] (fun h' H'=>hk 62 0 0 [] s [] none 0 h' (.inl ⟨hm,rfl,rfl,rfl,rfl,rfl⟩) (Slot.nil _ _) H') H
end Go.Bm
namespace Go.Ar
def MD:List Nat->Nat
 | []=>0
 | x::r=>MD r*(if r.head? = some 255 then 128 else 256)+x
def rK (l:List Nat):Nat:=MD l.reverse
theorem qk (l:List Nat) (x:Nat):rK (l++[x])=rK l*(if l.getLast? = some 255 then 128 else 256)+x:=by
 unfold rK
 rw [List.reverse_append,List.reverse_singleton,List.singleton_append,MD,List.head?_reverse]
section
variable (E:List Nat)
def fE (k:Nat):Nat:=E.getD k 255
def me (k:Nat):Nat:=if k<E.length/\fE E (k-1)=255 then 7 else 8
def XE:Nat->Nat
 | 0=>fE E 0
 | k+1=>XE k*2 ^ me E (k+1)+fE E (k+1)
def BE:Nat->Nat
 | 0=>0
 | k+1=>BE k+me E (k+1)
end
theorem Ma (E:List Nat) (k:Nat):me E k<=8/\7<=me E k:=by unfold me; split <;> omega
theorem Q7 (E:List Nat) {j k:Nat} (h:j<=k):BE E j<=BE E k:=by
 induction k with
 | zero=>have:j=0:=by omega
         subst this; exact gg _
 | succ k ih =>
  rcases gI k j with h1 | h1
  ·have:j=k+1:=by omega
   subst this; exact gg _
  ·exact iL (ih h1) (vr _ _)
theorem Q6 (E:List Nat) {j k:Nat} (h:j<=k):XE E j*2 ^ BE E k<=XE E k*2 ^ BE E j:=by
 induction k with
 | zero=>have:j=0:=by omega
         subst this; exact gg _
 | succ k ih =>
  rcases gI k j with h1 | h1
  ·have:j=k+1:=by omega
   subst this; exact gg _
  ·have h2:=ih h1
   show XE E j*2 ^ (BE E k+me E (k+1))<=(XE E k*2 ^ me E (k+1)+fE E (k+1))*2 ^ BE E j
   rw [jq,<- iG,gZ]
   have h3:=gD (2 ^ me E (k+1)) h2
   have e:XE E k*2 ^ BE E j*2 ^ me E (k+1)=XE E k*2 ^ me E (k+1)*2 ^ BE E j:=lE _ _ _
   omega
theorem Ly (E:List Nat) {m:Nat} (hm:m+1=E.length):∀ d,XE E (m+d)+1=(XE E m+1)*2 ^ (8*d)/\BE E (m+d)=BE E m+8*d
 | 0=>by simp
 | d+1=>by
  obtain ⟨h1,h2⟩:=Ly E hm d
  have hl:me E (m+d+1)=8:=by unfold me; rw [if_neg (by omega)]
  have hf:fE E (m+d+1)=255:=by unfold fE; rw [fY,iq (by omega)]; rfl
  constructor
  ·show XE E (m+d)*2 ^ me E (m+d+1)+fE E (m+d+1)+1=_
   rw [hl,hf,show 8*(d+1)=8*d+8 by omega,jq,<- iG,<- h1]
   omega
  ·show BE E (m+d)+me E (m+d+1)=_
   rw [hl,h2]; omega
theorem LI (E:List Nat):∀ (p:List Nat) (x:Nat),p.length<E.length->(∀ j v,p[j]? = some v->fE E j=v)->rK (p++[x])+fE E p.length=XE E p.length+x:=by
 intro p
 have key:∀ (n:Nat) (p:List Nat) (x:Nat),p.length=n->p.length<E.length->(∀ j v,p[j]? = some v->fE E j=v)->rK (p++[x])+fE E p.length=XE E p.length+x:=by
  intro n
  induction n with
  | zero =>
   intro p x hn hl hp
   have:p=[]:=List.length_eq_zero_iff.1 hn
   subst this
   rw [qk]
   show rK []*_+x+fE E 0=fE E 0+x
   simp [rK,MD]; omega
  | succ n ih =>
   intro p x hn hl hp
   obtain ⟨q,y,rfl⟩:∃ q y,p=q++[y]:=by
    rcases List.eq_nil_or_concat p with rfl | ⟨q,y,rfl⟩
    ·simp at hn
    ·exact ⟨q,y,by simp⟩
   have hq:q.length=n:=by simp at hn; exact hn
   have hy:fE E q.length=y:=hp q.length y (by simp)
   have h1:=ih q y hq (by omega) (fun j v hv=>hp j v (by rw [gk (List.getElem?_eq_some_iff.1 hv).1]; exact hv))
   have h2:rK (q++[y])=XE E q.length:=by omega
   rw [qk,h2,hn]
   have hlen:(if (q++[y]).getLast? = some 255 then 128 else 256)=2 ^ me E (n+1):=by
    unfold me
    rw [uC,lF,<- hq,hy]
    by_cases h3:y=255
    ·rw [if_pos (by rw [h3]),if_pos ⟨by rw [hn] at hl; omega,h3⟩]
    ·rw [if_neg (by simpa using h3),if_neg (by simp [h3])]
   rw [hlen,<- hq]
   show _=XE E q.length*2 ^ me E (q.length+1)+fE E (q.length+1)+x
   omega
 exact fun x=>key p.length p x rfl
def m0 (s:Cod):Nat:=rK (s.bs++[s.l])*2 ^ (27-s.t)+s.c
structure Fut (E:List Nat) (s:Cod) (A:Nat):Prop where
 len:s.bs.length<E.length
 pre:∀ j v,s.bs[j]? = some v->fE E j=v
 last:fE E s.bs.length=s.l\/fE E s.bs.length=s.l+1/\s.l≠255
 lo:∀ k,s.bs.length<k->m0 s*2 ^ BE E k<(XE E k+1)*2 ^ (BE E s.bs.length+(27-s.t))
 hi:∀ k,XE E k*2 ^ (BE E s.bs.length+(27-s.t))<(m0 s+A)*2 ^ BE E k
theorem Fut.part {E:List Nat} {s:Cod} {A a' c' n':Nat} {st':List Nat} {d':Bool} (h:Fut E { s with a:=a',c:=c',n:=n',st:=st',done:=d' } A) {A0:Nat} (h1:s.c<=c') (h2:c'+A<=s.c+A0):Fut E s A0:=by
 have hl:m0 { s with a:=a',c:=c',n:=n',st:=st',done:=d' }=m0 s+(c'-s.c):=by
  show rK (s.bs++[s.l])*2 ^ (27-s.t)+c'=rK (s.bs++[s.l])*2 ^ (27-s.t)+s.c+(c'-s.c)
  omega
 refine ⟨h.len,h.pre,h.last,fun k hk=>?_,fun k=>?_⟩
 ·have:=h.lo k hk
  rw [hl,gZ] at this
  exact ir (vr _ _) this
 ·have:=h.hi k
  rw [hl] at this
  exact iK this (gD _ (by omega))
theorem Fut.KW {E:List Nat} {s:Cod} {A j a':Nat} (h:Fut E { s with a:=a',c:=s.c*2 ^ j,t:=s.t-j } (A*2 ^ j)) (hj:j<=s.t) (ht:s.t<=27):Fut E s A:=by
 have hl:m0 { s with a:=a',c:=s.c*2 ^ j,t:=s.t-j }=m0 s*2 ^ j:=by
  show rK (s.bs++[s.l])*2 ^ (27-(s.t-j))+s.c*2 ^ j=(rK (s.bs++[s.l])*2 ^ (27-s.t)+s.c)*2 ^ j
  rw [gZ,iG,<- jq]
  congr 3; omega
 have he:BE E s.bs.length+(27-(s.t-j))=BE E s.bs.length+(27-s.t)+j:=by omega
 have hp:0<2 ^ j:=iI j
 refine ⟨h.len,h.pre,h.last,fun k hk=>?_,fun k=>?_⟩
 ·have h1:_<(XE E k+1)*2 ^ (BE E s.bs.length+(27-(s.t-j))):=h.lo k hk
  rw [hl,he,jq _ _ j,<- iG,lE] at h1
  exact mq h1
 ·have h1:XE E k*2 ^ (BE E s.bs.length+(27-(s.t-j)))<_:=h.hi k
  rw [hl,he,jq _ _ j,<- iG,<- gZ,lE (m0 s+A)] at h1
  exact mq h1
theorem Ei (s:Cod) (l c:Nat) (hc:c<2 ^ 28) (hc2:l≠255->c<2 ^ 27):m0 (iy s l c)=rK (s.bs++[l])*2 ^ 27+c:=by
 unfold iy m0
 split
 ·rename_i h
  show rK ((s.bs++[l])++[c / 1048576 % 256])*2 ^ (27-7)+c % 1048576=_
  rw [qk,uC,if_pos (by rw [h])]
  generalize rK (s.bs++[l])=v
  omega
 ·rename_i h
  have:=hc2 h
  show rK ((s.bs++[l])++[c / 524288 % 256])*2 ^ (27-8)+c % 524288=_
  rw [qk,uC,if_neg (by simpa using h)]
  generalize rK (s.bs++[l])=v
  omega
theorem Fut.tail {E:List Nat} {s:Cod} {A l c:Nat} (h:Fut E (iy s l c) A) (hc:c<2 ^ 28) (hc2:l≠255->c<2 ^ 27) (ht:s.t=0) (hl:l=s.l/\c=s.c\/l=s.l+1/\s.l≠255/\c+2 ^ 27=s.c):Fut E s A:=by
 have hlow:m0 (iy s l c)=m0 s:=by
  rw [Ei s l c hc hc2]
  unfold m0
  rw [ht,qk,qk]
  rcases hl with ⟨rfl,rfl⟩ | ⟨rfl,_,h2⟩
  ·rfl
  ·generalize (rK s.bs*if s.bs.getLast? = some 255 then 128 else 256)=v
   omega
 have hbs:(iy s l c).bs=s.bs++[l]:=by unfold iy; split <;> rfl
 have hpre:=h.pre
 have hlen:=h.len
 rw [hbs] at hpre hlen
 have hfl:fE E s.bs.length=l:=hpre s.bs.length l (by simp)
 have hlen':s.bs.length+1<E.length:=by simpa using hlen
 have hB:BE E (s.bs.length+1)+(27-(iy s l c).t)=BE E s.bs.length+27:=by
  show BE E s.bs.length+me E (s.bs.length+1)+_=_
  have:me E (s.bs.length+1)+(27-(iy s l c).t)=27:=by
   unfold me iy
   rw [lF,hfl]
   by_cases h3:l=255
   ·simp only [if_pos h3]; rw [if_pos ⟨hlen',h3⟩]
   ·simp only [if_neg h3]; rw [if_neg (by simp [h3])]
  omega
 have hsl:(iy s l c).bs.length=s.bs.length+1:=by rw [hbs]; simp
 have hlo:=h.lo
 have hhi:=h.hi
 rw [hsl,hB,hlow] at hlo hhi
 refine ⟨by omega,fun j v hv=>hpre j v (by rw [gk (List.getElem?_eq_some_iff.1 hv).1]; exact hv),?_,fun k hk=>?_,fun k=>?_⟩
 ·rw [hfl]
  rcases hl with ⟨rfl,rfl⟩ | ⟨rfl,h1,_⟩
  ·exact .inl rfl
  ·exact .inr ⟨rfl,h1⟩
 ·rw [ht]
  rcases gI (s.bs.length+1) k with h1 | h1
  ·exact hlo k h1
  ·have hk:k=s.bs.length+1:=by omega
   subst hk
   rw [<- hlow,An,<- hB,jq,<- iG,lE]
   refine jk ?_ (iI _)
   have hX:=LI E (s.bs++[l]) (iy s l c).l (by simpa using hlen') hpre
   have hle:(iy s l c).l<=fE E (s.bs.length+1):=by
    have:=h.last
    rw [hsl] at this
    omega
   rw [fA,gJ] at hX
   have hcl:(iy s l c).c<2 ^ (27-(iy s l c).t):=by
    unfold iy
    split
    ·exact iP _ (by decide)
    ·exact iP _ (by decide)
   unfold m0
   rw [hbs]
   have h4:rK (s.bs++[l]++[(iy s l c).l])<=XE E (s.bs.length+1):=by omega
   have h5:=gD (2 ^ (27-(iy s l c).t)) h4
   rw [gZ]
   omega
 ·rw [ht]; exact hhi k
theorem Fut.out {E:List Nat} {s:Cod} {A:Nat} (h:Fut E (ni s) A) (ht:s.t=0) (hc:s.c<2 ^ 28):Fut E s A:=by
 unfold ni at h
 split at h
 ·rename_i h1
  refine h.tail (by omega) (fun _=>by omega) ht (.inr ⟨rfl,h1.1,by omega⟩)
 ·rename_i h1
  exact h.tail hc (fun h2=>by
   rcases gI s.c 134217728 with h3 | h3
   ·exact h3
   ·exact absurd ⟨h2,h3⟩ h1) ht (.inl ⟨rfl,rfl⟩)
theorem Iv (s:Cod) (t:Nat):ni { s with t:=t }=ni s:=rfl
theorem Iw (s:Cod):(ni s).c=s.c % 2 ^ (27-(ni s).t)/\((ni s).t=7\/(ni s).t=8):=by
 unfold ni iy
 split
 ·split
  ·refine ⟨?_, .inl rfl⟩; show s.c % 134217728 % 1048576=s.c % 1048576; omega
  ·refine ⟨?_, .inr rfl⟩; show s.c % 134217728 % 524288=s.c % 524288; omega
 ·split
  ·exact ⟨rfl, .inl rfl⟩
  ·exact ⟨rfl, .inr rfl⟩
theorem Fut.shift {E:List Nat} {s:Cod} {A:Nat} (h:Fut E (jK s) (2*A)) (ht:1<=s.t) (ht2:s.t<=12) (hc:s.c<2 ^ (28-s.t)):Fut E s A:=by
 have key:Fut E { s with a:=2*s.a,c:=s.c*2 ^ 1,t:=s.t-1 } (A*2 ^ 1):=by
  rw [Nat.pow_one,gS s.c 2,gS A 2]
  unfold jK at h
  simp only [] at h
  split at h
  ·rename_i h1
   have h1:s.t-1=0:=h1
   have:s.t=1:=by omega
   rw [this] at hc
   exact h.out h1 (by show 2*s.c<2 ^ 28; omega)
  ·exact h
 exact key.KW ht (by omega)
theorem Fut.renew {E:List Nat}:∀ (k:Nat) {s:Cod},Mid s->s.a<0x8000->0x8000<=s.a*2 ^ k->Fut E (iU k s) (iU k s).a->Fut E s s.a
 | 0,s,h,ha,hk,_=>by simp at hk; omega
 | k+1,s,h,ha,hk,hF=>by
  obtain ⟨h1,h2,h3,h4,h5,h6⟩:=p4 h ha
  have hc:=h.ca
  unfold iU at hF
  simp only [] at hF
  split at hF
  ·rw [h2] at hF
   exact hF.shift h.t1 h.t12 (by omega)
  ·rename_i hlt
   have hk':0x8000<=(jK s).a*2 ^ k:=by
    rw [h2]
    rw [jA] at hk
    have:s.a*(2 ^ k*2)=2*s.a*2 ^ k:=by rw [gS (2 ^ k) 2,<- iG,gS s.a 2]
    omega
   have:=Fut.renew k h1 (by omega) hk' hF
   rw [h2] at this
   exact this.shift h.t1 h.t12 (by omega)
def kv (s:Cod):List Nat:=s.bs++[s.l]
theorem Le (s:Cod):32768 ∣ jw s+1:=by
 unfold jw
 simp only []
 split <;> omega
theorem Nm {s:Cod} (hs:Wf s):Fut (kv (iE s)) s s.a:=by
 have hca:=hs.ca
 have ht1:=hs.t1
 have ht2:=hs.t12
 have hlo:=hs.lo
 have hhi:=hs.hi
 have hf1:s.c<=jw s/\jw s+1<=s.c+s.a:=by
  unfold jw
  simp only []
  split <;> omega
 have hmod:=Le s
 generalize hcf:jw s=cf at hf1 hmod
 have hF:iE s=lu (lu { s with c:=cf,done:=true }):=by unfold iE; rw [hcf]
 generalize hS0:({ s with c:=cf,done:=true }:Cod)=S0 at hF
 have hS0t:S0.t=s.t:=by rw [<- hS0]
 have hS0c:S0.c=cf:=by rw [<- hS0]
 have hS1:lu S0=ni { S0 with c:=S0.c*2 ^ S0.t,t:=S0.t-S0.t }:=(Iv { S0 with c:=S0.c*2 ^ S0.t } _).symm
 generalize hG1:lu S0=S1 at hF hS1
 have hS2:iE s=ni { S1 with c:=S1.c*2 ^ S1.t,t:=S1.t-S1.t }:=hF.trans (Iv { S1 with c:=S1.c*2 ^ S1.t } _).symm
 generalize hG2:iE s=F at hS2
 obtain ⟨hc1,ht1'⟩:=Iw { S0 with c:=S0.c*2 ^ S0.t,t:=S0.t-S0.t }
 obtain ⟨hc2,ht2'⟩:=Iw { S1 with c:=S1.c*2 ^ S1.t,t:=S1.t-S1.t }
 rw [<- hS1] at hc1 ht1'
 rw [<- hS2] at hc2 ht2'
 have hc1:S1.c=cf*2 ^ s.t % 2 ^ (27-S1.t):=by rw [hc1,<- hS0c,<- hS0t]
 have hc2:F.c=S1.c*2 ^ S1.t % 2 ^ (27-F.t):=hc2
 have hdv:2 ^ (27-F.t)<=F.c+2 ^ (s.t+S1.t):=by
  have e1:F.c=cf*2 ^ (s.t+S1.t) % 2 ^ (27-F.t):=by
   rw [hc2,hc1,<- Nat.mul_mod_mul_right,<- jq,iG,<- jq,Nat.mod_mod_of_dvd]
   exact Nat.pow_dvd_pow 2 (by omega)
  have e2:(F.c+2 ^ (s.t+S1.t)) % 2 ^ (27-F.t)=0:=by
   rw [e1,Nat.mod_add_mod,<- vT]
   refine Nat.mod_eq_zero_of_dvd (Nat.dvd_trans (Nat.pow_dvd_pow 2 (show 27-F.t<=15+(s.t+S1.t) by omega)) ?_)
   rw [jq]
   exact Nat.mul_dvd_mul_right hmod _
  have e3:=iI (s.t+S1.t)
  exact Nat.le_of_dvd (by omega) (Nat.dvd_of_mod_eq_zero e2)
 have hclt:F.c<2 ^ (27-F.t):=by rw [hc2]; exact iP _ (iI _)
 have hEl:F.bs.length+1=(kv F).length:=by simp [kv]
 have hpre:∀ j v,F.bs[j]? = some v->fE (kv F) j=v:=fun j v hj=>by
  unfold fE kv
  rw [fY,gk (List.getElem?_eq_some_iff.1 hj).1,hj]; rfl
 have hlast:fE (kv F) F.bs.length=F.l:=by
  unfold fE kv
  rw [fY]; simp
 have hX:rK (F.bs++[F.l])=XE (kv F) F.bs.length:=by
  have:=LI (kv F) F.bs F.l (by omega) hpre
  rw [hlast] at this
  omega
 have hlow:m0 F=XE (kv F) F.bs.length*2 ^ (27-F.t)+F.c:=by unfold m0; rw [hX]
 have fF:Fut (kv F) F (2 ^ (s.t+S1.t)):=by
  refine ⟨by omega,hpre, .inl hlast,fun k hk=>?_,fun k=>?_⟩
  ·obtain ⟨d,rfl⟩:∃ d,k=F.bs.length+d:=⟨k-F.bs.length,by omega⟩
   obtain ⟨h1,h2⟩:=Ly (kv F) hEl d
   rw [h1,h2,hlow,jq,jq]
   have h3:XE (kv F) F.bs.length*2 ^ (27-F.t)+F.c<(XE (kv F) F.bs.length+1)*2 ^ (27-F.t):=by rw [gZ]; omega
   have h4:=jk h3 (show 0<2 ^ BE (kv F) F.bs.length*2 ^ (8*d) from GP (iI _) (iI _))
   have e:(XE (kv F) F.bs.length+1)*2 ^ (8*d)*(2 ^ BE (kv F) F.bs.length*2 ^ (27-F.t))=(XE (kv F) F.bs.length+1)*2 ^ (27-F.t)*(2 ^ BE (kv F) F.bs.length*2 ^ (8*d)):=by
    simp only [iG,gS,Nat.mul_left_comm]
   rw [e]
   exact h4
  ·rcases gI k F.bs.length with hk | hk
   ·have h1:=Q6 (kv F) (Nat.le_of_lt hk)
    have h2:=gD (2 ^ (27-F.t)) h1
    rw [hlow,jq,<- iG]
    refine ir h2 ?_
    rw [lE]
    refine jk ?_ (iI _)
    have:=iI (s.t+S1.t)
    omega
   ·obtain ⟨d,rfl⟩:∃ d,k=F.bs.length+d:=⟨k-F.bs.length,by omega⟩
    obtain ⟨h1,h2⟩:=Ly (kv F) hEl d
    have h3:XE (kv F) (F.bs.length+d)<(XE (kv F) F.bs.length+1)*2 ^ (8*d):=by omega
    rw [h2,hlow]
    have h4:=jk h3 (iI (BE (kv F) F.bs.length+(27-F.t)))
    refine iK h4 ?_
    have h5:(XE (kv F) F.bs.length+1)*2 ^ (27-F.t)<=XE (kv F) F.bs.length*2 ^ (27-F.t)+F.c+2 ^ (s.t+S1.t):=by rw [gZ]; omega
    have h6:=gD (2 ^ (BE (kv F) F.bs.length+8*d)) h5
    refine iL (Nat.le_of_eq ?_) h6
    rw [jq,jq]
    simp only [iG,gS,Nat.mul_left_comm]
 generalize kv F=E at fF ⊢
 rw [hS2] at fF
 have hp1:(2:Nat) ^ (27-S1.t)*2 ^ S1.t=2 ^ 27:=by rw [<- jq]; congr 1; omega
 have hc1lt:S1.c<2 ^ (27-S1.t):=by rw [hc1]; exact iP _ (iI _)
 have f1:=fF.out (iH _) (by
  show S1.c*2 ^ S1.t<2 ^ 28
  have:=jk hc1lt (iI S1.t)
  omega)
 rw [jq] at f1
 have f2:Fut E S1 (2 ^ s.t):=f1.KW (a':=S1.a) (gg _) (by omega)
 rw [hS1] at f2
 have f3:=f2.out (iH _) (by
  show S0.c*2 ^ S0.t<2 ^ 28
  rw [hS0c,hS0t]
  have h1:cf<2 ^ (28-s.t):=by omega
  have h2:=jk h1 (iI s.t)
  have h3:(2:Nat) ^ (28-s.t)*2 ^ s.t=2 ^ 28:=by rw [<- jq]; congr 1; omega
  omega)
 rw [<- hS0t] at f3
 have f3':Fut E { S0 with c:=S0.c*2 ^ S0.t,t:=S0.t-S0.t } (1*2 ^ S0.t):=by rw [kn]; exact f3
 have f4:Fut E S0 1:=f3'.KW (a':=S0.a) (gg _) (by omega)
 rw [<- hS0] at f4
 exact Fut.part (s:=s) (a':=s.a) (n':=s.n) (st':=s.st) f4 hf1.1 hf1.2
structure Pos (E:List Nat) (d:Dec) (k:Nat):Prop where
 by_:∀ j,jU d j=fE E (j+1)
 at_:k=d.i+1\/d.i+1<=k/\E.length<=d.i+2/\fE E (d.i+1)=255
def AL (E:List Nat):Prop:=∀ j,fE E j=255->j+1<E.length->fE E (j+1)<=143
theorem IN (E:List Nat) {k:Nat} (h:E.length<=k):fE E k=255:=by unfold fE; rw [fY,iq h]; rfl
theorem Md {E:List Nat} {d:Dec} {k:Nat} (hE:AL E) (h:Pos E d k) :
  Pos E (inD d) (k+1)/\(inD d).t=me E (k+1)/\(inD d).c=(d.c+fE E (k+1)*2 ^ (16-me E (k+1))) % M32:=by
 have hb0:=h.by_ d.i
 have hb1:=h.by_ (d.i+1)
 have hb:∀ d':Dec,d'.b=d.b->∀ j,jU d' j=fE E (j+1):=fun d' e j=>by rw [<- h.by_ j]; unfold jU; rw [e]
 unfold inD
 split
 ·rename_i h1
  rw [hb0] at h1
  have hlt:d.i+1<E.length:=by
   rcases gI (d.i+1) E.length with h2 | h2
   ·exact h2
   ·exact absurd (IN E h2) h1
  have hk:k=d.i+1:=by
   rcases h.at_ with h2 | ⟨_,h2,h3⟩
   ·exact h2
   ·exact absurd h3 h1
  have hl:me E (k+1)=8:=by
   unfold me
   rw [lF,if_neg]
   rintro ⟨_,h3⟩
   rw [hk] at h3
   exact h1 h3
  refine ⟨⟨hb _ rfl, .inl (by rw [hk])⟩,by rw [hl],?_⟩
  rw [hb1,hl,hk]
 ·rename_i h1
  rw [hb0] at h1
  have h1:fE E (d.i+1)=255:=by simpa using h1
  split
  ·rename_i h2
   rw [hb1] at h2
   have hge:E.length<=d.i+2:=by
    rcases gI (d.i+1+1) E.length with h3 | h3
    ·have:=hE _ h1 h3; omega
    ·exact h3
   have hkge:d.i+1<=k:=by rcases h.at_ with h3 | ⟨h3,_⟩ <;> omega
   have hl:me E (k+1)=8:=by unfold me; rw [if_neg (by omega)]
   have hf:fE E (k+1)=255:=IN E (by omega)
   exact ⟨⟨hb _ rfl, .inr ⟨by show d.i+1<=k+1; omega,hge,h1⟩⟩,by rw [hl],by rw [hl,hf]⟩
  ·rename_i h2
   rw [hb1] at h2
   have hlt:d.i+2<E.length:=by
    rcases gI (d.i+2) E.length with h3 | h3
    ·exact h3
    ·have:=IN E h3
     rw [show d.i+1+1=d.i+2 from rfl] at h2
     omega
   have hk:k=d.i+1:=by
    rcases h.at_ with h3 | ⟨_,h3,_⟩
    ·exact h3
    ·omega
   have hl:me E (k+1)=7:=by
    unfold me
    rw [lF,if_pos ⟨by omega,by rw [hk]; exact h1⟩]
   refine ⟨⟨hb _ rfl, .inl (by rw [hk])⟩,by rw [hl],?_⟩
   rw [hb1,hl,hk]
structure Num (E:List Nat) (s:Cod) (d:Dec) (k:Nat):Prop extends Pos E d k where
 pos:BE E k=BE E s.bs.length+(27-s.t)+d.t
 num:d.c+m0 s*65536=XE E k*2 ^ (16-d.t)
structure Sync (E:List Nat) (s:Cod) (d:Dec):Prop where
 a:d.a=s.a
 st:d.st=s.st
 n:d.n=s.n
 num:∃ k,Num E s d k
section
variable {E:List Nat} {s:Cod} {d:Dec} {k A t:Nat}
theorem Gt (x:Nat) (h:t<=16):x*2 ^ (16-t)*2 ^ t=x*65536:=by
 rw [iG,<- jq]
 congr 1
 have:16-t+t=16:=by omega
 rw [this]
theorem Fut.lt (h:Fut E s A) (hp:BE E k=BE E s.bs.length+(27-s.t)+t) (ht:t<=16):XE E k*2 ^ (16-t)<(m0 s+A)*65536:=by
 have h1:=h.hi k
 rw [hp,jq _ _ t,<- iG,lE (m0 s+A)] at h1
 have h2:XE E k<(m0 s+A)*2 ^ t:=mq h1
 refine mq (a:=2 ^ t) ?_
 rw [Gt _ ht,lE]
 exact jk h2 (by decide)
theorem Fut.ge (h:Fut E s A) (hp:BE E k=BE E s.bs.length+(27-s.t)+t) (ht:t<=16) (hk:s.bs.length<k):m0 s*65536<=XE E k*2 ^ (16-t):=by
 have h1:=h.lo k hk
 rw [hp,jq _ _ t,<- iG,lE] at h1
 have h2:m0 s*2 ^ t<XE E k+1:=mq h1
 refine Nat.le_of_mul_le_mul_right (c:=2 ^ t) ?_ (iI t)
 rw [Gt _ ht,lE]
 exact gD _ (by omega)
theorem ahead (hp:BE E k=BE E s.bs.length+(27-s.t)+t) (ht:s.t<=12):s.bs.length<k:=by
 rcases gI s.bs.length k with h1 | h1
 ·exact h1
 ·have:=Q7 E h1; omega
theorem KH (h:Fut E (jK s) A) (ht1:1<=s.t) (ht2:s.t<=12) (hc:s.c<2 ^ (28-s.t)):m0 (jK s)=2*m0 s/\BE E (jK s).bs.length+(27-(jK s).t)=BE E s.bs.length+(27-s.t)+1:=by
 have e0:m0 { s with a:=2*s.a,c:=2*s.c,t:=s.t-1 }=2*m0 s:=by
  show rK (s.bs++[s.l])*2 ^ (27-(s.t-1))+2*s.c=2*(rK (s.bs++[s.l])*2 ^ (27-s.t)+s.c)
  rw [show 27-(s.t-1)=(27-s.t)+1 by omega,jA,<- iG]
  omega
 unfold jK at h ⊢
 simp only [] at h ⊢
 split
 ·rename_i h1
  rw [if_pos h1] at h
  have h1:s.t-1=0:=h1
  have ht:s.t=1:=by omega
  rw [ht] at hc
  have tail:∀ {l c:Nat},Fut E (iy { s with a:=2*s.a,c:=2*s.c,t:=s.t-1 } l c) A->c<2 ^ 28->(l≠255->c<2 ^ 27)->(l=s.l/\c=2*s.c\/l=s.l+1/\s.l≠255/\c+2 ^ 27=2*s.c) ->
    m0 (iy { s with a:=2*s.a,c:=2*s.c,t:=s.t-1 } l c)=2*m0 s/\BE E (iy { s with a:=2*s.a,c:=2*s.c,t:=s.t-1 } l c).bs.length+(27-(iy { s with a:=2*s.a,c:=2*s.c,t:=s.t-1 } l c).t)=BE E s.bs.length+(27-s.t)+1:=by
   intro l c hF hc hc2 hl
   constructor
   ·rw [Ei _ l c hc hc2,<- e0]
    unfold m0
    show rK (s.bs++[l])*2 ^ 27+c=rK (s.bs++[s.l])*2 ^ (27-(s.t-1))+2*s.c
    rw [h1,qk,qk]
    rcases hl with ⟨rfl,rfl⟩ | ⟨rfl,_,h2⟩
    ·rfl
    ·generalize (rK s.bs*if s.bs.getLast? = some 255 then 128 else 256)=v
     omega
   ·have hbs:(iy { s with a:=2*s.a,c:=2*s.c,t:=s.t-1 } l c).bs=s.bs++[l]:=by unfold iy; split <;> rfl
    have hpre:=hF.pre
    have hlen:=hF.len
    rw [hbs] at hpre hlen
    have hfl:fE E s.bs.length=l:=hpre s.bs.length l (by simp)
    have hlen':s.bs.length+1<E.length:=by simpa using hlen
    rw [hbs,fA,gJ]
    show BE E s.bs.length+me E (s.bs.length+1)+_=_
    have:me E (s.bs.length+1)+(27-(iy { s with a:=2*s.a,c:=2*s.c,t:=s.t-1 } l c).t)=27:=by
     unfold me iy
     rw [lF,hfl]
     by_cases h3:l=255
     ·simp only [if_pos h3]; rw [if_pos ⟨hlen',h3⟩]
     ·simp only [if_neg h3]; rw [if_neg (by simp [h3])]
    omega
  unfold ni at h ⊢
  split
  ·rename_i h2
   rw [if_pos h2] at h
   exact tail h (by show 2*s.c % 134217728<_; omega) (fun _=>by show 2*s.c % 134217728<_; omega) (.inr ⟨rfl,h2.1,by
    have:134217728<=2*s.c:=h2.2
    show 2*s.c % 134217728+_=_
    omega⟩)
  ·rename_i h2
   rw [if_neg h2] at h
   exact tail h (by show 2*s.c<_; omega) (fun h3=>by
    rcases gI (2*s.c) 134217728 with h4 | h4
    ·exact h4
    ·exact absurd ⟨h3,h4⟩ h2) (.inl ⟨rfl,rfl⟩)
 ·exact ⟨e0,by show BE E s.bs.length+(27-(s.t-1))=_; omega⟩
theorem Fi (hE:AL E) (hm:Mid s) (hd:MidD d) (S:Sync E s d) (ha:s.a<0x8000) (F:Fut E (jK s) (jK s).a):Sync E (jK s) (mI d):=by
 obtain ⟨hm1,hma,hmn,hmst,_,_⟩:=p4 hm ha
 have hc:=hm.ca
 rw [hma] at F
 have hF:Fut E s s.a:=F.shift hm.t1 hm.t12 (by omega)
 obtain ⟨p1,p2⟩:=KH F hm.t1 hm.t12 (by omega)
 obtain ⟨k,hN⟩:=S.num
 have key:∃ (k:Nat) (d1:Dec),(if d.t=0 then inD d else d)=d1/\Num E s d1 k/\1<=d1.t/\d1.t<=8/\d1.a=d.a/\d1.st=d.st/\d1.n=d.n:=by
  by_cases h0:d.t=0
  ·obtain ⟨q1,q2,q3⟩:=Md hE hN.toPos
   obtain ⟨i1,i2,i3,i4,i5,i6⟩:=AF hd
   obtain ⟨l1,l2⟩:=Ma E (k+1)
   rw [if_pos h0]
   have hpos:BE E (k+1)=BE E s.bs.length+(27-s.t)+me E (k+1):=by
    have:=hN.pos
    show BE E k+me E (k+1)=_
    omega
   have hlt:=hF.lt hpos (by omega)
   have e1:XE E (k+1)*2 ^ (16-me E (k+1))=XE E k*65536+fE E (k+1)*2 ^ (16-me E (k+1)):=by
    show (XE E k*2 ^ me E (k+1)+fE E (k+1))*_=_
    rw [gZ,<- Gt (t:=me E (k+1)) (XE E k) (by omega),lE]
   have e2:=hN.num
   rw [h0,An] at e2
   have hcl:(inD d).c+m0 s*65536=XE E (k+1)*2 ^ (16-me E (k+1)):=by
    rw [q3,jC]
    ·omega
    ·show _<4294967296
     rw [gZ] at hlt
     have e3:XE E k*2 ^ 16=XE E k*65536:=rfl
     omega
   exact ⟨k+1,_,rfl,⟨q1,by rw [q2]; exact hpos,by rw [q2]; exact hcl⟩,by omega,by omega,i2,i4,i3⟩
  ·rw [if_neg h0]
   exact ⟨k,d,rfl,hN,by omega,hd.t8,rfl,rfl,rfl⟩
 obtain ⟨k1,d1,hd1,hN1,t1,t8,ea,est,en⟩:=key
 have hlt:=hF.lt hN1.pos (by omega)
 rw [<- hN1.num] at hlt
 rw [gZ] at hlt
 have hsd:mI d = { d1 with a:=2*d1.a,c:=2*d1.c % M32,t:=d1.t-1 }:=by rw [<- hd1]; rfl
 rw [hsd]
 have hc2:2*d1.c % M32=2*d1.c:=jC (by show 2*d1.c<4294967296; omega)
 rw [hc2]
 refine ⟨by show 2*d1.a=_; rw [hma,ea,S.a],by show d1.st=_; rw [hmst,est,S.st],by show d1.n=_; rw [hmn,en,S.n],k1,⟨⟨hN1.by_,hN1.at_⟩,?_,?_⟩⟩
 ·show BE E k1=_+(d1.t-1)
  have:=hN1.pos
  omega
 ·show 2*d1.c+m0 (jK s)*65536=XE E k1*2 ^ (16-(d1.t-1))
  have:=hN1.num
  rw [p1,show 16-(d1.t-1)=(16-d1.t)+1 by omega,jA,<- iG]
  omega
end
theorem Bx {E:List Nat} (hE:AL E):∀ (k:Nat) {s:Cod} {d:Dec},Mid s->MidD d->Sync E s d->s.a<0x8000->0x8000<=s.a*2 ^ k->Fut E (iU k s) (iU k s).a->Sync E (iU k s) (jT k d)
 | 0,s,d,h,_,_,ha,hk,_=>by simp at hk; omega
 | k+1,s,d,h,hd,S,ha,hk,hF=>by
  obtain ⟨h1,h2,h3,h4,h5,h6⟩:=p4 h ha
  obtain ⟨g1,g2,g3,g4,g5⟩:=BA hd
  have ea:(mI d).a=(jK s).a:=by rw [g2,h2,S.a]
  unfold iU at hF ⊢
  unfold jT
  simp only [] at hF ⊢
  rw [ea]
  by_cases hge:0x8000<=(jK s).a
  ·rw [if_pos hge] at hF ⊢
   rw [if_pos hge]
   exact Fi hE h hd S ha hF
  ·rw [if_neg hge] at hF ⊢
   rw [if_neg hge]
   have hk':0x8000<=(jK s).a*2 ^ k:=by
    rw [h2]
    rw [jA] at hk
    have:s.a*(2 ^ k*2)=2*s.a*2 ^ k:=by rw [gS (2 ^ k) 2,<- iG,gS s.a 2]
    omega
   exact Bx hE k h1 g1 (Fi hE h hd S ha (Fut.renew k h1 (by omega) hk' hF)) (by omega) hk' hF
theorem Je {E:List Nat} (hE:AL E) {s:Cod} {d:Dec} (hs:Wf s) (hd:WfD d) (S:Sync E s d) {k bit:Nat} (hb:bit<=1) (hF:Fut E (oo s k bit) (oo s k bit).a) :
  Sync E (oo s k bit) (getD d k).1/\(getD d k).2=bit/\Fut E s s.a:=by
 have hx:=CF hs.st k
 have hr:s.st.getD k 0 / 2<47:=by omega
 have hq1:=vH hr
 have hq2:=zs hr
 have hM:=pa hs.st (k:=k) (zd hx)
 have hL:=pa hs.st (k:=k) (ze hx)
 have hlo:=hs.lo
 have hhi:=hs.hi
 have hca:=hs.ca
 have ht1:=hs.t1
 have ht2:=hs.t12
 have hdc:=hd.c
 have h17:(2:Nat) ^ 17=131072:=rfl
 obtain ⟨kk,hN⟩:=S.num
 have hdt:=hd.t8
 have up:∀ {a' n':Nat} {st':List Nat},Fut E { s with a:=a',c:=s.c+qOf (s.st.getD k 0 / 2),n:=n',st:=st' } (s.a-qOf (s.st.getD k 0 / 2))->¬ d.c / 65536<qOf (s.st.getD k 0 / 2)/\Fut E s s.a:=by
  intro a' n' st' h
  have hl:m0 { s with a:=a',c:=s.c+qOf (s.st.getD k 0 / 2),n:=n',st:=st' }=m0 s+qOf (s.st.getD k 0 / 2):=(tZ _ _ _).symm
  have h1:=h.ge (k:=kk) (t:=d.t) hN.pos (by omega) (ahead (s:=s) hN.pos ht2)
  rw [hl,<- hN.num,gZ] at h1
  refine ⟨by omega,Fut.part (s:=s) (d':=s.done) h (by omega) (by omega)⟩
 have lw:∀ {a' n':Nat} {st':List Nat},Fut E { s with a:=a',n:=n',st:=st' } (qOf (s.st.getD k 0 / 2))->d.c / 65536<qOf (s.st.getD k 0 / 2)/\Fut E s s.a:=by
  intro a' n' st' h
  have h1:=h.lt (k:=kk) (t:=d.t) hN.pos (by omega)
  rw [<- hN.num] at h1
  have hl:m0 { s with a:=a',n:=n',st:=st' }=m0 s:=rfl
  rw [hl,gZ] at h1
  refine ⟨by omega,Fut.part (s:=s) (c':=s.c) (d':=s.done) h (by omega) (by omega)⟩
 have hbit:s.st.getD k 0 % 2<2:=iP _ (by omega)
 have nup:¬ d.c / 65536<qOf (s.st.getD k 0 / 2)->∀ {a' n':Nat} {st':List Nat},Sync E { s with a:=a',c:=s.c+qOf (s.st.getD k 0 / 2),n:=n',st:=st' } { d with a:=a',c:=d.c-qOf (s.st.getD k 0 / 2)*65536,n:=n',st:=st' }:=by
  intro h a' n' st'
  refine ⟨rfl,rfl,rfl,kk,⟨hN.by_,hN.at_⟩,hN.pos,?_⟩
  have:=hN.num
  have hl:m0 { s with a:=a',c:=s.c+qOf (s.st.getD k 0 / 2),n:=n',st:=st' }=m0 s+qOf (s.st.getD k 0 / 2):=(tZ _ _ _).symm
  show d.c-qOf (s.st.getD k 0 / 2)*65536+m0 { s with a:=a',c:=s.c+qOf (s.st.getD k 0 / 2),n:=n',st:=st' }*65536=XE E kk*2 ^ (16-d.t)
  rw [hl,gZ]
  omega
 have nlw:∀ {a' n':Nat} {st':List Nat},Sync E { s with a:=a',n:=n',st:=st' } { d with a:=a',n:=n',st:=st' }:=by
  intro a' n' st'
  exact ⟨rfl,rfl,rfl,kk,⟨hN.by_,hN.at_⟩,hN.pos,hN.num⟩
 have hget:getD d k=(if d.c / 65536<qOf (s.st.getD k 0 / 2) then
  if s.a-qOf (s.st.getD k 0 / 2)<qOf (s.st.getD k 0 / 2) then (jT 17 { d with a:=qOf (s.st.getD k 0 / 2),n:=s.n+1,st:=s.st.set k (upM (s.st.getD k 0)) },s.st.getD k 0 % 2)
  else (jT 17 { d with a:=qOf (s.st.getD k 0 / 2),n:=s.n+1,st:=s.st.set k (upL (s.st.getD k 0)) },1-s.st.getD k 0 % 2)
 else
  if 0x8000<=s.a-qOf (s.st.getD k 0 / 2) then ({ d with a:=s.a-qOf (s.st.getD k 0 / 2),c:=d.c-qOf (s.st.getD k 0 / 2)*65536,n:=s.n+1,st:=s.st },s.st.getD k 0 % 2)
  else if s.a-qOf (s.st.getD k 0 / 2)<qOf (s.st.getD k 0 / 2) then (jT 17 { d with a:=s.a-qOf (s.st.getD k 0 / 2),c:=d.c-qOf (s.st.getD k 0 / 2)*65536,n:=s.n+1,st:=s.st.set k (upL (s.st.getD k 0)) },1-s.st.getD k 0 % 2)
  else (jT 17 { d with a:=s.a-qOf (s.st.getD k 0 / 2),c:=d.c-qOf (s.st.getD k 0 / 2)*65536,n:=s.n+1,st:=s.st.set k (upM (s.st.getD k 0)) },s.st.getD k 0 % 2)):=by
  have e1:=S.a
  have e2:=S.st
  have e3:=S.n
  obtain ⟨da,dc,dt,dn,dst,db,di⟩:=d
  simp only at e1 e2 e3
  subst e1 e2 e3
  rfl
 have hdm:∀ {a' c' n':Nat} {st':List Nat},c'<=d.c->(∀ x∈st',x<94)->MidD { d with a:=a',c:=c',n:=n',st:=st' }:=fun hc hst=>⟨hd.t8,ir hc hdc,hd.b,hst,hd.i⟩
 rw [hget]
 unfold oo at hF ⊢
 simp only [] at hF ⊢
 generalize s.st.getD k 0=x at *
 generalize qOf (x / 2)=q at *
 have mlw:∀ {n':Nat} {st':List Nat},(∀ x∈st',x<94)->Mid { s with a:=q,n:=n',st:=st' }:=fun hst=>⟨ht1,ht2,by show s.c+q<2 ^ (28-s.t); omega,hs.l,hs.bs,hst⟩
 have mup:∀ {n':Nat} {st':List Nat},(∀ x∈st',x<94)->Mid { s with a:=s.a-q,c:=s.c+q,n:=n',st:=st' }:=fun hst=>⟨ht1,ht2,by show s.c+q+(s.a-q)<2 ^ (28-s.t); omega,hs.l,hs.bs,hst⟩
 have flw:∀ {n':Nat} {st':List Nat},(∀ x∈st',x<94)->Fut E (iU 17 { s with a:=q,n:=n',st:=st' }) (iU 17 { s with a:=q,n:=n',st:=st' }).a ->
   d.c / 65536<q/\Fut E s s.a/\Sync E (iU 17 { s with a:=q,n:=n',st:=st' }) (jT 17 { d with a:=q,n:=n',st:=st' }):=by
  intro n' st' hst h
  have h0:=Fut.renew 17 (mlw (n':=n') hst) (by show q<_; omega) (by show _<=q*_; omega) h
  obtain ⟨h1,h2⟩:=lw h0
  exact ⟨h1,h2,Bx hE 17 (mlw hst) (hdm (gg _) hst) nlw (by show q<_; omega) (by show _<=q*_; omega) h⟩
 have fup:∀ {n':Nat} {st':List Nat},s.a-q<0x8000->1<=s.a-q->(∀ x∈st',x<94)->Fut E (iU 17 { s with a:=s.a-q,c:=s.c+q,n:=n',st:=st' }) (iU 17 { s with a:=s.a-q,c:=s.c+q,n:=n',st:=st' }).a ->
   ¬ d.c / 65536<q/\Fut E s s.a/\Sync E (iU 17 { s with a:=s.a-q,c:=s.c+q,n:=n',st:=st' }) (jT 17 { d with a:=s.a-q,c:=d.c-q*65536,n:=n',st:=st' }):=by
  intro n' st' h3 h4 hst h
  have h0:=Fut.renew 17 (mup (n':=n') hst) h3 (by show _<=(s.a-q)*_; omega) h
  obtain ⟨h1,h2⟩:=up h0
  exact ⟨h1,h2,Bx hE 17 (mup hst) (hdm (Nat.sub_le _ _) hst) (nup h1) h3 (by show _<=(s.a-q)*_; omega) h⟩
 by_cases hbx:bit=x % 2
 ·rw [if_pos hbx] at hF ⊢
  by_cases h8:0x8000<=s.a-q
  ·rw [if_pos h8] at hF ⊢
   obtain ⟨h1,h2⟩:=up (a':=s.a-q) (n':=s.n+1) (st':=s.st) hF
   rw [if_neg h1,if_pos h8]
   exact ⟨nup h1,hbx.symm,h2⟩
  ·rw [if_neg h8] at hF ⊢
   by_cases hq:s.a-q<q
   ·rw [if_pos hq] at hF ⊢
    obtain ⟨h1,h2,h3⟩:=flw hM hF
    rw [if_pos h1,if_pos hq]
    exact ⟨h3,hbx.symm,h2⟩
   ·rw [if_neg hq] at hF ⊢
    obtain ⟨h1,h2,h3⟩:=fup (by omega) (by omega) hM hF
    rw [if_neg h1,if_neg h8,if_neg hq]
    exact ⟨h3,hbx.symm,h2⟩
 ·rw [if_neg hbx] at hF ⊢
  by_cases hq:s.a-q<q
  ·rw [if_pos hq] at hF ⊢
   obtain ⟨h1,h2,h3⟩:=fup (by omega) (by omega) hL hF
   rw [if_neg h1,if_neg (by omega),if_pos hq]
   exact ⟨h3,by show 1-x % 2=bit; omega,h2⟩
  ·rw [if_neg hq] at hF ⊢
   obtain ⟨h1,h2,h3⟩:=flw hL hF
   rw [if_pos h1,if_neg hq]
   exact ⟨h3,by show 1-x % 2=bit; omega,h2⟩
structure Stf0 (s:Cod) (A:Nat):Prop where
 bs:∀ j,s.bs[j]? = some 255->∀ y,s.bs[j+1]? = some y->y<=143
 last:s.bs.getLast? = some 255->s.l*2 ^ (27-s.t)+s.c+A<=144*2 ^ (27-s.t)
structure Stf (s:Cod) (A:Nat):Prop extends Stf0 s A where
 ff:s.l=255->s.t<=8/\s.c+A<=589824*2 ^ (8-s.t)
section
variable {s:Cod} {A:Nat}
theorem Stf.part (h:Stf s A) {A' a' c' n':Nat} {st':List Nat} {d':Bool} (hc:c'+A'<=s.c+A):Stf { s with a:=a',c:=c',n:=n',st:=st',done:=d' } A':=by
 refine ⟨⟨h.bs,fun hl=>?_⟩,fun hl=>?_⟩
 ·have:=h.last hl
  show s.l*2 ^ (27-s.t)+c'+A'<=144*2 ^ (27-s.t)
  omega
 ·have:=h.ff hl
  exact ⟨this.1,iL hc this.2⟩
theorem Stf.KW (h:Stf s A) {j a':Nat} (hj:j<=s.t) (ht:s.t<=27):Stf { s with a:=a',c:=s.c*2 ^ j,t:=s.t-j } (A*2 ^ j):=by
 refine ⟨⟨h.bs,fun hl=>?_⟩,fun hl=>?_⟩
 ·have h1:=gD (2 ^ j) (h.last hl)
  show s.l*2 ^ (27-(s.t-j))+s.c*2 ^ j+A*2 ^ j<=144*2 ^ (27-(s.t-j))
  have e:27-(s.t-j)=27-s.t+j:=by omega
  rw [e,jq,<- iG,<- iG]
  rw [gZ,gZ] at h1
  exact h1
 ·obtain ⟨h1,h2⟩:=h.ff hl
  have h3:=gD (2 ^ j) h2
  refine ⟨by show s.t-j<=8; omega,?_⟩
  show s.c*2 ^ j+A*2 ^ j<=589824*2 ^ (8-(s.t-j))
  have e:8-(s.t-j)=8-s.t+j:=by omega
  rw [e,jq,<- iG,<- gZ]
  exact h3
theorem Stf.out (h:Stf s A) (ht:s.t=0) (hc:s.c+A<=2 ^ 28) (hA:1<=A):Stf0 (ni s) A/\(A<=65536->Stf (ni s) A):=by
 have key:∀ l c,(l=s.l/\c=s.c/\(l≠255->c<2 ^ 27)\/l=s.l+1/\s.l≠255/\c+2 ^ 27=s.c)->Stf0 (iy s l c) A/\(A<=65536->Stf (iy s l c) A):=by
  intro l c hl
  have hbs:(iy s l c).bs=s.bs++[l]:=by unfold iy; split <;> rfl
  have hchain:∀ j,(s.bs++[l])[j]? = some 255->∀ y,(s.bs++[l])[j+1]? = some y->y<=143:=by
   intro j hj y hy
   have hlt:=(List.getElem?_eq_some_iff.1 hy).1
   rw [fA,gJ] at hlt
   rw [gk (by omega)] at hj
   rcases gI (j+1) s.bs.length with h1 | h1
   ·rw [gk h1] at hy
    exact h.bs j hj y hy
   ·have e:j+1=s.bs.length:=by omega
    rw [e] at hy
    simp at hy
    subst hy
    have hg:s.bs.getLast? = some 255:=by rw [List.getLast?_eq_getElem?,<- e,lF]; exact hj
    have:=h.last hg
    rw [ht] at this
    omega
  have hlast:(s.bs++[l]).getLast? = some 255->l=255/\c+A<=144*2 ^ 20:=by
   intro hg
   rw [uC] at hg
   have hl2:l=255:=ig hg
   refine ⟨hl2,?_⟩
   rcases hl with ⟨h1,h2,_⟩ | ⟨h1,h2,h3⟩
   ·have:=(h.ff (by omega)).2
    rw [ht] at this
    omega
   ·omega
  have hclt:c<2 ^ 28:=by omega
  have h0:Stf0 (iy s l c) A:=by
   refine ⟨by rw [hbs]; exact hchain,fun hg=>?_⟩
   rw [hbs] at hg
   obtain ⟨h1,h2⟩:=hlast hg
   unfold iy
   rw [if_pos h1]
   show c / 1048576 % 256*2 ^ 20+c % 1048576+A<=144*2 ^ 20
   omega
  refine ⟨h0,fun hA2=>⟨h0,fun hl2=>?_⟩⟩
  by_cases h3:l=255
  ·have:=h0.last (by rw [hbs,uC,h3])
   rw [hl2] at this
   omega
  ·unfold iy
   rw [if_neg h3]
   refine ⟨gg _,?_⟩
   show c % 524288+A<=589824
   omega
 unfold ni
 split
 ·rename_i h1
  exact key _ _ (.inr ⟨rfl,h1.1,by omega⟩)
 ·rename_i h1
  exact key _ _ (.inl ⟨rfl,rfl,fun h2=>by
   rcases gI s.c 134217728 with h3 | h3
   ·exact h3
   ·exact absurd ⟨h2,h3⟩ h1⟩)
theorem G2 (h:Stf s s.a) (hm:Mid s) (ha:s.a<0x8000) (ha1:1<=s.a):Stf (jK s) (jK s).a:=by
 have ht1:=hm.t1
 have ht2:=hm.t12
 have hca:=hm.ca
 have h1:=h.KW (j:=1) (a':=2*s.a) ht1 (by omega)
 rw [Nat.pow_one,gS s.c 2,gS s.a 2] at h1
 unfold jK
 simp only []
 split
 ·rename_i h0
  have h0:s.t-1=0:=h0
  have ht:s.t=1:=by omega
  rw [ht] at hca
  rw [(wW _).1]
  exact (h1.out h0 (by show 2*s.c+2*s.a<=_; omega) (by omega)).2 (by omega)
 ·exact h1
theorem Dk:∀ (k:Nat) {s:Cod},Stf s s.a->Mid s->s.a<0x8000->1<=s.a->Stf (iU k s) (iU k s).a
 | 0,s,h,_,_,_=>h
 | k+1,s,h,hm,ha,ha1=>by
  obtain ⟨g1,g2,_⟩:=p4 hm ha
  unfold iU
  simp only []
  split
  ·exact G2 h hm ha ha1
  ·exact Dk k (G2 h hm ha ha1) g1 (by omega) (by omega)
theorem Qd (h:Stf s s.a) (hs:Wf s) (k bit:Nat):Stf (oo s k bit) (oo s k bit).a:=by
 have hx:=CF hs.st k
 have hr:s.st.getD k 0 / 2<47:=by omega
 have hq1:=vH hr
 have hq2:=zs hr
 have hM:=pa hs.st (k:=k) (zd hx)
 have hL:=pa hs.st (k:=k) (ze hx)
 have hlo:=hs.lo
 have hhi:=hs.hi
 have hca:=hs.ca
 unfold oo
 simp only []
 generalize s.st.getD k 0=x at *
 generalize qOf (x / 2)=q at *
 have lw:∀ {n':Nat} {st':List Nat},(∀ x∈st',x<94)->Stf (iU 17 { s with a:=q,n:=n',st:=st' }) (iU 17 { s with a:=q,n:=n',st:=st' }).a:=fun {n' st'} hst =>
  Dk 17 (h.part (c':=s.c) (A':=q) (d':=s.done) (by omega)) ⟨hs.t1,hs.t12,by show s.c+q<2 ^ (28-s.t); omega,hs.l,hs.bs,hst⟩ (by show q<_; omega) hq1
 have up:∀ {n':Nat} {st':List Nat},s.a-q<0x8000->1<=s.a-q->(∀ x∈st',x<94)->Stf (iU 17 { s with a:=s.a-q,c:=s.c+q,n:=n',st:=st' }) (iU 17 { s with a:=s.a-q,c:=s.c+q,n:=n',st:=st' }).a:=fun {n' st'} h1 h2 hst =>
  Dk 17 (h.part (c':=s.c+q) (A':=s.a-q) (d':=s.done) (by omega)) ⟨hs.t1,hs.t12,by show s.c+q+(s.a-q)<2 ^ (28-s.t); omega,hs.l,hs.bs,hst⟩ h1 h2
 split
 ·split
  ·exact h.part (a':=s.a-q) (c':=s.c+q) (A':=s.a-q) (n':=s.n+1) (st':=s.st) (d':=s.done) (by omega)
  ·split
   ·exact lw hM
   ·exact up (by omega) (by omega) hM
 ·split
  ·exact up (by omega) (by omega) hL
  ·exact lw hL
theorem Qe (m:Nat):Stf (gE m) (gE m).a:=⟨⟨fun j hj=>by simp [gE] at hj,fun hl=>by simp [gE] at hl⟩,fun hl=>by simp [gE] at hl⟩
theorem Dl (h:Stf s s.a) (hs:Wf s):Stf0 (iE s) 1:=by
 have hca:=hs.ca
 have ht1:=hs.t1
 have ht2:=hs.t12
 have hlo:=hs.lo
 have hf1:s.c<=jw s/\jw s+1<=s.c+s.a:=by
  unfold jw
  simp only []
  split <;> omega
 have h0:Stf { s with c:=jw s,done:=true } 1:=h.part (a':=s.a) (n':=s.n) (st':=s.st) (by omega)
 have hS:iE s=lu (lu { s with c:=jw s,done:=true }):=rfl
 rw [hS]
 generalize hS0:({ s with c:=jw s,done:=true }:Cod)=S0 at h0
 have hS0t:S0.t=s.t:=by rw [<- hS0]
 have hS0c:S0.c=jw s:=by rw [<- hS0]
 have h1:=h0.KW (j:=S0.t) (a':=S0.a) (gg _) (by omega)
 have hp:(2:Nat) ^ (28-s.t)*2 ^ s.t=2 ^ 28:=by rw [<- jq]; congr 1; omega
 have hp12:(2:Nat) ^ s.t<=2 ^ 12:=im (by omega) ht2
 have h2:=(h1.out (iH _) (by
  show S0.c*2 ^ S0.t+1*2 ^ S0.t<=2 ^ 28
  rw [<- gZ,hS0c,hS0t,<- hp]
  exact gD _ (by omega)) (by have:=iI S0.t; omega)).2 (by rw [hS0t]; omega)
 have e1:ni { S0 with c:=S0.c*2 ^ S0.t,t:=S0.t-S0.t }=lu S0:=Iv { S0 with c:=S0.c*2 ^ S0.t } _
 rw [e1] at h2
 obtain ⟨hc1,ht1'⟩:=Iw { S0 with c:=S0.c*2 ^ S0.t,t:=S0.t-S0.t }
 rw [e1] at hc1 ht1'
 generalize lu S0=S1 at *
 rw [hS0t,kn] at h2
 have h3:=h2.KW (j:=S1.t) (a':=S1.a) (gg _) (by omega)
 have hp1:(2:Nat) ^ (27-S1.t)*2 ^ S1.t=2 ^ 27:=by rw [<- jq]; congr 1; omega
 have hc1lt:S1.c<2 ^ (27-S1.t):=by rw [hc1]; exact iP _ (iI _)
 have hp8:(2:Nat) ^ S1.t<=2 ^ 8:=im (by omega) (by omega)
 have hpp:2 ^ s.t*2 ^ S1.t<=2 ^ 12*2 ^ 8:=Nat.mul_le_mul hp12 hp8
 have hpz:0<2 ^ s.t*2 ^ S1.t:=GP (iI _) (iI _)
 have h4:=(h3.out (iH _) (by
  show S1.c*2 ^ S1.t+2 ^ s.t*2 ^ S1.t<=2 ^ 28
  have:=jk hc1lt (iI S1.t)
  omega) hpz).1
 have e2:ni { S1 with c:=S1.c*2 ^ S1.t,t:=S1.t-S1.t }=lu S1:=Iv { S1 with c:=S1.c*2 ^ S1.t } _
 rw [e2] at h4
 exact ⟨h4.bs,fun hl=>by have:=h4.last hl; omega⟩
end
theorem HP {F:Cod} (j:Nat) (h:j<F.bs.length):fE (kv F) j=F.bs.getD j 0/\F.bs[j]? = some (fE (kv F) j):=by
 unfold fE kv
 rw [fY,fY,gk h,fP h]
 exact ⟨rfl,rfl⟩
theorem Gd {F:Cod}:fE (kv F) F.bs.length=F.l:=by
 unfold fE kv
 rw [fY]; simp
theorem HO {F:Cod}:(kv F).length=F.bs.length+1:=by simp [kv]
theorem Stf0.prev {F:Cod} (h:Stf0 F 1) (hl:F.bs.getLast? = some 255):F.l<=143:=by
 have h1:=h.last hl
 have h2:=iI (27-F.t)
 have h3:F.l*2 ^ (27-F.t)<144*2 ^ (27-F.t):=by omega
 have:=mq h3
 omega
theorem Stf0.stuffed {F:Cod} (h:Stf0 F 1):AL (kv F):=by
 intro j hj hlt
 rw [HO] at hlt
 have hjl:j<F.bs.length:=by omega
 have h1:=(HP j hjl).2
 rw [hj] at h1
 rcases gI (j+1) F.bs.length with h2 | h2
 ·exact h.bs j h1 _ (HP (j+1) h2).2
 ·have e:j+1=F.bs.length:=by omega
  rw [e,Gd]
  refine h.prev ?_
  rw [List.getLast?_eq_getElem?,<- e,lF]
  exact h1
theorem Ln {F:Cod} (j:Nat):(iX F).getD j 255=fE (kv F) (j+1):=by
 have hc:iX F=if F.l=255 then ((kv F).drop 1).dropLast else (kv F).drop 1:=rfl
 have hd:((kv F).drop 1).getD j 255=fE (kv F) (j+1):=by
  unfold fE
  rw [fY,fY,kS,Nat.add_comm 1 j]
 rw [hc]
 split
 ·rename_i hl
  have hlen:=HO (F:=F)
  have hdl:((kv F).drop 1).length=F.bs.length:=by rw [kA,hlen]; omega
  rcases pN (j+1) F.bs.length with h1 | h1 | h1
  ·rw [<- hd,fY,fY,List.dropLast_eq_take,vU (by omega)]
  ·have e:fE (kv F) (j+1)=255:=by rw [h1,Gd,hl]
   rw [e,fY,iq (by rw [List.length_dropLast]; omega)]
   rfl
  ·rw [IN _ (by omega),fY,iq (by rw [List.length_dropLast]; omega)]
   rfl
 ·exact hd
theorem QJ {E:List Nat} {s:Cod} (hs:Wf s) {k bit:Nat} (hF:Fut E (oo s k bit) (oo s k bit).a):Fut E s s.a:=by
 have hx:=CF hs.st k
 have hr:s.st.getD k 0 / 2<47:=by omega
 have hq1:=vH hr
 have hq2:=zs hr
 have hM:=pa hs.st (k:=k) (zd hx)
 have hL:=pa hs.st (k:=k) (ze hx)
 have hlo:=hs.lo
 have hhi:=hs.hi
 have hca:=hs.ca
 have h17:(2:Nat) ^ 17=131072:=rfl
 unfold oo at hF
 simp only [] at hF
 generalize s.st.getD k 0=x at *
 generalize qOf (x / 2)=q at *
 have lw:∀ {n':Nat} {st':List Nat},(∀ x∈st',x<94)->Fut E (iU 17 { s with a:=q,n:=n',st:=st' }) (iU 17 { s with a:=q,n:=n',st:=st' }).a->Fut E s s.a:=fun {n' st'} hst h =>
  Fut.part (s:=s) (c':=s.c) (d':=s.done) (Fut.renew 17 (s:={ s with a:=q,n:=n',st:=st' }) ⟨hs.t1,hs.t12,by show s.c+q<2 ^ (28-s.t); omega,hs.l,hs.bs,hst⟩ (by show q<_; omega) (by show _<=q*_; omega) h) (by omega) (by show s.c+q<=_; omega)
 have up:∀ {n':Nat} {st':List Nat},s.a-q<0x8000->1<=s.a-q->(∀ x∈st',x<94)->Fut E (iU 17 { s with a:=s.a-q,c:=s.c+q,n:=n',st:=st' }) (iU 17 { s with a:=s.a-q,c:=s.c+q,n:=n',st:=st' }).a->Fut E s s.a:=fun {n' st'} h1 h2 hst h =>
  Fut.part (s:=s) (d':=s.done) (Fut.renew 17 (s:={ s with a:=s.a-q,c:=s.c+q,n:=n',st:=st' }) ⟨hs.t1,hs.t12,by show s.c+q+(s.a-q)<2 ^ (28-s.t); omega,hs.l,hs.bs,hst⟩ h1 (by show _<=(s.a-q)*_; omega) h) (by omega) (by show s.c+q+(s.a-q)<=_; omega)
 split at hF
 ·split at hF
  ·exact Fut.part (s:=s) (A:=s.a-q) (d':=s.done) hF (by omega) (by omega)
  ·split at hF
   ·exact lw hM hF
   ·exact up (by omega) (by omega) hM hF
 ·split at hF
  ·exact up (by omega) (by omega) hL hF
  ·exact lw hL hF
theorem NV {E:List Nat} {m:Nat} {b:List Nat} (hE:AL E) (hb:∀ j,b.getD j 255=fE E (j+1)) (hlt:∀ x∈b,x<256) (hF:Fut E (gE m) (gE m).a):Sync E (gE m) (BJ b m):=by
 have hX0:fE E 0=0:=by
  have:=hF.hi 0
  have e:m0 (gE m)=0:=by simp [m0,gE,rK,MD]
  rw [e] at this
  have e2:XE E 0=fE E 0:=rfl
  rw [e2] at this
  simp [gE,BE] at this
  omega
 have hb0:∀ d:Dec,d.b=b->∀ j,jU d j=fE E (j+1):=fun d e j=>by unfold jU; rw [e]; exact hb j
 have hl1:me E 1=8:=by
  unfold me
  rw [if_neg]
  rintro ⟨_,h⟩
  rw [show 1-1=0 from rfl,hX0] at h
  omega
 have hX1:XE E 1=fE E 1:=by
  show XE E 0*2 ^ me E 1+fE E 1=_
  have:XE E 0=0:=hX0
  rw [this]; omega
 have hf1:fE E 1<256:=by rw [<- hb0 { a:=0,c:=0,t:=0,n:=0,st:=[],b:=b,i:=0 } rfl 0]; exact tk (s:={ a:=0,c:=0,t:=0,n:=0,st:=[],b:=b,i:=0 }) hlt 0
 have hf2:fE E 2<256:=by rw [<- hb0 { a:=0,c:=0,t:=0,n:=0,st:=[],b:=b,i:=0 } rfl 1]; exact tk (s:={ a:=0,c:=0,t:=0,n:=0,st:=[],b:=b,i:=0 }) hlt 1
 have hc0:b.getD 0 255=fE E 1:=hb 0
 generalize hd:({ a:=0x8000,c:=b.getD 0 255*65536,t:=0,n:=0,st:=List.replicate m 0,b:=b,i:=0 }:Dec)=d
 have hdc:d.c=fE E 1*65536:=by rw [<- hd]; show b.getD 0 255*65536=_; rw [hc0]
 have hP:Pos E d 1:=⟨hb0 d (by rw [<- hd]), .inl (by rw [<- hd])⟩
 obtain ⟨q1,q2,q3⟩:=Md hE hP
 have hnew:BJ b m = { inD d with c:=(inD d).c*128 % M32,t:=(inD d).t-7 }:=by rw [<- hd]; rfl
 have hst:(inD d).a=0x8000/\(inD d).n=0/\(inD d).st=List.replicate m 0:=by
  rw [<- hd]; unfold inD; split
  ·exact ⟨rfl,rfl,rfl⟩
  ·split <;> exact ⟨rfl,rfl,rfl⟩
 obtain ⟨l1,l2⟩:=Ma E 2
 have hXX:XE E 2=fE E 1*2 ^ me E 2+fE E 2:=by show XE E 1*_+_=_; rw [hX1]
 have hBB:BE E 2=8+me E 2:=by show 0+me E 1+me E 2=_; rw [hl1]
 have q2:(inD d).t=me E 2:=q2
 have q3:(inD d).c=(d.c+fE E 2*2 ^ (16-me E 2)) % M32:=q3
 rw [hnew]
 refine ⟨hst.1,hst.2.2,hst.2.1,2,⟨⟨q1.by_,q1.at_⟩,?_,?_⟩⟩
 ·show BE E 2=0+(27-12)+((inD d).t-7)
  omega
 ·have e:m0 (gE m)=0:=by simp [m0,gE,rK,MD]
  show (inD d).c*128 % M32+m0 (gE m)*65536=XE E 2*2 ^ (16-((inD d).t-7))
  have hM:M32=4294967296:=rfl
  rw [e,q3,q2,hXX,hdc,hM]
  rcases (show me E 2=7\/me E 2=8 by omega) with h | h <;> rw [h] <;> simp only [show (16-7)=9 from rfl,show 16-8=8 from rfl,show 16-(7-7)=16 from rfl,show 16-(8-7)=15 from rfl] <;> omega
section
variable (k b:Nat->Nat) (m cnt:Nat)
theorem uo (h:∀ i,i<cnt->b i<=1):∀ i,i<=cnt->i<=16777216->Wf (vu k b m i)/\(vu k b m i).n=i
 | 0,_,_=>⟨L1 m,rfl⟩
 | i+1,hi,h2=>by
  obtain ⟨g1,g2⟩:=uo h i (by omega) (by omega)
  exact ⟨LU g1 _ _ (by omega),by show (oo _ _ _).n=_; rw [(Ol _ _ _).1,g2]⟩
theorem CN (h:∀ i,i<cnt->b i<=1):∀ i,i<=cnt->i<=16777216->Stf (vu k b m i) (vu k b m i).a
 | 0,_,_=>Qe m
 | i+1,hi,h2=>Qd (CN h i (by omega) (by omega)) (uo k b m cnt h i (by omega) (by omega)).1 _ _
theorem EX (h:∀ i,i<cnt->b i<=1) (hc:cnt<=16777216):∀ d,d<=cnt->Fut (kv (iE (vu k b m cnt))) (vu k b m (cnt-d)) (vu k b m (cnt-d)).a
 | 0,_=>Nm (uo k b m cnt h cnt (gg _) hc).1
 | d+1,hd=>by
  have h1:=EX h hc d (by omega)
  have e:cnt-d=(cnt-(d+1))+1:=by omega
  rw [e] at h1
  exact QJ (uo k b m cnt h _ (by omega) (by omega)).1 h1
theorem F9 {bytes:List Nat} (hb:∀ x∈bytes,x<256):∀ i,i<=16777216->WfD (DH k bytes m i)/\(DH k bytes m i).n=i
 | 0,_=>by
  have hnew:∀ d:Dec,MidD d->d.a=0x8000->d.n=0->WfD { inD d with c:=(inD d).c*128 % M32,t:=(inD d).t-7 }/\({ inD d with c:=(inD d).c*128 % M32,t:=(inD d).t-7 }:Dec).n=0:=fun d hd ha hn=>by
   obtain ⟨i1,i2,i3,i4,i5,i6⟩:=AF hd
   have:=i1.t8
   exact ⟨⟨⟨by show (inD d).t-7<=8; omega,iP _ (by decide),i1.b,i1.st,i1.i⟩,by show (inD d).n<=_; omega,by show _<=(inD d).a; omega,by show (inD d).a<_; omega⟩,by show (inD d).n=0; omega⟩
  refine hnew { a:=0x8000,c:=bytes.getD 0 255*65536,t:=0,n:=0,st:=List.replicate m 0,b:=bytes,i:=0 } ⟨km _,?_,hb,fun x hx=>by simp only [Ew] at hx; omega,km _⟩ rfl rfl
  have:=tk (s:={ a:=0,c:=0,t:=0,n:=0,st:=[],b:=bytes,i:=0 }) hb 0
  have e:jU { a:=0,c:=0,t:=0,n:=0,st:=[],b:=bytes,i:=0 } 0=bytes.getD 0 255:=rfl
  show bytes.getD 0 255*65536<4294967296
  omega
 | i+1,h=>by
  obtain ⟨g1,g2⟩:=F9 hb i (by omega)
  refine ⟨Mj g1 _ (by omega),?_⟩
  have hrn:∀ (j:Nat) (s:Dec),(jT j s).n=s.n:=by
   have hi:∀ s:Dec,(inD s).n=s.n:=fun s=>by unfold inD; split; rfl; split <;> rfl
   have hs:∀ s:Dec,(mI s).n=s.n:=fun s=>by unfold mI; simp only []; split; exact hi s; rfl
   intro j
   induction j with
   | zero=>intro s; rfl
   | succ j ih=>intro s; unfold jT; simp only []; split; exact hs s; exact (ih _).trans (hs s)
  show (getD (DH k bytes m i) (k i)).1.n=i+1
  unfold getD
  simp only []
  split
  ·split <;> (rw [hrn]; exact congrArg (· + 1) g2)
  ·split
   ·exact congrArg (· + 1) g2
   ·split <;> (rw [hrn]; exact congrArg (· + 1) g2)
theorem Ko (h:∀ i,i<cnt->b i<=1) (hc:cnt<=16777216) (hlt:∀ x∈iX (iE (vu k b m cnt)),x<256):∀ i,i<=cnt ->
  Sync (kv (iE (vu k b m cnt))) (vu k b m i) (DH k (iX (iE (vu k b m cnt))) m i)
 | 0,_=>by
  have hE:=(Dl (CN k b m cnt h cnt (gg _) hc) (uo k b m cnt h cnt (gg _) hc).1).stuffed
  have hF:=EX k b m cnt h hc cnt (gg _)
  rw [iH] at hF
  exact NV hE Ln hlt hF
 | i+1,hi=>by
  have hE:=(Dl (CN k b m cnt h cnt (gg _) hc) (uo k b m cnt h cnt (gg _) hc).1).stuffed
  have hF:=EX k b m cnt h hc (cnt-(i+1)) (by omega)
  rw [show cnt-(cnt-(i+1))=i+1 by omega] at hF
  exact (Je hE (uo k b m cnt h i (by omega) (by omega)).1 (F9 k m hlt i (by omega)).1 (Ko h hc hlt i (by omega)) (h i (by omega)) hF).1
theorem PI (h:∀ i,i<cnt->b i<=1) (hc:cnt<=16777216) (hlt:∀ x∈iX (iE (vu k b m cnt)),x<256) {i:Nat} (hi:i<cnt) :
  (getD (DH k (iX (iE (vu k b m cnt))) m i) (k i)).2=b i:=by
 have hE:=(Dl (CN k b m cnt h cnt (gg _) hc) (uo k b m cnt h cnt (gg _) hc).1).stuffed
 have hF:=EX k b m cnt h hc (cnt-(i+1)) (by omega)
 rw [show cnt-(cnt-(i+1))=i+1 by omega] at hF
 exact (Je hE (uo k b m cnt h i (by omega) (by omega)).1 (F9 k m hlt i (by omega)).1 (Ko k b m cnt h hc hlt i (by omega)) (h i hi) hF).2.1
end
end Go.Ar
namespace Go.Bm
open Go Go.Den Go.Den.YtbknfejmdekhpaaGreat
open Go.Ar (idx)
section
variable (G R:Int->Int->Bool) (W m:Nat) (dx dy base:Int)
def kf (i:Nat):Nat:=idx (base+((CM G R dx dy ((i % W:Nat):Int) ((i / W:Nat):Int):Nat):Int)) m
def bf (i:Nat):Nat:=(G ((i % W:Nat):Int) ((i / W:Nat):Int)).toNat
def vI (i:Nat):Int->Int->Bool:=fun x y=>decide (0<=x/\x<W/\0<=y/\y.toNat*W+x.toNat<i) && G x y
variable (hG:∀ x y:Int,¬ (0<=x/\x<W/\0<=y)->G x y=false)
include hG
theorem Jx {i:Nat} {x y:Int} (h:0<=x->x<W->0<=y->y.toNat*W+x.toNat<i):vI G W i x y=G x y:=by
 unfold vI
 by_cases h1:0<=x/\x<W/\0<=y
 ·rw [decide_eq_true ⟨h1.1,h1.2.1,h1.2.2,h h1.1 h1.2.1 h1.2.2⟩,jm]
 ·rw [hG _ _ h1,Bool.and_false]
theorem On {x y:Nat} (hx:x<W):CM (vI G W (y*W+x)) R dx dy x y=CM G R dx dy x y:=by
 have up:∀ a:Int,a<=x+1->vI G W (y*W+x) a ((y:Int) + -1)=G a ((y:Int) + -1):=fun a ha=>Jx G W hG fun h1 h2 h3=>by
  obtain ⟨yy,rfl⟩:∃ yy,y=yy+1:=⟨y-1,by omega⟩
  have e:(((yy+1:Nat):Int) + -1).toNat=yy:=by omega
  rw [e,gZ,kn]
  omega
 have e1:=up ((x:Int)-1) (by omega)
 have e2:=up (x:Int) (by omega)
 have e3:=up ((x:Int)+1) (by omega)
 have e4:vI G W (y*W+x) ((x:Int)-1) ((y:Int)+0)=G ((x:Int)-1) ((y:Int)+0):=Jx G W hG fun h1 h2 h3=>by
  have e:((y:Int)+0).toNat=y:=by omega
  rw [e]
  omega
 unfold CM BI
 rw [e1,e2,e3,e4]
theorem KS {x y:Nat} (hx:x<W):upd (vI G W (y*W+x)) (x:Int) (y:Int) (G (x:Int) (y:Int))=vI G W (y*W+x+1):=by
 have _:=hG
 funext a b
 unfold upd
 by_cases h1:a=x/\b=y
 ·obtain ⟨rfl,rfl⟩:=h1
  rw [if_pos ⟨rfl,rfl⟩]
  unfold vI
  rw [decide_eq_true ⟨by omega,by omega,by omega,by simp⟩,jm]
 ·rw [if_neg h1]
  unfold vI
  congr 1
  rw [decide_eq_decide]
  constructor
  ·rintro ⟨h2,h3,h4,h5⟩; exact ⟨h2,h3,h4,by omega⟩
  ·rintro ⟨h2,h3,h4,h5⟩
   refine ⟨h2,h3,h4,?_⟩
   rcases gI (b.toNat*W+a.toNat) (y*W+x) with h6 | h6
   ·exact h6
   ·exfalso
    have h7:b.toNat*W+a.toNat=y*W+x:=by omega
    have:=Me (wd:=W) (c:=a.toNat) (c':=x) (y:=b.toNat) (y':=y) (by omega) hx h7
    exact h1 ⟨by omega,by omega⟩
end
end Go.Bm
namespace Go.Ar
open Go Go.Den Go.Den.YtbknfejmdekhpaaGreat
end Go.Ar
namespace Go.Bm
open Go Go.Den Go.Den.YtbknfejmdekhpaaGreat
theorem O7 (ws:List Nat) (W X:Nat) (x y:Int) (h:¬ (0<=x/\x<W/\0<=y)):jR ws W X x y=false:=by
 unfold jR
 rw [decide_eq_false (by omega),nv]
theorem O8 {W X:Nat} {a b:List Nat} (ha:a.length=X*wds W) (hb:b.length=X*wds W) (wa:W64 a) (wb:W64 b) (za:Gx W X a) (zb:Gx W X b) (h:jR a W X=jR b W X):a=b:=by
 refine LX ha hb wa wb fun y hy x hx=>?_
 rcases gI x W with h1 | h1
 ·have:=congrFun (congrFun h (x:Int)) (y:Int)
  unfold jR at this
  rw [decide_eq_true (by omega),jm,jm,fD,fD] at this
  exact this
 ·rw [za y hy x h1 hx,zb y hy x h1 hx]
theorem Oo (ws:List Nat) (W X:Nat):vI (jR ws W X) W (X*W)=jR ws W X:=by
 funext x y
 unfold vI
 by_cases h:0<=x/\0<=y/\x<W/\y<X
 ·have h2:y.toNat*W+x.toNat<X*W:=by
   have:(y.toNat+1)*W<=X*W:=gD _ (by omega)
   rw [gZ,kn] at this
   omega
  rw [decide_eq_true ⟨h.1,h.2.2.1,h.2.1,h2⟩,jm]
 ·unfold jR
  rw [decide_eq_false h,nv,Bool.and_false]
abbrev Sp:=Int × Int × Int
def Q9:Nat->List Sp
 | 0=>[(-2,-2,2),(-1,-3,3),(0,-4,-1)]
 | 1=>[(-2,-1,2),(-1,-2,3),(0,-3,-1)]
 | 2=>[(-2,-1,1),(-1,-2,2),(0,-2,-1)]
 | _=>[(-1,-3,2),(0,-4,-1)]
def Fq (s:Sp):Nat:=(s.2.2-s.2.1+1).toNat
def spl (s:Sp) (k:Nat):List (Int × Int):=(List.range k).map fun (j:Nat)=>(s.2.1+(j:Int),s.1)
def SE (l:List Sp):List (Int × Int):=l.flatMap fun s=>spl s (Fq s)
def pb (G:Int->Int->Bool) (x y:Int) (l:List (Int × Int)):List Bool:=l.map fun p=>G (x+p.1) (y+p.2)
def Td (t:Nat) (G:Int->Int->Bool) (x y:Int):Nat:=mz 0 (pb G x y (SE (Q9 t)))
def Mg (t:Nat):Nat:=2 ^ (SE (Q9 t)).length
section
variable {hB:Heap} {K:VK} {Kp:PK}
end
structure Wn where
 s:Sp
 b:Nat
theorem PC (l:List Bool):mz 0 l<2 ^ l.length:=by
 have:=Ac l 0 0 (by decide)
 rwa [fN] at this
theorem Qf (s:Sp) (k:Nat):(spl s k).length=k:=by simp [spl]
theorem RF (G:Int->Int->Bool) (x y:Int) (l:List (Int × Int)):(pb G x y l).length=l.length:=by simp [pb]
def PS (G:Int->Int->Bool) (x y:Int) (S:List Sp) (i:Nat) (wl:List Wn):Prop:=wl.length=S.length/\∀ j s,S[j]? = some s->∃ b,wl[j]? = some ⟨s,b⟩/\b<2 ^ Fq s /\
 (j<i->b=mz 0 (pb G x y (spl s (Fq s))))/\(i<=j->b % 2 ^ (Fq s-1)=mz 0 (pb G x y (spl s (Fq s-1))))
theorem PS.step {G:Int->Int->Bool} {x y:Int} {S:List Sp} {i:Nat} {wl:List Wn} {s:Sp} (h:PS G x y S i wl) (hs:S[i]? = some s):PS G x y S (i+1) (wl.set i ⟨s,mz 0 (pb G x y (spl s (Fq s)))⟩):=by
 refine ⟨by rw [gB]; exact h.1,fun j s' hj=>?_⟩
 by_cases hji:i=j
 ·subst hji
  obtain rfl:s=s':=ig (hs.symm.trans hj)
  have hi:i<wl.length:=by rw [h.1]; exact (List.getElem?_eq_some_iff.1 hs).1
  refine ⟨_,iD hi,?_,fun _=>rfl,fun h=>by omega⟩
  have:=PC (pb G x y (spl s (Fq s)))
  rwa [RF,Qf] at this
 ·obtain ⟨b,h1,h2,h3,h4⟩:=h.2 j s' hj
  exact ⟨b,by rw [j3 hji]; exact h1,h2,fun h5=>h3 (by omega),fun h5=>h4 (by omega)⟩
section
variable {σ:Type}
def RB (t:Nat) (step:σ->Nat->Bool->(Bool × σ) ⊕ (Int × σ)) (y:Nat):Nat->(Int->Int->Bool) × σ->((Int->Int->Bool) × σ) ⊕ (Int × σ)
 | 0,g => .inl g
 | k+1,g=>match RB t step y k g with
  | .inr e => .inr e
  | .inl (G,s)=>match step s (Td t G (k:Int) (y:Int)) (G (k:Int) (y:Int)) with
   | .inl (bit,s') => .inl (upd G (k:Int) (y:Int) bit,s')
   | .inr e => .inr e
def Sz (G:Int->Int->Bool) (W y:Nat):Bool:=(List.range W).all fun x=>G (x:Int) (y:Int) == G (x:Int) ((y:Int)-1)
def QV (G:Int->Int->Bool) (y:Nat):Int->Int->Bool:=fun a b=>if b=(y:Int)/\y≠0 then G a ((y:Int)-1) else G a b
def SA (W t:Nat) (skip:Bool) (step:σ->Nat->Bool->(Bool × σ) ⊕ (Int × σ)):Nat->(Int->Int->Bool) × σ->((Int->Int->Bool) × σ) ⊕ (Int × σ)
 | 0,g => .inl g
 | y+1,g=>match SA W t skip step y g with
  | .inr e => .inr e
  | .inl (G,s)=>match skip with
   | false=>RB t step y W (G,s)
   | true=>match step s (Mg t) (Sz G W y) with
    | .inr e => .inr e
    | .inl (true,s') => .inl (QV G y,s')
    | .inl (false,s')=>RB t step y W (G,s')
end
open Go.Ar (Cod Dec ju iW BOk)
def S6 (p q:Nat) (s:Cod) (M:List Ent):Prop:=∃ r rest,M=ju p q r s rest
def S3 (p q:Nat) (e:Ent) (bp:Option Addr) (bc:Nat) (s:Dec) (M:List Ent):Prop:=BOk e bp s.b/\M=iW p q e bp bc s
theorem S6.w {p q:Nat}:∀ s M,S6 p q s M->M.all Ent.w=true:=fun s M ⟨r,rest,h⟩=>by subst h; rfl
theorem S3.w {p q:Nat} {e:Ent} {bp:Option Addr} {bc:Nat}:∀ s M,S3 p q e bp bc s M->M.all Ent.w=true:=fun s M ⟨h1,h⟩=>by subst h; simp [iW,Go.Ar.yM,h1.1]
open Go.Ar (CodOk gE iE iX)
section
variable {σ:Type} {step:σ->Nat->Bool->(Bool × σ) ⊕ (Int × σ)}
end
def Rq (w b:Int) (ws:List Nat) (template:Int) (skip:Bool) (e:Int) (bs:List Nat):Prop :=
 ¬ (0<=template/\template<4)/\e=60/\bs=[] \/
 (0<=template/\template<4)/\¬ sE w b ws/\e=62/\bs=[] \/
 (0<=template/\template<4)/\sE w b ws/\e=0/\∃ G s' k,SA w.toNat template.toNat skip (yA (Mg template.toNat+1) 0) b.toNat (jR ws w.toNat b.toNat,gE (Mg template.toNat+1)) = .inl (G,s')/\k<=b.toNat*(w.toNat+1)/\CodOk (Mg template.toNat+1) k s'/\bs=iX (iE s')
section
variable {hB:Heap} {w b template:Int} {skip:Bool} {K:VK} {Kp:PK}
end
end Go.Bm
namespace Go.Ar
open Go Go.Den Go.Den.YtbknfejmdekhpaaGreat
section
variable {h:Heap} {A:RP} {e:Ent} {bp:Option Addr} {bc:Nat} {s:Dec} {F:List Nat} {h0:Heap}
end
end Go.Ar
namespace Go.Bm
open Go Go.Den Go.Den.YtbknfejmdekhpaaGreat
section
variable {hB:Heap} {w b template:Int} {skip:Bool} {K:VK} {Kp:PK}
end
section
variable (G R:Int->Int->Bool) (W m:Nat) (dx dy base:Int) {k b:Nat->Nat} {n0 cnt:Nat}
end
section
variable {hB:Heap} {w b template:Int} {skip:Bool} {K:VK} {Kp:PK}
end
open Go.Ar (Cod Dec CodOk vu DH L4 iX iE oo getD)
def kOf (L:List (Nat × Nat)) (i:Nat):Nat:=(L[i]?.getD (0,0)).1
def bOf (L:List (Nat × Nat)) (i:Nat):Nat:=(L[i]?.getD (0,0)).2
def cdL (m:Nat) (L:List (Nat × Nat)):Cod:=vu (kOf L) (bOf L) m L.length
theorem HQ {k b k' b':Nat->Nat} {m:Nat}:∀ {n:Nat},(∀ j,j<n->k j=k' j/\b j=b' j)->vu k b m n=vu k' b' m n
 | 0,_=>rfl
 | n+1,h=>by
  have:=HQ (m:=m) (n:=n) fun j hj=>h j (by omega)
  unfold vu
  rw [this,(h n (by omega)).1,(h n (by omega)).2]
theorem CO (m:Nat) (L:List (Nat × Nat)) (d:Nat × Nat):cdL m (L++[d])=oo (cdL m L) d.1 d.2:=by
 have e:vu (kOf (L++[d])) (bOf (L++[d])) m L.length=cdL m L:=HQ fun j hj=>by
  unfold kOf bOf
  rw [gk hj]
  exact ⟨rfl,rfl⟩
 unfold cdL at e ⊢
 rw [fA,gJ,vu,e]
 unfold kOf bOf
 rw [gM (gg _),iH]
 rfl
theorem sb {m:Nat} {L:List (Nat × Nat)} (h:L.length<=16777216):CodOk m L.length (cdL m L):=by
 have key:∀ i,i<=16777216->CodOk m i (vu (kOf L) (bOf L) m i):=by
  intro i
  induction i with
  | zero=>exact fun _=>L4 m
  | succ i ih=>exact fun hi=>Go.Ar.qJ (ih (by omega)) _ _ (by omega)
 exact key _ h
theorem Sh {L:List (Nat × Nat)} (h:∀ d∈L,d.2<=1):∀ i,i<L.length->bOf L i<=1:=fun i hi=>by
 unfold bOf
 rw [fP hi]
 exact h _ (List.getElem_mem hi)
theorem RW {L A B:List (Nat × Nat)} {d:Nat × Nat} (h:L=A++d::B):kOf L A.length=d.1/\bOf L A.length=d.2:=by
 subst h
 unfold kOf bOf
 rw [gM (gg _),iH]
 exact ⟨rfl,rfl⟩
structure Walk (L:List (Nat × Nat)) (D:Nat->Dec):Prop where
 step:∀ i,i<L.length->getD (D i) (kOf L i)=(D (i+1),bOf L i)
theorem Walk.at {L A B:List (Nat × Nat)} {D:Nat->Dec} {d:Nat × Nat} (h:Walk L D) (e:L=A++d::B):getD (D A.length) d.1=(D (A.length+1),d.2):=by
 obtain ⟨h1,h2⟩:=RW e
 have:=h.step A.length (by rw [e]; simp)
 rw [h1,h2] at this
 exact this
theorem H8 {m:Nat} {L:List (Nat × Nat)} (h1:∀ d∈L,d.2<=1) (hc:L.length<=16777216):Walk L (DH (kOf L) (iX (iE (cdL m L))) m):=by
 refine ⟨fun i hi=>Prod.ext rfl ?_⟩
 have hlt:∀ x∈iX (iE (cdL m L)),x<256:=Go.Ar.AG (sb hc).wf
 exact Go.Ar.PI (kOf L) (bOf L) m L.length (Sh h1) hc hlt hi
open Go.Ar (Dec)
section
variable (G:Int->Int->Bool) (W m t:Nat) (skip:Bool) (base:Int)
variable (hG:∀ x y:Int,¬ (0<=x/\x<W/\0<=y)->G x y=false)
include hG
variable {L:List (Nat × Nat)} {D:Nat->Dec} (hW:Walk L D)
include hW
end
theorem Rq.bytes {w b template:Int} {skip:Bool} {ws:List Nat} {e:Int} {bs:List Nat} (h:Rq w b ws template skip e bs):(∀ x∈bs,x<256)/\bs.length<140737488351300:=by
 rcases h with ⟨_,_,rfl⟩ | ⟨_,_,_,rfl⟩ | ⟨_,_,_,G,s',k,_,_,hok,rfl⟩
 ·exact ⟨(fun x hx=>by cases hx),by decide⟩
 ·exact ⟨(fun x hx=>by cases hx),by decide⟩
 ·refine ⟨Go.Ar.AG hok.wf,?_⟩
  have h1:=Go.Ar.BL s'
  have h2:=hok.wf.len
  have h3:=hok.wf.n
  omega
end Go.Bm
namespace Go.Ar
open Go Go.Den Go.Den.YtbknfejmdekhpaaGreat
end Go.Ar
namespace Go.Bm
open Go Go.Den Go.Den.YtbknfejmdekhpaaGreat
theorem KQ {q:Option Addr} {a:Addr} {K:Addr->Prop} (h:q=some a) (H:K a):ptr q K:=by subst h; exact H
structure It7 where
 w:Int
 b:Int
 ws:List Nat
 tt:Int
 sk:Bool
def It7.W (t:It7):Nat:=t.w.toNat
def It7.X (t:It7):Nat:=t.b.toNat
def It7.t (t:It7):Nat:=t.tt.toNat
def It7.G (t:It7):Int->Int->Bool:=jR t.ws t.W t.X
def It7.rN (t:It7):Nat:=t.X*t.W
end Go.Bm
namespace Go.Den.YtbknfejmdekhpaaGreat
open Go Go.Den
def ve (C:gl) (b:Option Addr) (bn bc:Nat) (h:Heap) (K:VK) (Kp:PK):Prop :=
l4 h gA 1 1 [.int .u8 0] none (0) (0) b (bn) fun d a c e=>
gE e [.slice d a c,.int .i64 0] wM fun f g=>
K (.pointer (some ⟨f,0,none⟩)) g
def sA (C:gl) (r:Option Addr) (h:Heap) (K:VK) (Kp:PK):Prop :=
ptr r fun b=>
ptr r fun c=>
ldS h (b.add 0) fun i a g=>
fG (IntKind.i64.wrap ((8:Int)*(a:Int))) fun d=>
ldI h (c.add 1) .i64 fun e=>
fG (IntKind.i64.wrap (d-e)) fun f=>
K (.int .i64 f) h
def vd (C:gl) (most:Int) (h:Heap) (K:VK) (Kp:PK):Prop :=
fI (decide (most<(0:Int))) (
K (.tuple #[.pointer none,.int .i64 10]) h)<|
fI (decide (most > (67108864:Int))) (
K (.tuple #[.pointer none,.int .i64 10]) h)<|
fG (IntKind.i64.wrap ((8:Int)*most)) fun a=>
gE h [.slice none 0 0,.int .i64 0,.int .i64 a] Bj fun b c=>
K (.tuple #[.pointer (some ⟨b,0,none⟩),.int .i64 0]) c
def tM (C:gl) (w:Option Addr) (n:Int) (h:Heap) (K:VK) (Kp:PK):Prop :=
fG (l8 .u64 n (7:Int)) fun Z=>
∃ m:Nat->List Value->Heap->Prop,(∃ j,m j [.int .i64 1,.int .u64 Z] h)/\∀ (j:Nat) (c:Heap) (ad:Nat->Value) (a o:Int),m j [.int .i64 a,.int .u64 o] c->(
fI (decide (o > (0:Int))) (
fG (IntKind.i64.wrap (a+(1:Int))) fun aa=>
fG (l8 .u64 o (7:Int)) fun z=>
∃ y,y<j/\m y [.int .i64 aa,.int .u64 z] c)<|
ptr w fun A=>
fG (IntKind.i64.wrap ((8:Int)*a)) fun B=>
ptr w fun D=>
ldI c (A.add 1) .i64 fun E=>
fG (IntKind.i64.wrap (E+B)) fun F=>
ldI c (D.add 2) .i64 fun G=>
fI (decide (F > G)) (
K (.int .i64 13) c)<|
∃ g:Nat->List Value->Heap->Prop,(∃ d,g d [.int .i64 0] c)/\∀ (d:Nat) (e:Heap) (ab:Nat->Value) (b:Int),g d [.int .i64 b] e->(
fI (decide (b<a)) (
fG (IntKind.i64.wrap ((7:Int)*b)) fun p=>
fW (0<=p)<|
fG (l8 .u64 n p) fun H=>
fG (IntKind.u8.wrap H) fun I=>
fG (jo .and .u8 I (127:Int)) fun q=>
∃ i:List Value->Heap->Prop,(
fG (IntKind.i64.wrap (a-(1:Int))) fun J=>
fI (decide (b<J)) (
fG (jo .or .u8 q (128:Int)) fun L=>
i [.int .u8 L] e)<|
i [.int .u8 q] e)/\∀ (f:Heap) (ac:Nat->Value) (r:Int),i [.int .u8 r] f->(
ptr w fun M=>
ptr w fun N=>
ldS f (M.add 0) fun O v x=>
ldI f (N.add 1) .i64 fun P=>
C sK #[.slice O v x,.int .i64 P,.int .u8 r,.int .i64 8] f (fun Q R=>
∃ (s:Option Addr) (k l:Nat),Q = .slice s k l/\(
ptr w fun S=>
stV R (S.add 0) (.slice s k l) fun t=>
ptr w fun T=>
ldI t (T.add 1) .i64 fun U=>
fG (IntKind.i64.wrap (U+(8:Int))) fun V=>
ptr w fun W=>
stV t (W.add 1) (.int .i64 V) fun X=>
fG (IntKind.i64.wrap (b+(1:Int))) fun Y=>
∃ u,u<d/\g u [.int .i64 Y] X)) (Kp)))<|
K (.int .i64 0) e))
def tN (C:gl) (w:Option Addr) (n width:Int) (h:Heap) (K:VK) (Kp:PK):Prop :=
fI (decide (width<(0:Int))) (
K (.int .i64 11) h)<|
fI (decide (width > (64:Int))) (
K (.int .i64 11) h)<|
∃ d:List Value->Heap->Prop,(
fI (decide (width<(64:Int))) (
fW (0<=width)<|
fG (l8 .u64 n width) fun z=>
d [.bool (z != (0:Int))] h)<|
d [.bool false] h)/\∀ (a:Heap) (F:Nat->Value) (j:Bool),d [.bool j] a->(
fI j (
K (.int .i64 12) a)<|
ptr w fun A=>
ptr w fun B=>
ldI a (A.add 1) .i64 fun D=>
fG (IntKind.i64.wrap (D+width)) fun E=>
ldI a (B.add 2) .i64 fun k=>
fI (decide (E > k)) (
K (.int .i64 13) a)<|
ptr w fun l=>
ptr w fun m=>
ldS a (l.add 0) fun o g i=>
ldI a (m.add 1) .i64 fun p=>
C rB #[.slice o g i,.int .i64 p,.int .u64 n,.int .i64 width] a (fun q r=>
∃ (e:Option Addr) (b c:Nat),q = .slice e b c/\(
ptr w fun s=>
stV r (s.add 0) (.slice e b c) fun f=>
ptr w fun t=>
ldI f (t.add 1) .i64 fun u=>
fG (IntKind.i64.wrap (u+width)) fun v=>
ptr w fun x=>
stV f (x.add 1) (.int .i64 v) fun y=>
K (.int .i64 0) y)) (Kp))
def qW (C:gl) (w:Option Addr) (h:Heap) (K:VK) (Kp:PK):Prop :=
ptr w fun d=>
ldS h (d.add 0) fun e a i=>
l4 h gA 1 1 [.int .u8 0] none (0) (0) e (a) fun f b c g=>
K (.slice f b c) g
def su (C:gl) (r:Option Addr) (width:Int) (h:Heap) (K:VK) (Kp:PK):Prop :=
fI (decide (width<(0:Int))) (
K (.tuple #[.int .u64 0,.int .i64 11]) h)<|
fI (decide (width > (64:Int))) (
K (.tuple #[.int .u64 0,.int .i64 11]) h)<|
C mE #[.pointer r] h (fun n a=>
∃ (f:Int),n = .int .i64 f/\(
fI (decide (width > f)) (
K (.tuple #[.int .u64 0,.int .i64 14]) a)<|
ptr r fun o=>
ldI a (o.add 1) .i64 fun p=>
fG (IntKind.i64.wrap (p+width)) fun q=>
ptr r fun s=>
stV a (s.add 1) (.int .i64 q) fun b=>
ptr r fun t=>
ptr r fun g=>
ldS b (t.add 0) fun i d e=>
ldI b (g.add 1) .i64 fun j=>
fG (IntKind.i64.wrap (j-width)) fun k=>
C qg #[.slice i d e,.int .i64 k,.int .i64 width] b (fun l m=>
∃ (c:Int),l = .int .u64 c/\(
K (.tuple #[.int .u64 c,.int .i64 0]) m)) (Kp))) (Kp)
def vc (C:gl) (b:Option Addr) (bn bc:Nat) (atv n width:Int) (h:Heap) (K:VK) (Kp:PK):Prop :=
fG (IntKind.i64.wrap (width-(1:Int))) fun N=>
∃ q:Nat->List Value->Heap->Prop,(∃ l,q l [.slice b bn bc,.int .i64 atv,.int .i64 N] h)/\∀ (l:Nat) (m:Heap) (P:Nat->Value) (o:Option Addr) (e f:Nat) (d i:Int),q l [.slice o e f,.int .i64 d,.int .i64 i] m->(
fI (decide (i≥(0:Int))) (
∃ j:List Value->Heap->Prop,(
fG (d.tmod (8:Int)) fun v=>
fI (v == (0:Int)) (
gE m [.int .u8 0] gA fun w x=>
l4 x gA 1 1 [.int .u8 0] o (e) (f) (some ⟨w,0,none⟩) (1) fun y s t z=>
j [.slice y s t] z)<|
j [.slice o e f] m)/\∀ (k:Heap) (O:Nat->Value) (g:Option Addr) (c p:Nat),j [.slice g c p] k->(
fG (IntKind.i64.wrap (d.tdiv (8:Int))) fun a=>
fW (0<=a/\a<(c:Int))<|
ptr g fun A=>
fW (0<=i)<|
fG (l8 .u8 n i) fun B=>
fG (jo .and .u8 B (1:Int)) fun D=>
fG (d.tmod (8:Int)) fun E=>
fG (IntKind.i64.wrap ((7:Int)-E)) fun r=>
fW (0<=r)<|
fG (lT .u8 D r) fun F=>
ldI k (A.add (a.toNat*1)) .u8 fun G=>
fG (jo .or .u8 G F) fun H=>
fW (0<=a/\a<(c:Int))<|
ptr g fun I=>
stV k (I.add (a.toNat*1)) (.int .u8 H) fun J=>
fG (IntKind.i64.wrap (d+(1:Int))) fun L=>
fG (IntKind.i64.wrap (i-(1:Int))) fun M=>
∃ u,u<l/\q u [.slice g c p,.int .i64 L,.int .i64 M] J))<|
K (.slice o e f) m)
def tL (C:gl) (b:Option Addr) (bn bc:Nat) (atv n width:Int) (h:Heap) (K:VK) (Kp:PK):Prop :=
fG (IntKind.i64.wrap (width-(1:Int))) fun O=>
∃ q:Nat->List Value->Heap->Prop,(∃ l,q l [.slice b bn bc,.int .i64 atv,.int .i64 O] h)/\∀ (l:Nat) (m:Heap) (Q:Nat->Value) (o:Option Addr) (e f:Nat) (d i:Int),q l [.slice o e f,.int .i64 d,.int .i64 i] m->(
fI (decide (i≥(0:Int))) (
∃ j:List Value->Heap->Prop,(
fG (d.tmod (8:Int)) fun v=>
fI (v == (0:Int)) (
gE m [.int .u8 0] gA fun w x=>
l4 x gA 1 1 [.int .u8 0] o (e) (f) (some ⟨w,0,none⟩) (1) fun y s t z=>
j [.slice y s t] z)<|
j [.slice o e f] m)/\∀ (k:Heap) (P:Nat->Value) (g:Option Addr) (c p:Nat),j [.slice g c p] k->(
fG (IntKind.i64.wrap (d.tdiv (8:Int))) fun a=>
fW (0<=a/\a<(c:Int))<|
ptr g fun A=>
fW (0<=i)<|
fG (l8 .u64 n i) fun B=>
fG (jo .and .u64 B (1:Int)) fun D=>
fG (IntKind.u8.wrap D) fun E=>
fG (d.tmod (8:Int)) fun F=>
fG (IntKind.i64.wrap ((7:Int)-F)) fun r=>
fW (0<=r)<|
fG (lT .u8 E r) fun G=>
ldI k (A.add (a.toNat*1)) .u8 fun H=>
fG (jo .or .u8 H G) fun I=>
fW (0<=a/\a<(c:Int))<|
ptr g fun J=>
stV k (J.add (a.toNat*1)) (.int .u8 I) fun L=>
fG (IntKind.i64.wrap (d+(1:Int))) fun M=>
fG (IntKind.i64.wrap (i-(1:Int))) fun N=>
∃ u,u<l/\q u [.slice g c p,.int .i64 M,.int .i64 N] L))<|
K (.slice o e f) m)
def tO (C:gl) (D:wS) (r:Option Addr) (h:Heap) (K:VK) (Kp:PK):Prop :=
gE h [.pointer r] mJ fun i ak=>
gE ak [.int .u64 0] gj fun b al=>
gE al [.int .i64 0] gR fun c v=>
ldP v (⟨i,0,none⟩:Addr) fun am=>
ptr am fun an=>
ldI v (an.add 1) .i64 fun ao=>
gE v [.int .i64 0] gQ fun e y=>
stV y (⟨e,0,none⟩:Addr) (.int .i64 ao) fun z=>
∃ k:Nat->List Value->Heap->Prop,(∃ j,k j [.int .i64 0] z)/\∀ (j:Nat) (l:Heap) (ap:Nat->Value) (a:Int),k j [.int .i64 a] l->(
ldP l (⟨i,0,none⟩:Addr) fun A=>
C pB #[.pointer A] l (fun B d=>
∃ (f:Int),∃ (w:Bool),B = .tuple #[.int .u8 f,.bool w]/\(
∃ g:List Value->Heap->Prop,(
fI (!w) (
stV d (⟨b,0,none⟩:Addr) (.int .u64 0) fun E=>
stV E (⟨c,0,none⟩:Addr) (.int .i64 14) fun F=>
j5 D (fun m=>
ldI m (⟨b,0,none⟩:Addr) .u64 fun G=>
ldI m (⟨c,0,none⟩:Addr) .i64 fun H=>
K (.tuple #[.int .u64 G,.int .i64 H]) m) Kp [{ target := .fn (.func ji) #[.pointer (some ⟨c,0,none⟩),.pointer (some ⟨e,0,none⟩),.pointer (some ⟨b,0,none⟩),.pointer (some ⟨i,0,none⟩)],args:=#[] }] .returning F)<|
fI (a == (63:Int)) (
fI (decide (f > (1:Int))) (
fI (decide (f > (1:Int))) (
stV d (⟨b,0,none⟩:Addr) (.int .u64 0) fun I=>
stV I (⟨c,0,none⟩:Addr) (.int .i64 16) fun J=>
j5 D (fun n=>
ldI n (⟨b,0,none⟩:Addr) .u64 fun L=>
ldI n (⟨c,0,none⟩:Addr) .i64 fun M=>
K (.tuple #[.int .u64 L,.int .i64 M]) n) Kp [{ target := .fn (.func ji) #[.pointer (some ⟨c,0,none⟩),.pointer (some ⟨e,0,none⟩),.pointer (some ⟨b,0,none⟩),.pointer (some ⟨i,0,none⟩)],args:=#[] }] .returning J)<|
g [] d)<|
fI (decide (a > (0:Int))) (
fI (f == (0:Int)) (
stV d (⟨b,0,none⟩:Addr) (.int .u64 0) fun N=>
stV N (⟨c,0,none⟩:Addr) (.int .i64 16) fun O=>
j5 D (fun o=>
ldI o (⟨b,0,none⟩:Addr) .u64 fun P=>
ldI o (⟨c,0,none⟩:Addr) .i64 fun Q=>
K (.tuple #[.int .u64 P,.int .i64 Q]) o) Kp [{ target := .fn (.func ji) #[.pointer (some ⟨c,0,none⟩),.pointer (some ⟨e,0,none⟩),.pointer (some ⟨b,0,none⟩),.pointer (some ⟨i,0,none⟩)],args:=#[] }] .returning O)<|
g [] d)<|
g [] d)<|
fI (decide (a > (0:Int))) (
fI (f == (0:Int)) (
stV d (⟨b,0,none⟩:Addr) (.int .u64 0) fun R=>
stV R (⟨c,0,none⟩:Addr) (.int .i64 16) fun S=>
j5 D (fun p=>
ldI p (⟨b,0,none⟩:Addr) .u64 fun T=>
ldI p (⟨c,0,none⟩:Addr) .i64 fun U=>
K (.tuple #[.int .u64 T,.int .i64 U]) p) Kp [{ target := .fn (.func ji) #[.pointer (some ⟨c,0,none⟩),.pointer (some ⟨e,0,none⟩),.pointer (some ⟨b,0,none⟩),.pointer (some ⟨i,0,none⟩)],args:=#[] }] .returning S)<|
g [] d)<|
g [] d)/\∀ (q:Heap) (aq:Nat->Value) ,g [] q->(
fG (jo .and .u8 f (127:Int)) fun V=>
fG (IntKind.u64.wrap V) fun W=>
fW (0<=a)<|
fG (lT .u64 W a) fun X=>
ldI q (⟨b,0,none⟩:Addr) .u64 fun Y=>
fG (jo .or .u64 Y X) fun Z=>
stV q (⟨b,0,none⟩:Addr) (.int .u64 Z) fun s=>
fI (decide (f<(128:Int))) (
ldI s (⟨b,0,none⟩:Addr) .u64 fun aa=>
stV s (⟨b,0,none⟩:Addr) (.int .u64 aa) fun ab=>
stV ab (⟨c,0,none⟩:Addr) (.int .i64 0) fun ac=>
j5 D (fun t=>
ldI t (⟨b,0,none⟩:Addr) .u64 fun ad=>
ldI t (⟨c,0,none⟩:Addr) .i64 fun ae=>
K (.tuple #[.int .u64 ad,.int .i64 ae]) t) Kp [{ target := .fn (.func ji) #[.pointer (some ⟨c,0,none⟩),.pointer (some ⟨e,0,none⟩),.pointer (some ⟨b,0,none⟩),.pointer (some ⟨i,0,none⟩)],args:=#[] }] .returning ac)<|
fG (IntKind.i64.wrap (a+(7:Int))) fun af=>
∃ x,x<j/\k x [.int .i64 af] s))) (fun ag ah=>j5 D (fun u=>
ldI u (⟨b,0,none⟩:Addr) .u64 fun ai=>
ldI u (⟨c,0,none⟩:Addr) .i64 fun aj=>
K (.tuple #[.int .u64 ai,.int .i64 aj]) u) Kp [{ target := .fn (.func ji) #[.pointer (some ⟨c,0,none⟩),.pointer (some ⟨e,0,none⟩),.pointer (some ⟨b,0,none⟩),.pointer (some ⟨i,0,none⟩)],args:=#[] }] (.panicking ag) ah))
def ss (C:gl) (b:Option Addr) (bn bc:Nat) (atv width:Int) (h:Heap) (K:VK) (Kp:PK):Prop :=
∃ f:Nat->List Value->Heap->Prop,(∃ d,f d [.int .u64 0,.int .i64 0] h)/\∀ (d:Nat) (e:Heap) (v:Nat->Value) (g a:Int),f d [.int .u64 g,.int .i64 a] e->(
fI (decide (a<width)) (
fG (lT .u64 g (1:Int)) fun t=>
fG (IntKind.i64.wrap (atv+a)) fun u=>
fG (IntKind.i64.wrap (u.tdiv (8:Int))) fun c=>
fW (0<=c/\c<(bn:Int))<|
ptr b fun k=>
ldI e (k.add (c.toNat*1)) .u8 fun l=>
fG (IntKind.i64.wrap (atv+a)) fun m=>
fG (m.tmod (8:Int)) fun n=>
fG (IntKind.i64.wrap ((7:Int)-n)) fun i=>
fW (0<=i)<|
fG (l8 .u8 l i) fun o=>
fG (jo .and .u8 o (1:Int)) fun p=>
fG (IntKind.u64.wrap p) fun q=>
fG (jo .or .u64 t q) fun r=>
fG (IntKind.i64.wrap (a+(1:Int))) fun s=>
∃ j,j<d/\f j [.int .u64 r,.int .i64 s] e)<|
K (.int .u64 g) e)
def p9 (C:gl) (cap0 cap1 cap2 cap3:Addr) (h:Heap) (K:VK) (Kp:PK):Prop :=
ldI h cap0 .i64 fun a=>
fI (a != (0:Int)) (
ldP h cap3 fun b=>
ldI h cap1 .i64 fun c=>
stV h cap2 (.int .u64 0) fun d=>
ptr b fun e=>
stV d (e.add 1) (.int .i64 c) fun f=>
K (.tuple #[]) f)<|
K (.tuple #[]) h
def qX (C:gl) (r:Option Addr) (h:Heap) (K:VK) (Kp:PK):Prop :=
C mE #[.pointer r] h (fun n a=>
∃ (f:Int),n = .int .i64 f/\(
fI (decide (f<(8:Int))) (
K (.tuple #[.int .u8 0,.bool false]) a)<|
ptr r fun o=>
ldI a (o.add 1) .i64 fun p=>
fG (IntKind.i64.wrap (p+(8:Int))) fun q=>
ptr r fun s=>
stV a (s.add 1) (.int .i64 q) fun b=>
ptr r fun t=>
ptr r fun g=>
ldS b (t.add 0) fun i d e=>
ldI b (g.add 1) .i64 fun j=>
fG (IntKind.i64.wrap (j-(8:Int))) fun k=>
C rA #[.slice i d e,.int .i64 k,.int .i64 8] b (fun l m=>
∃ (c:Int),l = .int .u8 c/\(
K (.tuple #[.int .u8 c,.bool true]) m)) (Kp))) (Kp)
def tK (C:gl) (b:Option Addr) (bn bc:Nat) (atv width:Int) (h:Heap) (K:VK) (Kp:PK):Prop :=
∃ f:Nat->List Value->Heap->Prop,(∃ d,f d [.int .u8 0,.int .i64 0] h)/\∀ (d:Nat) (e:Heap) (u:Nat->Value) (g a:Int),f d [.int .u8 g,.int .i64 a] e->(
fI (decide (a<width)) (
fG (lT .u8 g (1:Int)) fun s=>
fG (IntKind.i64.wrap (atv+a)) fun t=>
fG (IntKind.i64.wrap (t.tdiv (8:Int))) fun c=>
fW (0<=c/\c<(bn:Int))<|
ptr b fun k=>
ldI e (k.add (c.toNat*1)) .u8 fun l=>
fG (IntKind.i64.wrap (atv+a)) fun m=>
fG (m.tmod (8:Int)) fun n=>
fG (IntKind.i64.wrap ((7:Int)-n)) fun i=>
fW (0<=i)<|
fG (l8 .u8 l i) fun o=>
fG (jo .and .u8 o (1:Int)) fun p=>
fG (jo .or .u8 s p) fun q=>
fG (IntKind.i64.wrap (a+(1:Int))) fun r=>
∃ j,j<d/\f j [.int .u8 q,.int .i64 r] e)<|
K (.int .u8 g) e)
theorem A6 {b:Option Addr} {bn bc:Nat} {h:Heap} {K:VK} {Kp:PK} (H:ve QP b bn bc h K Kp):QP sN #[.slice b bn bc] h K Kp :=
 fJ (Hints.mk (fun i=>none) (fun i=>none) (fun i=>none) []) (by kernel_rfl) Go.Proofs.Tryz.func78 (by kernel_rfl) (fun C=>ve C b bn bc h K Kp) (fun C=>by kernel_rfl) H
theorem yX {r:Option Addr} {h:Heap} {K:VK} {Kp:PK} (H:sA QP r h K Kp):QP mE #[.pointer r] h K Kp :=
 fJ (Hints.mk (fun i=>bif Nat.beq i 1 then some ([],.take 0 <| .take 1 <| .take 2 <| .take 6 <| .take 7 <| .take 8 <| .take 3 <| .take 4 <| .take 5 <| .take 9 <| .take 10 <| .take 11 <| .done) else (none)) (fun i=>none) (fun i=>none) []) (by kernel_rfl) Go.Proofs.Tryz.func81 (by kernel_rfl) (fun C=>sA C r h K Kp) (fun C=>by kernel_rfl) H
theorem AZ {most:Int} {h:Heap} {K:VK} {Kp:PK} (H:vd QP most h K Kp):QP sM #[.int .i64 most] h K Kp :=
 fJ (Hints.mk (fun i=>none) (fun i=>none) (fun i=>none) []) (by kernel_rfl) Go.Proofs.Tryz.func97 (by kernel_rfl) (fun C=>vd C most h K Kp) (fun C=>by kernel_rfl) H
theorem zV {w:Option Addr} {n:Int} {h:Heap} {K:VK} {Kp:PK} (H:tM QP w n h K Kp):QP mT #[.pointer w,.int .u64 n] h K Kp :=
 fJ (Hints.mk (fun i=>bif Nat.beq i 6 then some ([],.take 0 <| .take 1 <| .take 2 <| .take 4 <| .take 5 <| .take 7 <| .take 8 <| .take 9 <| .take 3 <| .take 6 <| .take 10 <| .take 11 <| .done) else (bif Nat.beq i 14 then some ([10,13],.take 0 <| .take 1 <| .take 2 <| .take 3 <| .take 5 <| .take 6 <| .take 7 <| .take 9 <| .take 4 <| .take 8 <| .bar 10 [13] <| .take 11 <| .take 12 <| .bar 13 [] <| .done) else (none))) (fun i=>bif Nat.beq i 3 then some ([(5,.int .i64),(6,.int .u64)],129120) else (bif Nat.beq i 9 then some ([(30,.int .i64)],73786976293764465024) else (none))) (fun i=>bif Nat.beq i 14 then some ([(8,.int .u8)],34634616275200) else (none)) []) (by kernel_rfl) Go.Proofs.Tryz.func98 (by kernel_rfl) (fun C=>tM C w n h K Kp) (fun C=>by kernel_rfl) H
theorem zW {w:Option Addr} {n width:Int} {h:Heap} {K:VK} {Kp:PK} (H:tN QP w n width h K Kp):QP rC #[.pointer w,.int .u64 n,.int .i64 width] h K Kp :=
 fJ (Hints.mk (fun i=>bif Nat.beq i 5 then some ([],.take 0 <| .take 1 <| .take 2 <| .take 4 <| .take 6 <| .take 7 <| .take 8 <| .take 3 <| .take 5 <| .take 9 <| .take 10 <| .take 11 <| .done) else (bif Nat.beq i 7 then some ([11,14],.take 0 <| .take 1 <| .take 2 <| .take 3 <| .take 5 <| .take 6 <| .take 7 <| .take 9 <| .take 10 <| .take 4 <| .take 8 <| .bar 11 [14] <| .take 12 <| .take 13 <| .bar 14 [] <| .done) else (none))) (fun i=>none) (fun i=>bif Nat.beq i 4 then some ([(14,.bool)],8372224) else (none)) []) (by kernel_rfl) Go.Proofs.Tryz.func99 (by kernel_rfl) (fun C=>tN C w n width h K Kp) (fun C=>by kernel_rfl) H
theorem yd {w:Option Addr} {h:Heap} {K:VK} {Kp:PK} (H:qW QP w h K Kp):QP pA #[.pointer w] h K Kp :=
 fJ (Hints.mk (fun i=>none) (fun i=>none) (fun i=>none) []) (by kernel_rfl) Go.Proofs.Tryz.func100 (by kernel_rfl) (fun C=>qW C w h K Kp) (fun C=>by kernel_rfl) H
theorem yW {r:Option Addr} {width:Int} {h:Heap} {K:VK} {Kp:PK} (H:su QP r width h K Kp):QP qh #[.pointer r,.int .i64 width] h K Kp :=
 fJ (Hints.mk (fun i=>bif Nat.beq i 6 then some ([11],.take 0 <| .take 1 <| .take 2 <| .take 4 <| .take 5 <| .take 6 <| .take 8 <| .take 10 <| .take 3 <| .take 7 <| .take 9 <| .bar 11 [] <| .take 12 <| .take 13 <| .done) else (none)) (fun i=>none) (fun i=>none) []) (by kernel_rfl) Go.Proofs.Tryz.func121 (by kernel_rfl) (fun C=>su C r width h K Kp) (fun C=>by kernel_rfl) H
theorem AY {b:Option Addr} {bn bc:Nat} {atv n width:Int} {h:Heap} {K:VK} {Kp:PK} (H:vc QP b bn bc atv n width h K Kp):QP sK #[.slice b bn bc,.int .i64 atv,.int .u8 n,.int .i64 width] h K Kp :=
 fJ (Hints.mk (fun i=>bif Nat.beq i 6 then some ([15],.take 0 <| .take 1 <| .take 2 <| .take 3 <| .take 5 <| .take 6 <| .take 7 <| .take 8 <| .take 9 <| .take 10 <| .take 11 <| .take 12 <| .take 4 <| .take 13 <| .take 14 <| .bar 15 [] <| .done) else (none)) (fun i=>bif Nat.beq i 2 then some ([(0,.slc),(1,.int .i64),(9,.int .i64)],549755810307) else (none)) (fun i=>bif Nat.beq i 6 then some ([(0,.slc)],4128769) else (none)) []) (by kernel_rfl) Go.Proofs.Tryz.func150 (by kernel_rfl) (fun C=>vc C b bn bc atv n width h K Kp) (fun C=>by kernel_rfl) H
theorem zU {b:Option Addr} {bn bc:Nat} {atv n width:Int} {h:Heap} {K:VK} {Kp:PK} (H:tL QP b bn bc atv n width h K Kp):QP rB #[.slice b bn bc,.int .i64 atv,.int .u64 n,.int .i64 width] h K Kp :=
 fJ (Hints.mk (fun i=>bif Nat.beq i 6 then some ([16],.take 0 <| .take 1 <| .take 2 <| .take 3 <| .take 5 <| .take 6 <| .take 7 <| .take 8 <| .take 9 <| .take 10 <| .take 11 <| .take 12 <| .take 13 <| .take 4 <| .take 14 <| .take 15 <| .bar 16 [] <| .done) else (none)) (fun i=>bif Nat.beq i 2 then some ([(0,.slc),(1,.int .i64),(9,.int .i64)],1099511624195) else (none)) (fun i=>bif Nat.beq i 6 then some ([(0,.slc)],4128769) else (none)) []) (by kernel_rfl) Go.Proofs.Tryz.func151 (by kernel_rfl) (fun C=>tL C b bn bc atv n width h K Kp) (fun C=>by kernel_rfl) H
noncomputable def rS:Hints:=Hints.mk (fun i=>bif Nat.beq i 11 then some ([7], .take 1 <| .take 2 <| .take 3 <| .take 4 <| .take 5 <| .take 0 <| .take 6 <| .bar 7 [] <| .done) else (none))
 (fun i=>bif Nat.beq i 5 then some ([(5,.int .i64)],70368744169696) else (none))
 (fun i=>bif Nat.beq i 11 then some ([],68718428160) else (none)) []
theorem BO (C:gl) (D:wS) (r:Option Addr) (h:Heap) (K:VK) (Kp:PK) :
  Pc Go.Proofs.Tryz.prog C D rS Go.Proofs.Tryz.f165 [.pointer r] h K Kp=tO C D r h K Kp:=by kernel_rfl
theorem zX {r:Option Addr} {h:Heap} {K:VK} {Kp:PK} (H:tO QP (kQ Go.Proofs.Tryz.prog) r h K Kp):QP rD #[.pointer r] h K Kp :=
 zH rS (by kernel_rfl) Go.Proofs.Tryz.func165 (by kernel_rfl) (by rw [BO]; exact H)
theorem yV {b:Option Addr} {bn bc:Nat} {atv width:Int} {h:Heap} {K:VK} {Kp:PK} (H:ss QP b bn bc atv width h K Kp):QP qg #[.slice b bn bc,.int .i64 atv,.int .i64 width] h K Kp :=
 fJ (Hints.mk (fun i=>none) (fun i=>bif Nat.beq i 3 then some ([(7,.int .u64),(10,.int .i64)],4294966656) else (none)) (fun i=>none) []) (by kernel_rfl) Go.Proofs.Tryz.func166 (by kernel_rfl) (fun C=>ss C b bn bc atv width h K Kp) (fun C=>by kernel_rfl) H
noncomputable def pG:Hints:=Hints.mk (fun i=>none)
 (fun i=>none)
 (fun i=>none) []
theorem yJ (C:gl) (cap0:Addr) (cap1:Addr) (cap2:Addr) (cap3:Addr) (h:Heap) (K:VK) (Kp:PK) :
  fnD Go.Proofs.Tryz.prog C pG Go.Proofs.Tryz.f192 [.pointer (some cap0),.pointer (some cap1),.pointer (some cap2),.pointer (some cap3)] h K Kp=p9 C cap0 cap1 cap2 cap3 h K Kp:=by kernel_rfl
theorem ye {r:Option Addr} {h:Heap} {K:VK} {Kp:PK} (H:qX QP r h K Kp):QP pB #[.pointer r] h K Kp :=
 fJ (Hints.mk (fun i=>bif Nat.beq i 4 then some ([9],.take 0 <| .take 1 <| .take 2 <| .take 4 <| .take 5 <| .take 6 <| .take 3 <| .take 7 <| .take 8 <| .bar 9 [] <| .take 10 <| .take 11 <| .done) else (none)) (fun i=>none) (fun i=>none) []) (by kernel_rfl) Go.Proofs.Tryz.func193 (by kernel_rfl) (fun C=>qX C r h K Kp) (fun C=>by kernel_rfl) H
theorem zT {b:Option Addr} {bn bc:Nat} {atv width:Int} {h:Heap} {K:VK} {Kp:PK} (H:tK QP b bn bc atv width h K Kp):QP rA #[.slice b bn bc,.int .i64 atv,.int .i64 width] h K Kp :=
 fJ (Hints.mk (fun i=>none) (fun i=>bif Nat.beq i 3 then some ([(7,.int .u8),(10,.int .i64)],2147483008) else (none)) (fun i=>none) []) (by kernel_rfl) Go.Proofs.Tryz.func207 (by kernel_rfl) (fun C=>tK C b bn bc atv width h K Kp) (fun C=>by kernel_rfl) H
end Go.Den.YtbknfejmdekhpaaGreat
namespace Go.Bm
open Go Go.Den Go.Den.YtbknfejmdekhpaaGreat
open Go.Ar (u8s gO)
theorem kC {α:Type} {l:List α} {i:Nat} {x:α} (h:l[i]? = some x):l.take (i+1)=l.take i++[x]:=by
 obtain ⟨hi,he⟩:=List.getElem?_eq_some_iff.1 h
 rw [k6 hi,he]
def xW:Nat->Nat->List Nat
 | 0,n=>[n % 128]
 | f+1,n=>if n<128 then [n] else (n % 128+128)::xW f (n / 128)
def grp (n:Nat):List Nat:=xW 10 n
def Jt (d n:Nat):List Nat:=(List.range d).map fun i=>n / 128 ^ i % 128+128
theorem Mi:∀ (d f n:Nat),d<f->n / 128 ^ d<128->(∀ j,j<d->128<=n / 128 ^ j)->xW f n=Jt d n++[n / 128 ^ d]
 | 0,f+1,n,_,h,_=>by
  rw [tr,C6] at h ⊢
  show (if n<128 then [n] else _)=_
  rw [if_pos h]
  rfl
 | d+1,f+1,n,hf,h,hj=>by
  have h0:=hj 0 (by omega)
  rw [tr,C6] at h0
  have hd:∀ k,n / 128 / 128 ^ k=n / 128 ^ (k+1):=fun k=>by rw [yF,jA,gS]
  have ih:=Mi d f (n / 128) (by omega) (by rw [hd]; exact h) (fun j hjd=>by rw [hd]; exact hj (j+1) (by omega))
  show (if n<128 then [n] else (n % 128+128)::xW f (n / 128))=_
  rw [if_neg (by omega),ih,hd]
  have e:Jt (d+1) n=(n % 128+128)::Jt d (n / 128):=by
   unfold Jt
   rw [List.range_succ_eq_map,GS,List.map_map,tr,C6]
   congr 1
   refine List.map_congr_left fun i _=>?_
   show n / 128 ^ (i+1) % 128+128=_
   rw [hd]
  rw [e]
  rfl
theorem Mh:∀ (f n:Nat),∀ x∈xW f n,x<256
 | 0,n=>fun x hx=>by rw [List.mem_singleton.1 hx]; omega
 | f+1,n=>fun x hx=>by
  have hx:x∈(if n<128 then [n] else (n % 128+128)::xW f (n / 128)):=hx
  split at hx
  ·rw [List.mem_singleton.1 hx]; omega
  ·rcases List.mem_cons.1 hx with rfl | hx
   ·omega
   ·exact Mh f _ x hx
theorem JV:∀ (f n:Nat),1<=(xW f n).length/\(xW f n).length<=f+1
 | 0,n=>⟨gg _,gg _⟩
 | f+1,n=>by
  show 1<=(if n<128 then [n] else (n % 128+128)::xW f (n / 128)).length/\(if n<128 then [n] else (n % 128+128)::xW f (n / 128)).length<=_
  have:=JV f (n / 128)
  split
  ·exact ⟨gg _,by show 1<=_; omega⟩
  ·rw [gp]; omega
theorem Dy {n:Nat}:∀ x∈grp n,x<256:=Mh 10 n
theorem uk (n:Nat):1<=(grp n).length/\(grp n).length<=11:=JV 10 n
def jF (x j:Nat):Nat:=x / 2 ^ (8-j)*2 ^ (8-j)
def Ta:Bool:=(List.range 256).all fun x=>(List.range 8).all fun j=>Nat.beq (jF x j ||| (x / 2 ^ (7-j) % 2)*2 ^ (7-j)) (jF x (j+1)) && Nat.blt (jF x j) 256 && Nat.blt ((x / 2 ^ (7-j) % 2)*2 ^ (7-j)) 256
theorem Rw:Ta=true:=by kernel_rfl
theorem LJ {x j:Nat} (hx:x<256) (hj:j<8):jF x j ||| (x / 2 ^ (7-j) % 2)*2 ^ (7-j)=jF x (j+1)/\jF x j<256/\(x / 2 ^ (7-j) % 2)*2 ^ (7-j)<256:=by
 have h:=List.all_eq_true.1 (List.all_eq_true.1 Rw x (List.mem_range.2 hx)) j (List.mem_range.2 hj)
 simp only [gH] at h
 exact ⟨iS h.1.1,fB h.1.2,fB h.2⟩
section
variable {h0 h:Heap} {F:List Nat} {A B D:List Ent}
theorem Slot.stV {t:TypeId} {n c i:Nat} {q:Option Addr} {xs:List Value} {v:Value} (hd:Slot t 1 D q n c xs) (H:Hp h0 F h (A++(D++B))) (hi:i<n) (hv:v.oneCell'=true) {K:Heap->Prop}
  (hk:∀ D' h',Slot t 1 D' q n c (xs.set i v)->Hp h0 F h' (A++(D'++B))->K h'):∃ b,q=some ⟨b,0,none⟩/\Go.Den.stV h ⟨b,i,none⟩ v K:=by
 obtain ⟨hl,⟨rfl,rfl,rfl,rfl⟩ | ⟨b,rest,rfl,rfl,hc⟩⟩:=hd
 ·omega
 ·refine ⟨b,rfl,?_⟩
  rw [gu] at hl
  have hlen:i<(xs++rest).length:=by rw [fA]; omega
  have he:(xs++rest).set i v=xs.set i v++rest:=mc _ _ (by omega)
  refine gq (i:=i) H A.length (by rw [gM (gg _),iH]; rfl) hlen hv fun h' _ H'=>?_
  refine hk [⟨b,true,t,xs.set i v++rest⟩] h' ⟨by rw [gB]; omega, .inr ⟨b,rest,rfl,rfl,by rw [fA,gB,<- fA]; exact hc⟩⟩ (H'.as ?_)
  rw [jl _ _ (gg _),iH,<- he]
  rfl
theorem uH (l:List Nat) (x:Nat):u8s (l++[x])=u8s l++[.int .u8 (x:Nat)]:=by simp [u8s]
theorem Jb (l:List Nat) (x y:Nat):(u8s (l++[x])).set l.length (.int .u8 (y:Nat))=u8s (l++[y]):=by
 rw [uH,uH,jl _ _ (by rw [gO]; exact gg _),gO,iH]
 rfl
end
section
variable {h0 h:Heap} {F:List Nat} {A B D:List Ent} {K:VK} {Kp:PK} {q:Option Addr} {c:Nat} {bs:List Nat} {x:Nat}
set_option maxHeartbeats 2000000 in
theorem QB (hsl:Slot gA 1 D q bs.length c (u8s bs)) (H:Hp h0 F h (A++(D++B))) (hx:x<256) (hl:bs.length<=1000000000)
  (hk:∀ D' q' c' h',Slot gA 1 D' q' (bs++[x]).length c' (u8s (bs++[x]))->Hp h0 F h' (A++(D'++B))->K (.slice q' (bs++[x]).length c') h') :
  CP sK #[.slice q bs.length c,.int .i64 ((8*bs.length:Nat):Int),.int .u8 (x:Nat),.int .i64 8] h K Kp:=by
 refine AY ?_
 unfold vc
 refine fw ((7:Int)) (by exact i64_in _ (by omega) (by omega)) ?_
 refine ⟨fun f vs h'=>∃ (j:Nat) (bb:List Nat) (D':List Ent) (q':Option Addr) (c':Nat),j+f=8/\bb=(if j=0 then bs else bs++[jF x j])/\vs=[.slice q' bb.length c',.int .i64 ((8*bs.length+j:Nat):Int),.int .i64 (7-(j:Int))] /\
  Slot gA 1 D' q' bb.length c' (u8s bb)/\Hp h0 F h' (A++(D'++B)),⟨8,0,bs,D,q,c,rfl,rfl,rfl,hsl,H⟩,?_⟩
 clear H hsl
 rintro f h u qa na ca ta ia ⟨j,bb,D,q,c,hjf,hbb,hxx,hsl,H⟩
 injection hxx with hx1 hxx
 injection hxx with hx2 hxx
 injection hxx with hx3 hxx
 injection hx1 with hx1 hx4 hx5
 injection hx2 with _ hx2
 injection hx3 with _ hx3
 subst qa na ca ta ia
 refine fL (fun h4=>?_) fun h4=>?_
 ·have hj:j<8:=by omega
  obtain ⟨u1,u2,u3⟩:=LJ hx hj
  refine ⟨fun vs h'=>∃ (D':List Ent) (q':Option Addr) (c':Nat),vs=[.slice q' (bs++[jF x j]).length c']/\Slot gA 1 D' q' (bs++[jF x j]).length c' (u8s (bs++[jF x j]))/\Hp h0 F h' (A++(D'++B)),?_,?_⟩
  ·refine fw (((j:Nat):Int)) (by exact (kM (8*bs.length+j) 8).trans (by omega)) ?_
   refine iA (fun h5=>?_) fun h5=>?_
   ·have hj0:j=0:=by omega
    rw [if_pos hj0] at hbb
    subst hbb
    refine fV H fun r h H=>?_
    have H:Hp h0 F h (A++(D++(B++[⟨r,true,gA,[.int .u8 0]⟩]))):=H.as (by simp only [fC])
    refine Slot.app (m:=1) (new:=[.int .u8 0]) hsl H rfl (Hp.n9 (rest:=[]) (cs:=[.int .u8 0]) H (fX _ (fX _ (fX _ (List.mem_singleton.2 rfl)))) rfl) rfl (fun v hv=>by rw [List.mem_singleton.1 hv]; rfl) (by decide) (by omega) fun D' q' c' h' hsl' H'=>?_
    have e0:jF x j=0:=by rw [hj0]; unfold jF; rw [show 8-0=8 by rfl,lf (by omega),kK]
    rw [e0]
    refine ⟨D',q',c',?_,?_,?_⟩
    ·rw [fA]; rfl
    ·rw [fA,uH]; exact hsl'
    ·have H2:Hp h0 F h' ((A++(D'++B))++[⟨r,true,gA,[.int .u8 0]⟩]):=H'.as (by simp only [fC])
     exact Hp.pre H2
   ·rw [if_neg (by omega)] at hbb
    subst hbb
    exact ⟨D,q,c,rfl,hsl,H⟩
  clear H hsl hbb bb
  rintro h u qa na ca ⟨D,q,c,hxx,hsl,H⟩
  injection hxx with hx1 hxx
  injection hx1 with hx1 hx4 hx5
  subst qa na ca
  have hlen:(bs++[jF x j]).length=bs.length+1:=by rw [fA]; rfl
  have ic:(u8s (bs++[jF x j]))[bs.length]? = some (.int .u8 (jF x j:Nat)):=by
   rw [uH,gM (by rw [gO]; exact gg _),gO,iH]
   rfl
  obtain ⟨b,hqb,hc⟩:=Slot.cell hsl H ic
  subst hqb
  refine fw (((bs.length:Nat):Int)) (by exact fO _ _ (by rw [show ((8*bs.length+j:Nat):Int).tdiv 8=(((8*bs.length+j) / 8:Nat):Int) from rfl]; omega) (by omega) (by omega)) ?_
  refine fH (by rw [hlen]; omega) (gv (a:=⟨b,0,none⟩) ?_)
  rw [show (7-(j:Int))=((7-j:Nat):Int) by omega]
  refine fH (by omega) ?_
  refine fw (((x / 2 ^ (7-j):Nat):Int)) (by exact lG (by show 7-j<=8; omega)) ?_
  have hxd:x / 2 ^ (7-j)<256:=ir (kz _ _) hx
  refine fw (((x / 2 ^ (7-j) % 2:Nat):Int)) (by exact (I1 _ 1 hxd (by decide)).trans (by rw [kR])) ?_
  refine fw (((j:Nat):Int)) (by exact (kM (8*bs.length+j) 8).trans (by omega)) ?_
  refine fw (((7-j:Nat):Int)) (by exact fO _ _ (by omega) (by omega) (by omega)) ?_
  refine fH (by omega) ?_
  refine fw ((((x / 2 ^ (7-j) % 2)*2 ^ (7-j):Nat):Int)) (by exact lP (by show 7-j<=8; omega) (wr8 _ (by omega) (by omega))) ?_
  rw [fD,gu]
  refine fz (x:=((jF x j:Nat):Int)) (by rw [gC,fN]; exact hc) ?_
  refine fw (((jF x (j+1):Nat):Int)) (by exact (or8 _ _ u2 u3).trans (by rw [u1])) ?_
  refine fH (by rw [hlen]; omega) (gv (a:=⟨b,0,none⟩) ?_)
  rw [gC,fN]
  obtain ⟨b',hb',hst⟩:=Slot.stV (i:=bs.length) (v := .int .u8 ((jF x (j+1):Nat):Int)) hsl H (by omega) rfl (K:=fun h_29=>fG (IntKind.i64.wrap (((8*bs.length+j:Nat):Int)+1)) fun z_30=>fG (IntKind.i64.wrap (((7-j:Nat):Int)-1)) fun z_31=>∃ m_3,m_3<f/\∃ (j:Nat) (bb:List Nat) (D':List Ent) (q':Option Addr) (c':Nat),j+m_3=8/\bb=(if j=0 then bs else bs++[jF x j])/\[Value.slice (some ⟨b,0,none⟩) (bs++[jF x j.pred]).length c,Value.int .i64 z_30,Value.int .i64 z_31]=[.slice q' bb.length c',.int .i64 ((8*bs.length+j:Nat):Int),.int .i64 (7-(j:Int))] /\
   Slot gA 1 D' q' bb.length c' (u8s bb)/\Hp h0 F h_29 (A++(D'++B))) fun D' h' hsl' H'=>by
    refine fw (((8*bs.length+(j+1):Nat):Int)) (by exact fO _ _ (by omega) (by omega) (by omega)) ?_
    refine fw ((7-((j+1:Nat):Int))) (by exact fO _ _ (by omega) (by omega) (by omega)) ?_
    rw [Jb] at hsl'
    refine ⟨f-1,by omega,j+1,bs++[jF x (j+1)],D',some ⟨b,0,none⟩,c,by omega,by rw [if_neg (by omega)],?_,?_,H'⟩
    ·rw [fA,fA]; rfl
    ·rw [fA] at hsl' ⊢; exact hsl'
  injection hb' with hb'
  injection hb' with hb'
  subst hb'
  have e3:∀ k,(bs++[jF x k]).length=bs.length+1:=fun k=>by rw [fA]; rfl
  simp only [e3] at hst ⊢
  exact hst
 ·have hj:j=8:=by omega
  subst hj
  rw [if_neg (by decide)] at hbb
  have e8:jF x 8=x:=by unfold jF; simp
  rw [e8] at hbb
  subst hbb
  exact hk D q c h hsl H
end
open Go.Ar (u8s gO ql)
section
variable {h0 h:Heap} {F:List Nat} {A B D:List Ent} {K:VK} {Kp:PK} {q:Option Addr} {c:Nat} {bs:List Nat} {x:Nat}
set_option maxHeartbeats 2000000 in
theorem OO (hsl:Slot gA 1 D q bs.length c (u8s bs)) (H:Hp h0 F h (A++(D++B))) (hx:x<256) (hl:bs.length<=1000000000)
  (hk:∀ D' q' c' h',Slot gA 1 D' q' (bs++[x]).length c' (u8s (bs++[x]))->Hp h0 F h' (A++(D'++B))->K (.slice q' (bs++[x]).length c') h') :
  CP rB #[.slice q bs.length c,.int .i64 ((8*bs.length:Nat):Int),.int .u64 (x:Nat),.int .i64 8] h K Kp:=by
 refine zU ?_
 unfold tL
 refine fw ((7:Int)) (by exact i64_in _ (by omega) (by omega)) ?_
 refine ⟨fun f vs h'=>∃ (j:Nat) (bb:List Nat) (D':List Ent) (q':Option Addr) (c':Nat),j+f=8/\bb=(if j=0 then bs else bs++[jF x j])/\vs=[.slice q' bb.length c',.int .i64 ((8*bs.length+j:Nat):Int),.int .i64 (7-(j:Int))] /\
  Slot gA 1 D' q' bb.length c' (u8s bb)/\Hp h0 F h' (A++(D'++B)),⟨8,0,bs,D,q,c,rfl,rfl,rfl,hsl,H⟩,?_⟩
 clear H hsl
 rintro f h u qa na ca ta ia ⟨j,bb,D,q,c,hjf,hbb,hxx,hsl,H⟩
 injection hxx with hx1 hxx
 injection hxx with hx2 hxx
 injection hxx with hx3 hxx
 injection hx1 with hx1 hx4 hx5
 injection hx2 with _ hx2
 injection hx3 with _ hx3
 subst qa na ca ta ia
 refine fL (fun h4=>?_) fun h4=>?_
 ·have hj:j<8:=by omega
  obtain ⟨u1,u2,u3⟩:=LJ hx hj
  refine ⟨fun vs h'=>∃ (D':List Ent) (q':Option Addr) (c':Nat),vs=[.slice q' (bs++[jF x j]).length c']/\Slot gA 1 D' q' (bs++[jF x j]).length c' (u8s (bs++[jF x j]))/\Hp h0 F h' (A++(D'++B)),?_,?_⟩
  ·refine fw (((j:Nat):Int)) (by exact (kM (8*bs.length+j) 8).trans (by omega)) ?_
   refine iA (fun h5=>?_) fun h5=>?_
   ·have hj0:j=0:=by omega
    rw [if_pos hj0] at hbb
    subst hbb
    refine fV H fun r h H=>?_
    have H:Hp h0 F h (A++(D++(B++[⟨r,true,gA,[.int .u8 0]⟩]))):=H.as (by simp only [fC])
    refine Slot.app (m:=1) (new:=[.int .u8 0]) hsl H rfl (Hp.n9 (rest:=[]) (cs:=[.int .u8 0]) H (fX _ (fX _ (fX _ (List.mem_singleton.2 rfl)))) rfl) rfl (fun v hv=>by rw [List.mem_singleton.1 hv]; rfl) (by decide) (by omega) fun D' q' c' h' hsl' H'=>?_
    have e0:jF x j=0:=by rw [hj0]; unfold jF; rw [show 8-0=8 by rfl,lf (by omega),kK]
    rw [e0]
    refine ⟨D',q',c',?_,?_,?_⟩
    ·rw [fA]; rfl
    ·rw [fA,uH]; exact hsl'
    ·have H2:Hp h0 F h' ((A++(D'++B))++[⟨r,true,gA,[.int .u8 0]⟩]):=H'.as (by simp only [fC])
     exact Hp.pre H2
   ·rw [if_neg (by omega)] at hbb
    subst hbb
    exact ⟨D,q,c,rfl,hsl,H⟩
  clear H hsl hbb bb
  rintro h u qa na ca ⟨D,q,c,hxx,hsl,H⟩
  injection hxx with hx1 hxx
  injection hx1 with hx1 hx4 hx5
  subst qa na ca
  have hlen:(bs++[jF x j]).length=bs.length+1:=by rw [fA]; rfl
  have ic:(u8s (bs++[jF x j]))[bs.length]? = some (.int .u8 (jF x j:Nat)):=by
   rw [uH,gM (by rw [gO]; exact gg _),gO,iH]
   rfl
  obtain ⟨b,hqb,hc⟩:=Slot.cell hsl H ic
  subst hqb
  refine fw (((bs.length:Nat):Int)) (by exact fO _ _ (by rw [show ((8*bs.length+j:Nat):Int).tdiv 8=(((8*bs.length+j) / 8:Nat):Int) from rfl]; omega) (by omega) (by omega)) ?_
  refine fH (by rw [hlen]; omega) (gv (a:=⟨b,0,none⟩) ?_)
  rw [show (7-(j:Int))=((7-j:Nat):Int) by omega]
  refine fH (by omega) ?_
  refine fw (((x / 2 ^ (7-j):Nat):Int)) (by exact lG (by show 7-j<=64; omega)) ?_
  have hxd:x / 2 ^ (7-j)<256:=ir (kz _ _) hx
  refine fw (((x / 2 ^ (7-j) % 2:Nat):Int)) (by exact (Ku _ 1 (by omega) (by decide)).trans (by rw [kR])) ?_
  refine fw (((x / 2 ^ (7-j) % 2:Nat):Int)) (by exact wr8 _ (by omega) (by omega)) ?_
  refine fw (((j:Nat):Int)) (by exact (kM (8*bs.length+j) 8).trans (by omega)) ?_
  refine fw (((7-j:Nat):Int)) (by exact fO _ _ (by omega) (by omega) (by omega)) ?_
  refine fH (by omega) ?_
  refine fw ((((x / 2 ^ (7-j) % 2)*2 ^ (7-j):Nat):Int)) (by exact lP (by show 7-j<=8; omega) (wr8 _ (by omega) (by omega))) ?_
  rw [fD,gu]
  refine fz (x:=((jF x j:Nat):Int)) (by rw [gC,fN]; exact hc) ?_
  refine fw (((jF x (j+1):Nat):Int)) (by exact (or8 _ _ u2 u3).trans (by rw [u1])) ?_
  refine fH (by rw [hlen]; omega) (gv (a:=⟨b,0,none⟩) ?_)
  rw [gC,fN]
  obtain ⟨b',hb',hst⟩:=Slot.stV (i:=bs.length) (v := .int .u8 ((jF x (j+1):Nat):Int)) hsl H (by omega) rfl (K:=fun h_29=>fG (IntKind.i64.wrap (((8*bs.length+j:Nat):Int)+1)) fun z_30=>fG (IntKind.i64.wrap (((7-j:Nat):Int)-1)) fun z_31=>∃ m_3,m_3<f/\∃ (j:Nat) (bb:List Nat) (D':List Ent) (q':Option Addr) (c':Nat),j+m_3=8/\bb=(if j=0 then bs else bs++[jF x j])/\[Value.slice (some ⟨b,0,none⟩) (bs++[jF x j.pred]).length c,Value.int .i64 z_30,Value.int .i64 z_31]=[.slice q' bb.length c',.int .i64 ((8*bs.length+j:Nat):Int),.int .i64 (7-(j:Int))] /\
   Slot gA 1 D' q' bb.length c' (u8s bb)/\Hp h0 F h_29 (A++(D'++B))) fun D' h' hsl' H'=>by
    refine fw (((8*bs.length+(j+1):Nat):Int)) (by exact fO _ _ (by omega) (by omega) (by omega)) ?_
    refine fw ((7-((j+1:Nat):Int))) (by exact fO _ _ (by omega) (by omega) (by omega)) ?_
    rw [Jb] at hsl'
    refine ⟨f-1,by omega,j+1,bs++[jF x (j+1)],D',some ⟨b,0,none⟩,c,by omega,by rw [if_neg (by omega)],?_,?_,H'⟩
    ·rw [fA,fA]; rfl
    ·rw [fA] at hsl' ⊢; exact hsl'
  injection hb' with hb'
  injection hb' with hb'
  subst hb'
  have e3:∀ k,(bs++[jF x k]).length=bs.length+1:=fun k=>by rw [fA]; rfl
  simp only [e3] at hst ⊢
  exact hst
 ·have hj:j=8:=by omega
  subst hj
  rw [if_neg (by decide)] at hbb
  have e8:jF x 8=x:=by unfold jF; simp
  rw [e8] at hbb
  subst hbb
  exact hk D q c h hsl H
end
def wrE (w:Nat) (q:Option Addr) (c:Nat) (bs:List Nat):Ent:=⟨w,true,Bj,[.slice q bs.length c,.int .i64 ((8*bs.length:Nat):Int),.int .i64 536870912]⟩
def WrL (w:Nat) (bs:List Nat) (L:List Ent):Prop:=∃ q c D,Slot gA 1 D q bs.length c (u8s bs)/\L=wrE w q c bs::D
theorem WrL.w {w:Nat} {bs:List Nat} {L:List Ent} (h:WrL w bs L):L.all Ent.w=true:=by
 obtain ⟨q,c,D,hs,rfl⟩:=h
 rw [ua,hs.w]
 rfl
section
variable {h0 h:Heap} {F:List Nat} {L:List Ent} {K:VK} {Kp:PK} {w:Nat} {bs:List Nat} {x:Nat}
theorem Iy (hk:∀ w h',Hp h [] h' [wrE w none 0 []]->K (.tuple #[.pointer (some ⟨w,0,none⟩),.int .i64 0]) h'):CP sM #[.int .i64 67108864] h K Kp:=by
 refine AZ ?_
 unfold vd
 refine fL (fun h1=>absurd h1 (by decide)) fun _=>?_
 refine fL (fun h1=>absurd h1 (by decide)) fun _=>?_
 refine fw ((536870912:Int)) (by exact fO _ _ (by decide) (by decide) (by decide)) ?_
 exact fV (Hp.nil h []) fun r h H=>hk r h H
set_option maxHeartbeats 2000000 in
theorem Qn (H:Hp h0 F h L) (hw:WrL w bs L) (hx:x<256) (hl:bs.length<=60000000) (hk:∀ L' h',WrL w (bs++[x]) L'->Hp h0 F h' L'->K (.int .i64 0) h') :
  CP rC #[.pointer (some ⟨w,0,none⟩),.int .u64 (x:Nat),.int .i64 8] h K Kp:=by
 obtain ⟨q,c,D,hs,rfl⟩:=hw
 refine zW ?_
 unfold tN
 refine fL (fun h1=>absurd h1 (by decide)) fun _=>?_
 refine fL (fun h1=>absurd h1 (by decide)) fun _=>?_
 refine ⟨fun vs h'=>vs=[.bool false]/\h'=h,?_,?_⟩
 ·refine fL (fun _=>?_) fun h1=>absurd (by decide) h1
  refine fH (by decide) ?_
  refine fw (((x / 2 ^ 8:Nat):Int)) (by exact lG (i:=8) (by decide)) ?_
  rw [lf (by omega)]
  exact ⟨rfl,rfl⟩
 rintro h' u b ⟨hb,rfl⟩
 injection hb with hb _
 injection hb with hb
 subst hb
 refine fZ (by rfl) ?_
 refine gv (a:=⟨w,0,none⟩) (gv (a:=⟨w,0,none⟩) ?_)
 refine fz (hpA H 0 rfl rfl) ?_
 refine fw (((8*bs.length+8:Nat):Int)) (by exact fO _ _ (by omega) (by omega) (by omega)) ?_
 refine fz (hpA H 0 rfl rfl) ?_
 refine fL (fun h1=>absurd h1 (by omega)) fun _=>?_
 refine gv (a:=⟨w,0,none⟩) (gv (a:=⟨w,0,none⟩) ?_)
 refine fU (hpA H 0 rfl rfl) (fz (hpA H 0 rfl rfl) ?_)
 have H1:Hp h0 F h' ([wrE w q c bs]++(D++[])):=H.as (by simp)
 refine OO hs H1 hx (by omega) fun D' q' c' h hs' H=>?_
 refine ⟨_,_,_,rfl,?_⟩
 refine gv (a:=⟨w,0,none⟩) ?_
 refine stA H 0 rfl rfl rfl fun h H=>?_
 refine gv (a:=⟨w,0,none⟩) ?_
 refine fz (hpA H 0 rfl rfl) ?_
 refine fw (((8*(bs++[x]).length:Nat):Int)) (by exact fO _ _ (by have:(bs++[x]).length=bs.length+1:=fA; omega) (by omega) (by have:(bs++[x]).length=bs.length+1:=fA; omega)) ?_
 refine gv (a:=⟨w,0,none⟩) ?_
 refine stA H 0 rfl rfl rfl fun h H=>?_
 have H:Hp h0 F h (wrE w q' c' (bs++[x])::(D'++[])):=H
 rw [fT] at H
 exact hk _ h ⟨q',c',D',hs',rfl⟩ H
theorem Qq (i:Nat):(2:Nat) ^ (7*i)=128 ^ i:=by rw [Nat.pow_mul]
theorem SI:((List.range 128).all fun y=>Nat.beq (y ||| 128) (y+128))=true:=by decide +kernel
set_option maxHeartbeats 4000000 in
theorem NN {n:Nat} (H:Hp h0 F h L) (hw:WrL w bs L) (hn:n<18446744073709551616) (hl:bs.length<=60000000) (hk:∀ L' h',WrL w (bs++grp n) L'->Hp h0 F h' L'->K (.int .i64 0) h') :
  CP mT #[.pointer (some ⟨w,0,none⟩),.int .u64 (n:Nat)] h K Kp:=by
 refine zV ?_
 unfold tM
 have hd:∀ k,n / 128 ^ k / 128=n / 128 ^ (k+1):=fun k=>by rw [yF,jA]
 refine fw (((n / 128 ^ 1:Nat):Int)) (by exact lG (i:=7) (by decide)) ?_
 refine ⟨fun m vs h'=>∃ k:Nat,1<=k/\m=n / 128 ^ k/\vs=[.int .i64 (k:Nat),.int .u64 ((n / 128 ^ k:Nat):Int)]/\(∀ j,j+1<k->128<=n / 128 ^ j)/\h'=h,⟨n / 128 ^ 1,1,gg _,rfl,rfl,fun j hj=>by omega,rfl⟩,?_⟩
 rintro m h' u xa xb ⟨k,hk1,hm,hxx,hge,rfl⟩
 injection hxx with hx1 hxx
 injection hxx with hx2 hxx
 injection hx1 with _ hx1
 injection hx2 with _ hx2
 subst xa xb
 have hk11:k<=11:=by
  refine Decidable.byContradiction fun hh=>?_
  have h1:=hge 10 (by omega)
  have h2:n / 128 ^ 10=0:=lf (Nat.lt_trans hn (by decide))
  omega
 refine fL (fun h1=>?_) fun h1=>?_
 ·refine fw (((k+1:Nat):Int)) (by exact fO _ _ (by omega) (by omega) (by omega)) ?_
  refine fw (((n / 128 ^ (k+1):Nat):Int)) (by exact (lG (i:=7) (by decide)).trans (by rw [<- hd])) ?_
  have h1:0<n / 128 ^ k:=by omega
  refine ⟨n / 128 ^ (k+1),?_,k+1,by omega,rfl,rfl,fun j hj=>?_,rfl⟩
  ·rw [hm,<- hd]
   exact Nat.div_lt_self h1 (by decide)
  ·by_cases hjk:j+1<k
   ·exact hge j hjk
   ·have:j+1=k:=by omega
    rw [<- this,<- hd] at h1
    have:=(Nat.div_pos_iff.1 h1).2
    omega
 have hk10:n / 128 ^ k=0:=by omega
 have hlast:n / 128 ^ (k-1)<128:=by
  have e:=hd (k-1)
  rw [show k-1+1=k by omega,hk10] at e
  rcases Nat.div_eq_zero_iff.1 e with e | e
  ·cases e
  ·exact e
 have hk10':k<=10:=by
  refine Decidable.byContradiction fun hh=>?_
  have h1:=hge 9 (by omega)
  have h2:n / 128 ^ 9<128:=(Nat.div_lt_iff_lt_mul (by decide)).2 (Nat.lt_trans hn (by decide))
  omega
 have hgrp:=Mi (k-1) 10 n (by omega) hlast (fun j hj=>hge j (by omega))
 have hgl:(grp n).length=k:=by
  unfold grp
  rw [hgrp,fA,gJ]
  unfold Jt
  rw [iu,List.length_range]
  omega
 have hgi:∀ i,i<k->(grp n)[i]? = some (if i+1<k then n / 128 ^ i % 128+128 else n / 128 ^ i):=fun i hi=>by
  unfold grp
  rw [hgrp]
  have hpl:(Jt (k-1) n).length=k-1:=by unfold Jt; rw [iu,List.length_range]
  by_cases h2:i+1<k
  ·rw [gk (by omega),if_pos h2]
   unfold Jt
   rw [gL,List.getElem?_range (by omega)]
   rfl
  ·rw [gM (by omega),if_neg h2,hpl,show i-(k-1)=0 by omega,show k-1=i by omega]
   rfl
 obtain ⟨q,c,D,hs,rfl⟩:=hw
 refine gv (a:=⟨w,0,none⟩) ?_
 refine fw (((8*k:Nat):Int)) (by exact fO _ _ (by omega) (by omega) (by omega)) ?_
 refine gv (a:=⟨w,0,none⟩) ?_
 refine fz (hpA H 0 rfl rfl) ?_
 refine fw (((8*bs.length+8*k:Nat):Int)) (by exact fO _ _ (by omega) (by omega) (by omega)) ?_
 refine fz (hpA H 0 rfl rfl) ?_
 refine fL (fun h1=>absurd h1 (by omega)) fun _=>?_
 refine ⟨fun m vs h'=>∃ (i:Nat) (L':List Ent),i+m=k/\vs=[.int .i64 (i:Nat)]/\WrL w (bs++(grp n).take i) L'/\Hp h0 F h' L',⟨k,0,_,by omega,rfl,⟨q,c,D,by rw [nu,fT]; exact hs,by rw [nu,fT]⟩,H⟩,?_⟩
 clear H hs
 rintro m h u xa ⟨i,L',him,hxx,⟨q,c,D,hs,rfl⟩,H⟩
 injection hxx with hx1 hxx
 injection hx1 with _ hx1
 subst xa
 have htl:(bs++(grp n).take i).length<=bs.length+k:=by rw [fA,iC]; omega
 refine fL (fun h1=>?_) fun h1=>?_
 ·have hi:i<k:=by omega
  refine fw (((7*i:Nat):Int)) (by exact fO _ _ (by omega) (by omega) (by omega)) ?_
  refine fH (by omega) ?_
  refine fw (((n / 128 ^ i:Nat):Int)) (by exact (lG (by show 7*i<=64; omega)).trans (by rw [Qq])) ?_
  refine fw (((n / 128 ^ i % 256:Nat):Int)) (by rw [IntKind.wrap_u8]; omega) ?_
  refine fw (((n / 128 ^ i % 128:Nat):Int)) (by exact (I1 _ 127 (by omega) (by decide)).trans (by have:=jH (n / 128 ^ i % 256) 7; rw [show (127:Nat)=2 ^ 7-1 from rfl,this]; omega)) ?_
  obtain ⟨y,hy⟩:∃ y,y=(if i+1<k then n / 128 ^ i % 128+128 else n / 128 ^ i):=⟨_,rfl⟩
  have hgy:=hgi i hi
  rw [<- hy] at hgy
  have hy256:y<256:=Dy y (fS hgy)
  refine ⟨fun vs h2=>vs=[.int .u8 (y:Nat)]/\h2=h,?_,?_⟩
  ·refine fw (((k-1:Nat):Int)) (by exact fO _ _ (by omega) (by omega) (by omega)) ?_
   refine fL (fun h2=>?_) fun h2=>?_
   ·rw [if_pos (by omega)] at hy
    refine fw (((y:Nat):Int)) (by exact (or8 _ 128 (by omega) (by decide)).trans (by rw [hy,iS (List.all_eq_true.1 SI (n / 128 ^ i % 128) (List.mem_range.2 (iP _ (by decide))))])) ?_
    exact ⟨rfl,rfl⟩
   ·rw [if_neg (by omega)] at hy
    have:i=k-1:=by omega
    rw [this] at hy ⊢
    rw [jC hlast,<- hy]
    exact ⟨rfl,rfl⟩
  rintro h2 u xa ⟨hxx,rfl⟩
  injection hxx with hx1 hxx
  injection hx1 with _ hx1
  subst xa
  refine gv (a:=⟨w,0,none⟩) (gv (a:=⟨w,0,none⟩) ?_)
  refine fU (hpA H 0 rfl rfl) (fz (hpA H 0 rfl rfl) ?_)
  have H1:Hp h0 F h2 ([wrE w q c (bs++(grp n).take i)]++(D++[])):=H.as (by simp)
  refine QB hs H1 hy256 (by omega) fun D' q' c' h hs' H=>?_
  have hnx:bs++(grp n).take i++[y]=bs++(grp n).take (i+1):=by rw [fC,<- kC hgy]
  rw [hnx] at hs' ⊢
  have hln:(bs++(grp n).take (i+1)).length=(bs++(grp n).take i).length+1:=by rw [<- hnx,fA]; rfl
  refine ⟨_,_,_,rfl,?_⟩
  refine gv (a:=⟨w,0,none⟩) ?_
  refine stA H 0 rfl rfl rfl fun h H=>?_
  refine gv (a:=⟨w,0,none⟩) ?_
  refine fz (hpA H 0 rfl rfl) ?_
  refine fw (((8*(bs++(grp n).take (i+1)).length:Nat):Int)) (by exact fO _ _ (by rw [hln] <;> omega) (by omega) (by rw [hln] <;> omega)) ?_
  refine gv (a:=⟨w,0,none⟩) ?_
  refine stA H 0 rfl rfl rfl fun h H=>?_
  have H:Hp h0 F h (wrE w q' c' (bs++(grp n).take (i+1))::(D'++[])):=H
  rw [fT] at H
  refine fw (((i+1:Nat):Int)) (by exact fO _ _ (by omega) (by omega) (by omega)) ?_
  exact ⟨m-1,by omega,i+1,_,by omega,rfl,⟨q',c',D',hs',rfl⟩,H⟩
 ·rw [gz (by omega)] at hs H
  exact hk _ h ⟨q,c,D,hs,rfl⟩ H
theorem Px (H:Hp h0 F h L) (hw:WrL w bs L) (hl:bs.length<=100000000) (hk:∀ D qo co h',Slot gA 1 D qo bs.length co (u8s bs)->Hp h0 F h' (L++D)->K (.slice qo bs.length co) h') :
  CP pA #[.pointer (some ⟨w,0,none⟩)] h K Kp:=by
 obtain ⟨q,c,D,hs,rfl⟩:=hw
 refine yd ?_
 unfold qW
 refine gv (a:=⟨w,0,none⟩) ?_
 refine fU (hpA H 0 rfl rfl) ?_
 have hr:rdO h q (bs.length*1) (u8s bs):=Slot.vt hs H fun e he=>gK _ he
 rcases oO bs.length with h1 | h1
 ·have hb0:bs=[]:=List.length_eq_zero_iff.1 h1
  subst hb0
  refine ⟨u8s [],hr,?_⟩
  rw [if_pos (by simp)]
  exact hk [] none 0 h (Slot.nil _ _) (by rw [fT]; exact H)
 ·refine Slot.app (A:=wrE w q c bs::D) (B:=[]) (D:=[]) (n:=0) (m:=bs.length) (new:=u8s bs) (Slot.nil gA 1) (by simpa using H) rfl hr (by rw [gO,gu]) (ql bs) h1 (by omega) fun D' q' c' h' hs' H'=>?_
  rw [fN] at hs' ⊢
  exact hk D' q' c' h' (by simpa using hs') (by simpa using H')
end
end Go.Bm
namespace Go.Den
section
variable {P:Program}
theorem EA {f:FuncId} {fn:Func} {args:List Value} {u:FrameMode} {h:Heap} {Kd:FrameMode->Heap->Prop} {Kdp:FrameMode->PK} (Hn:Hints) (hm:P.follows .mixedOrders=true)
  (hf:P.funcs[f]? = some fn) (hn:(fn.name == "runtime.NumGoroutine")=false) (H:fnD P (kW P) Hn fn args h (fun _ h'=>Kd u h') fun c h'=>Kdp u c h'):kQ P f args.toArray u h Kd Kdp:=by
 unfold fnD at H
 split at H
 ·rename_i c hb
  refine ⟨⟨fn,hf,hn,by rw [hb]; rfl⟩,fun w hw=>?_⟩
  subst hw
  have hact:(⟨args.toArray++Array.replicate (fn.ntmps-args.toArray.size) undef,[]⟩:Act)=⟨(args++List.replicate (fn.ntmps-args.length) undef).toArray,[]⟩:=by
   congr 1
   apply Array.toList_inj.1
   simp
  refine (callsD_of_wp (R:=fun e w'=>keeps w w'/\match e with
   | .returned _=>Kd u w'.heap
   | .panicked c=>Kdp u c w'.heap
   | .outgrown=>False) hf hb ?_).mono fun e u' w' he=>?_
  ·rw [hact]
   refine wp_mono (AI (sd P) hm w c _ _ w (keeps.refl w) (Dz _ _ _ _) H) fun e a w' he=>?_
   cases e with
   | normal =>
    obtain ⟨h1,_,h3⟩:=he
    simp only [fnQ] at h3
    split at h3
    ·rename_i hd
     obtain ⟨v,hr,hk⟩:=np (K:=fun _ h'=>Kd u h') h3
     exact ⟨hd,v,hr,h1,hk⟩
    ·exact h3.elim
   | ret =>
    obtain ⟨h1,_,h3⟩:=he
    simp only [fnQ] at h3
    split at h3
    ·rename_i hd
     obtain ⟨v,hr,hk⟩:=np (K:=fun _ h'=>Kd u h') h3
     exact ⟨hd,v,hr,h1,hk⟩
    ·exact h3.elim
   | panic c =>
    obtain ⟨h1,h3⟩:=he
    simp only [fnQ] at h3
    split at h3
    ·rename_i hd
     exact ⟨hd,h1,h3⟩
    ·exact h3.elim
   | outgrown=>exact he.elim
   | exit id=>exact he.2.2.elim
   | goto l=>exact he.2.2.elim
  ·obtain ⟨rfl,h1,h2⟩:=he
   refine ⟨h1,?_⟩
   cases e with
   | returned v=>exact h2
   | panicked c=>exact h2
   | outgrown=>exact h2
 ·exact H.elim
end
end Go.Den
namespace Go.Bm
open Go Go.Den Go.Den.YtbknfejmdekhpaaGreat
open Go.Ar (u8s)
def Ib (b:List Nat) (i:Nat):Nat->Nat->Nat->Int × Nat × Nat
 | 0,_,_=>(16,0,i)
 | f+1,j,n=>match b[i+j]? with
  | none=>(14,0,i)
  | some c=>if j=9/\1<c\/0<j/\c=0 then (16,0,i) else if c<128 then (0,n+c % 128*128 ^ j,i+j+1) else Ib b i f (j+1) (n+c % 128*128 ^ j)
def I7 (b:List Nat) (i:Nat):Int × Nat × Nat:=Ib b i 10 0 0
def Te:Bool:=(List.range 256).all fun x=>(List.range 8).all fun j=>Nat.beq (x / 2 ^ (8-j)*2 ||| x / 2 ^ (7-j) % 2) (x / 2 ^ (8-(j+1))) && Nat.beq (x / 2 ^ (8-j)*2+x / 2 ^ (7-j) % 2) (x / 2 ^ (8-(j+1)))
theorem Sb:Te=true:=by kernel_rfl
theorem Mn {x j:Nat} (hx:x<256) (hj:j<8):(x / 2 ^ (8-j)*2 ||| x / 2 ^ (7-j) % 2)=x / 2 ^ (8-(j+1))/\x / 2 ^ (8-j)*2+x / 2 ^ (7-j) % 2=x / 2 ^ (8-(j+1))/\x / 2 ^ (8-j)*2<256:=by
 have h:=List.all_eq_true.1 (List.all_eq_true.1 Sb x (List.mem_range.2 hx)) j (List.mem_range.2 hj)
 simp only [gH] at h
 have e:=iS h.2
 have h3:x / 2 ^ (8-(j+1))<256:=ir (kz _ _) hx
 exact ⟨iS h.1,e,by omega⟩
section
variable {h0 h:Heap} {F:List Nat} {K:VK} {Kp:PK} {q:Option Addr} {c i x:Nat} {b:List Nat}
theorem NP (hr:rdO h q (b.length*1) (u8s b)) (hb:b[i]? = some x) (hx:x<256) (hl:b.length<=140737488351299) (hk:K (.int .u8 (x:Nat)) h) :
  CP rA #[.slice q b.length c,.int .i64 ((8*i:Nat):Int),.int .i64 8] h K Kp:=by
 refine zT ?_
 unfold tK
 have hil:=(List.getElem?_eq_some_iff.1 hb).1
 obtain ⟨a,rfl,hc⟩:=m9 hr (i:=i) (v := .int .u8 (x:Nat)) (by unfold u8s; rw [gL,hb]; rfl)
 refine ⟨fun f vs h'=>∃ j:Nat,j+f=8/\vs=[.int .u8 ((x / 2 ^ (8-j):Nat):Int),.int .i64 (j:Nat)]/\h'=h,⟨8,0,rfl,by rw [An,lf (show x<2 ^ 8 by omega)]; rfl,rfl⟩,?_⟩
 rintro f h' u xa xb ⟨j,hjf,hxx,rfl⟩
 injection hxx with hx1 hxx
 injection hxx with hx2 hxx
 injection hx1 with _ hx1
 injection hx2 with _ hx2
 subst xa xb
 refine fL (fun h1=>?_) fun h1=>?_
 ·have hj:j<8:=by omega
  obtain ⟨d1,d2,d3⟩:=Mn hx hj
  have hb2:x / 2 ^ (7-j) % 2<256:=by omega
  have hxd:x / 2 ^ (7-j)<256:=ir (kz _ _) hx
  refine fw (((x / 2 ^ (8-j)*2:Nat):Int)) (by exact lP (i:=1) (by decide) (by rw [Nat.pow_one]; exact wr8 _ (by omega) (by omega))) ?_
  refine fw (((8*i+j:Nat):Int)) (by exact fO _ _ (by omega) (by omega) (by omega)) ?_
  refine fw (((i:Nat):Int)) (by exact fO _ _ (by rw [show ((8*i+j:Nat):Int).tdiv 8=(((8*i+j) / 8:Nat):Int) from rfl]; omega) (by omega) (by omega)) ?_
  refine fH (by omega) (gv (a:=a) ?_)
  rw [fD,gu]
  refine fz hc ?_
  refine fw (((8*i+j:Nat):Int)) (by exact fO _ _ (by omega) (by omega) (by omega)) ?_
  refine fw (((j:Nat):Int)) (by exact (kM (8*i+j) 8).trans (by omega)) ?_
  refine fw (((7-j:Nat):Int)) (by exact fO _ _ (by omega) (by omega) (by omega)) ?_
  refine fH (by omega) ?_
  refine fw (((x / 2 ^ (7-j):Nat):Int)) (by exact lG (by show 7-j<=8; omega)) ?_
  refine fw (((x / 2 ^ (7-j) % 2:Nat):Int)) (by exact (I1 _ 1 hxd (by decide)).trans (by rw [kR])) ?_
  refine fw (((x / 2 ^ (8-(j+1)):Nat):Int)) (by exact (or8 _ _ d3 hb2).trans (by rw [d1])) ?_
  refine fw (((j+1:Nat):Int)) (by exact fO _ _ (by omega) (by omega) (by omega)) ?_
  exact ⟨f-1,by omega,j+1,by omega,rfl,rfl⟩
 ·have hj:j=8:=by omega
  subst hj
  rw [iH,tr,C6]
  exact hk
theorem MG (hr:rdO h q (b.length*1) (u8s b)) (hb:b[i]? = some x) (hx:x<256) (hl:b.length<=140737488351299) (hk:K (.int .u64 (x:Nat)) h) :
  CP qg #[.slice q b.length c,.int .i64 ((8*i:Nat):Int),.int .i64 8] h K Kp:=by
 refine yV ?_
 unfold ss
 have hil:=(List.getElem?_eq_some_iff.1 hb).1
 obtain ⟨a,rfl,hc⟩:=m9 hr (i:=i) (v := .int .u8 (x:Nat)) (by unfold u8s; rw [gL,hb]; rfl)
 refine ⟨fun f vs h'=>∃ j:Nat,j+f=8/\vs=[.int .u64 ((x / 2 ^ (8-j):Nat):Int),.int .i64 (j:Nat)]/\h'=h,⟨8,0,rfl,by rw [An,lf (show x<2 ^ 8 by omega)]; rfl,rfl⟩,?_⟩
 rintro f h' u xa xb ⟨j,hjf,hxx,rfl⟩
 injection hxx with hx1 hxx
 injection hxx with hx2 hxx
 injection hx1 with _ hx1
 injection hx2 with _ hx2
 subst xa xb
 refine fL (fun h1=>?_) fun h1=>?_
 ·have hj:j<8:=by omega
  obtain ⟨d1,d2,d3⟩:=Mn hx hj
  have hb2:x / 2 ^ (7-j) % 2<256:=by omega
  have hxd:x / 2 ^ (7-j)<256:=ir (kz _ _) hx
  refine fw (((x / 2 ^ (8-j)*2:Nat):Int)) (by exact lP (i:=1) (by decide) (by rw [Nat.pow_one]; exact u64_in _ (by omega) (by omega))) ?_
  refine fw (((8*i+j:Nat):Int)) (by exact fO _ _ (by omega) (by omega) (by omega)) ?_
  refine fw (((i:Nat):Int)) (by exact fO _ _ (by rw [show ((8*i+j:Nat):Int).tdiv 8=(((8*i+j) / 8:Nat):Int) from rfl]; omega) (by omega) (by omega)) ?_
  refine fH (by omega) (gv (a:=a) ?_)
  rw [fD,gu]
  refine fz hc ?_
  refine fw (((8*i+j:Nat):Int)) (by exact fO _ _ (by omega) (by omega) (by omega)) ?_
  refine fw (((j:Nat):Int)) (by exact (kM (8*i+j) 8).trans (by omega)) ?_
  refine fw (((7-j:Nat):Int)) (by exact fO _ _ (by omega) (by omega) (by omega)) ?_
  refine fH (by omega) ?_
  refine fw (((x / 2 ^ (7-j):Nat):Int)) (by exact lG (by show 7-j<=8; omega)) ?_
  refine fw (((x / 2 ^ (7-j) % 2:Nat):Int)) (by exact (I1 _ 1 hxd (by decide)).trans (by rw [kR])) ?_
  refine fw (((x / 2 ^ (7-j) % 2:Nat):Int)) (by exact u64_in _ (by omega) (by omega)) ?_
  refine fw (((x / 2 ^ (8-(j+1)):Nat):Int)) (by exact (Jz _ _ (by omega) (by omega)).trans (by rw [d1])) ?_
  refine fw (((j+1:Nat):Int)) (by exact fO _ _ (by omega) (by omega) (by omega)) ?_
  exact ⟨f-1,by omega,j+1,by omega,rfl,rfl⟩
 ·have hj:j=8:=by omega
  subst hj
  rw [iH,tr,C6]
  exact hk
def rdE (r:Nat) (q:Option Addr) (n c i:Nat):Ent:=⟨r,true,wM,[.slice q n c,.int .i64 ((8*i:Nat):Int)]⟩
structure RdB (b:List Nat):Prop where
 b8:∀ x∈b,x<256
 bl:b.length<=140737488351299
variable {r:Nat} {D L:List Ent}
theorem Fy (H:Hp h0 F h (rdE r q b.length c i::D)) (hb:RdB b) (hi:i<=b.length) (hk:K (.int .i64 ((8*(b.length-i):Nat):Int)) h):CP mE #[.pointer (some ⟨r,0,none⟩)] h K Kp:=by
 refine yX ?_
 unfold sA
 have hbl:=hb.bl
 refine gv (a:=⟨r,0,none⟩) (gv (a:=⟨r,0,none⟩) ?_)
 refine fU (hpA H 0 rfl rfl) ?_
 refine fw (((8*b.length:Nat):Int)) (by exact fO _ _ (by omega) (by omega) (by omega)) ?_
 refine fz (hpA H 0 rfl rfl) ?_
 refine fw (((8*(b.length-i):Nat):Int)) (by exact fO _ _ (by omega) (by omega) (by omega)) ?_
 exact hk
theorem MN (H:Hp h0 F h (rdE r q b.length c i::D)) (hs:Slot gA 1 D q b.length c (u8s b)) (hb:RdB b) (hi:i<=b.length)
  (hk0:b[i]? = none->K (.tuple #[.int .u64 0,.int .i64 14]) h) (hk1:∀ x h',b[i]? = some x->Hp h0 F h' (rdE r q b.length c (i+1)::D)->K (.tuple #[.int .u64 (x:Nat),.int .i64 0]) h') :
  CP qh #[.pointer (some ⟨r,0,none⟩),.int .i64 8] h K Kp:=by
 refine yW ?_
 unfold su
 have hbl:=hb.bl
 refine fL (fun h1=>absurd h1 (by decide)) fun _=>?_
 refine fL (fun h1=>absurd h1 (by decide)) fun _=>?_
 refine Fy H hb hi ?_
 refine ⟨_,rfl,?_⟩
 refine fL (fun h1=>hk0 (iq (by omega))) fun h1=>?_
 obtain ⟨x,hx⟩:∃ x,b[i]? = some x:=⟨_,fP (by omega)⟩
 refine gv (a:=⟨r,0,none⟩) ?_
 refine fz (hpA H 0 rfl rfl) ?_
 refine fw (((8*(i+1):Nat):Int)) (by exact fO _ _ (by omega) (by omega) (by omega)) ?_
 refine gv (a:=⟨r,0,none⟩) ?_
 refine stA H 0 rfl rfl rfl fun h H=>?_
 have H:Hp h0 F h (rdE r q b.length c (i+1)::D):=H
 refine gv (a:=⟨r,0,none⟩) (gv (a:=⟨r,0,none⟩) ?_)
 refine fU (hpA H 0 rfl rfl) (fz (hpA H 0 rfl rfl) ?_)
 refine fw (((8*i:Nat):Int)) (by exact fO _ _ (by omega) (by omega) (by omega)) ?_
 refine MG (Slot.vt hs H fun e he=>gK _ he) hx (hb.b8 x (fS hx)) hb.bl ?_
 refine ⟨_,rfl,?_⟩
 exact hk1 x h hx H
theorem MW (H:Hp h0 F h (rdE r q b.length c i::D)) (hs:Slot gA 1 D q b.length c (u8s b)) (hb:RdB b) (hi:i<=b.length)
  (hk0:b[i]? = none->K (.tuple #[.int .u8 0,.bool false]) h) (hk1:∀ x h',b[i]? = some x->Hp h0 F h' (rdE r q b.length c (i+1)::D)->K (.tuple #[.int .u8 (x:Nat),.bool true]) h') :
  CP pB #[.pointer (some ⟨r,0,none⟩)] h K Kp:=by
 refine ye ?_
 unfold qX
 have hbl:=hb.bl
 refine Fy H hb hi ?_
 refine ⟨_,rfl,?_⟩
 refine fL (fun h1=>hk0 (iq (by omega))) fun h1=>?_
 obtain ⟨x,hx⟩:∃ x,b[i]? = some x:=⟨_,fP (by omega)⟩
 refine gv (a:=⟨r,0,none⟩) ?_
 refine fz (hpA H 0 rfl rfl) ?_
 refine fw (((8*(i+1):Nat):Int)) (by exact fO _ _ (by omega) (by omega) (by omega)) ?_
 refine gv (a:=⟨r,0,none⟩) ?_
 refine stA H 0 rfl rfl rfl fun h H=>?_
 have H:Hp h0 F h (rdE r q b.length c (i+1)::D):=H
 refine gv (a:=⟨r,0,none⟩) (gv (a:=⟨r,0,none⟩) ?_)
 refine fU (hpA H 0 rfl rfl) (fz (hpA H 0 rfl rfl) ?_)
 refine fw (((8*i:Nat):Int)) (by exact fO _ _ (by omega) (by omega) (by omega)) ?_
 refine NP (Slot.vt hs H fun e he=>gK _ he) hx (hb.b8 x (fS hx)) hb.bl ?_
 refine ⟨_,rfl,?_⟩
 exact hk1 x h hx H
end
theorem Pn {cap0 cap1 cap2 cap3:Addr} {u:FrameMode} {h:Heap} {Kd:FrameMode->Heap->Prop} {Kdp:FrameMode->PK} (H:p9 (kW Go.Proofs.Tryz.prog) cap0 cap1 cap2 cap3 h (fun _ h'=>Kd u h') fun c h'=>Kdp u c h') :
  kQ Go.Proofs.Tryz.prog ji #[.pointer (some cap0),.pointer (some cap1),.pointer (some cap2),.pointer (some cap3)] u h Kd Kdp :=
 EA pG (by kernel_rfl) Go.Proofs.Tryz.func192 (by kernel_rfl) (by rw [yJ]; exact H)
section
variable {h0 h:Heap} {F:List Nat} {K:VK} {Kp:PK} {q:Option Addr} {c i x:Nat} {b:List Nat} {r:Nat} {D:List Ent}
set_option maxHeartbeats 4000000 in
theorem Qj (H:Hp h0 F h (rdE r q b.length c i::D)) (hs:Slot gA 1 D q b.length c (u8s b)) (hb:RdB b) (hi:i<=b.length)
  (hk:∀ h',Hp h0 F h' (rdE r q b.length c (I7 b i).2.2::D)->K (.tuple #[.int .u64 ((I7 b i).2.1:Nat),.int .i64 (I7 b i).1]) h') :
  CP rD #[.pointer (some ⟨r,0,none⟩)] h K Kp:=by
 refine zX ?_
 unfold tO
 have hbl:=hb.bl
 refine fV H fun r1 h H=>?_
 refine fV H fun r3 h H=>?_
 refine fV H fun r5 h H=>?_
 have H:Hp h0 F h ((rdE r q b.length c i::D)++[⟨r1,true,mJ,[.pointer (some ⟨r,0,none⟩)]⟩,⟨r3,true,gj,[.int .u64 0]⟩,⟨r5,true,gR,[.int .i64 0]⟩]):=H.as (by simp only [fC,gm,gd])
 have H:=H.rot
 refine ja (H.cell 0 rfl rfl) (gv (a:=⟨r,0,none⟩) ?_)
 refine fz (hpA H 3 rfl rfl) ?_
 refine fV H fun r10 h H=>?_
 have H:=H.rot
 refine st0 H 0 rfl rfl rfl fun h H=>?_
 have H:Hp h0 F h ([⟨r10,true,gQ,[.int .i64 ((8*i:Nat):Int)]⟩,⟨r1,true,mJ,[.pointer (some ⟨r,0,none⟩)]⟩,⟨r3,true,gj,[.int .u64 ((0:Nat):Int)]⟩,⟨r5,true,gR,[.int .i64 0]⟩]++(rdE r q b.length c (i+0)::D)):=H
 have done:∀ {e:Int} {n p:Nat} {h:Heap},(e=0\/e≠0/\n=0/\p=i)->∀ {p' n':Nat},(e=0->p'=p/\n'=n)->(∀ h',Hp h0 F h' (rdE r q b.length c p::D)->K (.tuple #[.int .u64 (n:Nat),.int .i64 e]) h') ->
   Hp h0 F h ([⟨r10,true,gQ,[.int .i64 ((8*i:Nat):Int)]⟩,⟨r1,true,mJ,[.pointer (some ⟨r,0,none⟩)]⟩,⟨r3,true,gj,[.int .u64 (n':Nat)]⟩,⟨r5,true,gR,[.int .i64 e]⟩]++(rdE r q b.length c p'::D)) ->
   j5 (kQ Go.Proofs.Tryz.prog) (fun h_29=>ldI h_29 (⟨r3,0,none⟩:Addr) .u64 fun r_30=>ldI h_29 (⟨r5,0,none⟩:Addr) .i64 fun r_31=>K (.tuple #[.int .u64 r_30,.int .i64 r_31]) h_29) Kp [{ target := .fn (.func ji) #[.pointer (some ⟨r5,0,none⟩),.pointer (some ⟨r10,0,none⟩),.pointer (some ⟨r3,0,none⟩),.pointer (some ⟨r1,0,none⟩)],args:=#[] }] .returning h:=by
  intro e n p h he p' n' hp hk H
  show kQ Go.Proofs.Tryz.prog ji #[.pointer (some ⟨r5,0,none⟩),.pointer (some ⟨r10,0,none⟩),.pointer (some ⟨r3,0,none⟩),.pointer (some ⟨r1,0,none⟩)] .returning h _ _
  refine Pn ?_
  unfold p9
  refine fz (H.cell 3 rfl rfl) ?_
  rcases he with he | ⟨he,hn,hpi⟩
  ·refine jg (fun h1=>absurd he h1) fun _=>?_
   obtain ⟨rfl,rfl⟩:=hp he
   show ldI h ⟨r3,0,none⟩ .u64 _
   refine fz (H.cell 2 rfl rfl) (fz (H.cell 3 rfl rfl) ?_)
   exact hk h (Hp.suf H)
  ·refine jg (fun _=>?_) fun h1=>absurd h1 he
   refine ja (H.cell 1 rfl rfl) (fz (H.cell 0 rfl rfl) ?_)
   refine st0 H 2 rfl rfl rfl fun h H=>?_
   refine gv (a:=⟨r,0,none⟩) ?_
   refine stA H 4 rfl rfl rfl fun h H=>?_
   have H:Hp h0 F h ([⟨r10,true,gQ,[.int .i64 ((8*i:Nat):Int)]⟩,⟨r1,true,mJ,[.pointer (some ⟨r,0,none⟩)]⟩,⟨r3,true,gj,[.int .u64 0]⟩,⟨r5,true,gR,[.int .i64 e]⟩]++(rdE r q b.length c i::D)):=H
   show ldI h ⟨r3,0,none⟩ .u64 _
   refine fz (H.cell 2 rfl rfl) (fz (H.cell 3 rfl rfl) ?_)
   rw [hn,hpi] at hk
   exact hk h (Hp.suf H)
 refine ⟨fun f vs h'=>∃ (j n:Nat),1<=f/\j+f=10/\n<128 ^ j/\Ib b i f j n=I7 b i/\i+j<=b.length/\vs=[.int .i64 ((7*j:Nat):Int)] /\
  Hp h0 F h' ([⟨r10,true,gQ,[.int .i64 ((8*i:Nat):Int)]⟩,⟨r1,true,mJ,[.pointer (some ⟨r,0,none⟩)]⟩,⟨r3,true,gj,[.int .u64 (n:Nat)]⟩,⟨r5,true,gR,[.int .i64 0]⟩]++(rdE r q b.length c (i+j)::D)),⟨10,0,0,by omega,rfl,by decide,rfl,hi,rfl,H⟩,?_⟩
 clear H
 rintro f h u xa ⟨j,n,hf1,hjf,hn,hv,hij,hxx,H⟩
 obtain ⟨f,rfl⟩:∃ g,f=g+1:=⟨f-1,by omega⟩
 injection hxx with hx1 hxx
 injection hx1 with _ hx1
 subst xa
 refine ja (H.cell 1 rfl rfl) ?_
 have hsw:∀ p,(rdE r q b.length c p::D).all Ent.w=true:=fun p=>by rw [ua,hs.w]; rfl
 refine MW (Hp.mv H) hs hb hij (fun hnone=>?_) fun y h hy H'=>?_
 ·refine ⟨_,_,rfl,?_⟩
  refine ⟨fun _ _=>False,?_,fun _ _ hh=>hh.elim⟩
  refine gN (by rfl) ?_
  refine st0 H 2 rfl rfl rfl fun h H=>?_
  refine st0 H 3 rfl rfl rfl fun h H=>?_
  have hvp:I7 b i=(14,0,i):=by
   rw [<- hv]
   unfold Ib
   rw [hnone]
  rw [hvp] at hk
  exact done (e:=14) (n:=0) (p:=i) (n':=0) (p':=i+j) (.inr ⟨by decide,rfl,rfl⟩) (fun hh=>absurd hh (by decide)) hk H
 ·have H:=Hp.pg H (hsw _) H' (hsw _)
  clear H'
  have hy8:=hb.b8 y (fS hy)
  have hyl:=(List.getElem?_eq_some_iff.1 hy).1
  refine ⟨_,_,rfl,?_⟩
  have err:(j=9/\1<y\/0<j/\y=0)->stV h (⟨r3,0,none⟩:Addr) (.int .u64 0) fun h_32=>stV h_32 (⟨r5,0,none⟩:Addr) (.int .i64 16) fun h_33 =>
    j5 (kQ Go.Proofs.Tryz.prog) (fun h_29=>ldI h_29 (⟨r3,0,none⟩:Addr) .u64 fun r_30=>ldI h_29 (⟨r5,0,none⟩:Addr) .i64 fun r_31=>K (.tuple #[.int .u64 r_30,.int .i64 r_31]) h_29) Kp [{ target := .fn (.func ji) #[.pointer (some ⟨r5,0,none⟩),.pointer (some ⟨r10,0,none⟩),.pointer (some ⟨r3,0,none⟩),.pointer (some ⟨r1,0,none⟩)],args:=#[] }] .returning h_33:=fun hc=>by
   refine st0 H 2 rfl rfl rfl fun h H=>?_
   refine st0 H 3 rfl rfl rfl fun h H=>?_
   have hvp:I7 b i=(16,0,i):=by
    rw [<- hv]
    unfold Ib
    rw [hy]
    dsimp only
    rw [if_pos hc]
   rw [hvp] at hk
   exact done (e:=16) (n:=0) (p:=i) (n':=0) (p':=i+j+1) (.inr ⟨by decide,rfl,rfl⟩) (fun hh=>absurd hh (by decide)) hk H
  refine ⟨fun _ h'=>h'=h/\¬ (j=9/\1<y\/0<j/\y=0),?_,?_⟩
  ·refine fZ (by rfl) ?_
   refine iA (fun h9=>?_) fun h9=>?_
   ·refine fL (fun h10=>?_) fun h10=>?_
    ·refine fL (fun _=>err (.inl ⟨by omega,by omega⟩)) fun h11=>absurd h10 h11
    ·refine fL (fun h11=>?_) fun h11=>⟨rfl,by omega⟩
     refine iA (fun h12=>err (.inr ⟨by omega,by omega⟩)) fun h12=>⟨rfl,by omega⟩
   ·refine fL (fun h11=>?_) fun h11=>⟨rfl,by omega⟩
    refine iA (fun h12=>err (.inr ⟨by omega,by omega⟩)) fun h12=>⟨rfl,by omega⟩
  rintro h' u ⟨rfl,hnc⟩
  have hz:y % 128*128 ^ j<18446744073709551616:=by
   by_cases hj:j=9
   ·have h1:y % 128<=1:=by omega
    have h2:y % 128*128 ^ j<=1*128 ^ j:=gD _ h1
    rw [hj] at h2 ⊢
    have e9:(128:Nat) ^ 9=9223372036854775808:=by decide
    omega
   ·have h1:y % 128*128 ^ j<=127*128 ^ j:=gD _ (by omega)
    have h2:128 ^ j<=128 ^ 8:=im (by decide) (by omega)
    have e8:(128:Nat) ^ 8=72057594037927936:=by decide
    omega
  have hm127:y % 128*128 ^ j<=127*128 ^ j:=gD _ (by omega)
  have hp1:128 ^ (j+1)=128*128 ^ j:=by rw [jA,gS]
  refine fw (((y % 128:Nat):Int)) (by exact (I1 _ 127 hy8 (by decide)).trans (by have:=jH y 7; rw [show (127:Nat)=2 ^ 7-1 from rfl,this])) ?_
  refine fw (((y % 128:Nat):Int)) (by exact u64_in _ (by omega) (by omega)) ?_
  refine fH (by omega) ?_
  refine fw (((y % 128*128 ^ j:Nat):Int)) (by exact lP (by show 7*j<=64; omega) (by rw [Qq]; exact u64_in _ (by omega) (by omega))) ?_
  refine fz (H.cell 2 rfl rfl) ?_
  have hn64:n<18446744073709551616:=by
   have h2:128 ^ j<=128 ^ 9:=im (by decide) (by omega)
   have e9:(128:Nat) ^ 9=9223372036854775808:=by decide
   omega
  have hor:n ||| y % 128*128 ^ j=n+y % 128*128 ^ j:=by
   have:=Nat.shiftLeft_add_eq_or_of_lt (b:=n) (i:=7*j) (by rw [Qq]; exact hn) (y % 128)
   rw [Nat.shiftLeft_eq,Qq] at this
   rw [Nat.or_comm,<- this,Nat.add_comm]
  refine fw (((n+y % 128*128 ^ j:Nat):Int)) (by exact (Jz _ _ hn64 hz).trans (by rw [hor])) ?_
  refine st0 H 2 rfl rfl rfl fun h H=>?_
  refine fL (fun h13=>?_) fun h13=>?_
  ·refine fz (H.cell 2 rfl rfl) ?_
   refine st0 H 2 rfl rfl rfl fun h H=>?_
   refine st0 H 3 rfl rfl rfl fun h H=>?_
   have hvp:I7 b i=(0,n+y % 128*128 ^ j,i+j+1):=by
    rw [<- hv]
    unfold Ib
    rw [hy]
    dsimp only
    rw [if_neg hnc,if_pos (by omega)]
   rw [hvp] at hk
   exact done (e:=0) (n:=n+y % 128*128 ^ j) (p:=i+j+1) (n':=n+y % 128*128 ^ j) (p':=i+j+1) (.inl rfl) (fun _=>⟨rfl,rfl⟩) hk H
  ·refine fw (((7*(j+1):Nat):Int)) (by exact fO _ _ (by omega) (by omega) (by omega)) ?_
   refine ⟨f,by omega,j+1,n+y % 128*128 ^ j,by omega,by omega,by omega,?_,by omega,rfl,H⟩
   rw [<- hv]
   conv=>rhs; unfold Ib
   rw [hy]
   dsimp only
   rw [if_neg hnc,if_neg (by omega)]
end
open Go.Ar (u8s gO)
section
variable {h0 h:Heap} {F:List Nat} {K:VK} {Kp:PK} {q:Option Addr} {c i r:Nat} {b:List Nat} {D:List Ent}
theorem Iz (hr:rdO h q (b.length*1) (u8s b)) (hb:RdB b) (hk:∀ r q' c' D h',Slot gA 1 D q' b.length c' (u8s b)->Hp h [] h' (rdE r q' b.length c' 0::D)->K (.pointer (some ⟨r,0,none⟩)) h'):CP sN #[.slice q b.length c] h K Kp:=by
 refine A6 ?_
 unfold ve
 have hbl:=hb.bl
 have fin:∀ D q' c' h',Slot gA 1 D q' b.length c' (u8s b)->Hp h [] h' D->gE h' [.slice q' b.length c',.int .i64 0] wM fun r_3 h_4=>K (.pointer (some ⟨r_3,0,none⟩)) h_4:=fun D q' c' h' hs H=>by
  refine fV H fun r h2 H=>?_
  have H:=H.rot
  exact hk r q' c' D h2 hs H
 rcases oO b.length with h1 | h1
 ·have hb0:b=[]:=List.length_eq_zero_iff.1 h1
  subst hb0
  refine ⟨u8s [],hr,?_⟩
  rw [if_pos (by simp)]
  exact fin [] none 0 h (Slot.nil _ _) (Hp.nil h [])
 ·have H:=Hp.nil h []
  refine vk H hr (gO b) h1 (by omega) fun o rest h' he H'=>?_
  exact fin _ _ _ h' (Slot.one (by rw [gO,gu]) (by rw [fA,gO,gu])) H'
end
section
variable {hB:Heap} {K:VK} {Kp:PK} {q:Option Addr} {c:Nat} {b:List Nat}
end
theorem Oi {h:Heap} {q:Option Addr} {c i:Nat} {b:List Nat} (hr:rdO h q (b.length*1) (u8s b)) (hi:i<=b.length) (hc:b.length<=c):rdO h (we q c i 1) ((b.drop i).length*1) (u8s (b.drop i)):=by
 have hd:u8s (b.drop i)=(u8s b).drop i:=by simp [u8s,Ch]
 cases q with
 | none =>
  have h0:u8s b=[]:=hr
  have e:we none c i 1=none:=by unfold we; split <;> rfl
  rw [e,hd,h0]
  exact List.drop_nil
 | some a =>
  unfold we
  by_cases h1:c=i
  ·rw [if_pos h1]
   have:b.drop i=[]:=List.drop_eq_nil_of_le (by omega)
   rw [this]
   exact ⟨rfl,fun j v hj=>by simp [u8s] at hj⟩
  ·rw [if_neg h1]
   refine ⟨by rw [gO,gu],fun j v hj=>?_⟩
   rw [hd,kS] at hj
   have:=hr.2 _ v hj
   show ic h ((a.add (i*1)).add j)=_
   rw [gu,Go.Ar.PR]
   exact this
section
variable {hB:Heap} {K:VK} {Kp:PK} {q:Option Addr} {c:Nat} {b:List Nat}
end
end Go.Bm
namespace Go.Den.YtbknfejmdekhpaaGreat
open Go Go.Den
def se (C:gl) (n:Int) (h:Heap) (K:VK) (Kp:PK):Prop :=
∃ e:Nat->List Value->Heap->Prop,(∃ d,e d [.int .u64 n,.slice none 0 0] h)/\∀ (d:Nat) (f:Heap) (B:Nat->Value) (a:Int) (g:Option Addr) (b c:Nat),e d [.int .u64 a,.slice g b c] f->(
fI (decide (a≥(128:Int))) (
fG (a.tmod (128:Int)) fun z=>
fG (IntKind.u8.wrap z) fun A=>
fG (IntKind.u8.wrap (A+(128:Int))) fun o=>
gE f [.int .u8 o] gA fun p q=>
l4 q gA 1 1 [.int .u8 0] g (b) (c) (some ⟨p,0,none⟩) (1) fun r i j s=>
fG (IntKind.u64.wrap (a.tdiv (128:Int))) fun t=>
∃ m,m<d/\e m [.int .u64 t,.slice r i j] s)<|
fG (IntKind.u8.wrap a) fun u=>
gE f [.int .u8 u] gA fun v w=>
l4 w gA 1 1 [.int .u8 0] g (b) (c) (some ⟨v,0,none⟩) (1) fun x k l y=>
K (.slice x k l) y)
theorem yO {n:Int} {h:Heap} {K:VK} {Kp:PK} (H:se QP n h K Kp):QP ki #[.int .u64 n] h K Kp :=
 fJ (Hints.mk (fun i=>none) (fun i=>bif Nat.beq i 2 then some ([(0,.int .u64),(3,.slc)],32761) else (none)) (fun i=>none) []) (by kernel_rfl) Go.Proofs.Tryz.func51 (by kernel_rfl) (fun C=>se C n h K Kp) (fun C=>by kernel_rfl) H
end Go.Den.YtbknfejmdekhpaaGreat
namespace Go.Bm
open Go Go.Den Go.Den.YtbknfejmdekhpaaGreat
section
variable {hB h:Heap} {K:VK} {Kp:PK} {q:Option Addr} {c i ra rb:Nat} {b:List Nat} {M:List Ent} {e:Int}
end
section
variable {hB:Heap} {K:VK} {Kp:PK} {q:Option Addr} {c:Nat} {b:List Nat}
end
section
variable {hB:Heap} {K:VK} {Kp:PK} {q:Option Addr} {c:Nat} {b:List Nat}
end
open Go.Ar (u8s)
section
variable {h0 h:Heap} {F:List Nat} {A B D:List Ent}
theorem Slot.Ls {t:TypeId} {sz by_ n c m:Nat} {q:Option Addr} {xs z:List Value} (hd:Slot t sz D q n c xs) (H:Hp h0 F h (A++(D++B))) (hz:z.length=sz) (hs0:1<=sz) {src:Option Addr} {new:List Value} (hr:Go.Den.rdO h src (m*sz) new) (hm:new.length=m*sz)
  (hnew:∀ v∈new,v.oneCell'=true) (hby:(n+m)*by_<=70368744177664)
  {K:Option Addr->Nat->Nat->Heap->Prop} (hk:∀ (D':List Ent) (q':Option Addr) (c':Nat) h',Slot t sz D' q' (n+m) c' (xs++new)->Hp h0 F h' (A++(D'++B))->K q' (n+m) c' h'):l4 h t sz by_ z q n c src m K:=by
 rcases oO m with h1 | h1
 ·subst h1
  rw [kK] at hr hm
  have hn0:new=[]:=List.length_eq_zero_iff.1 hm
  subst hn0
  have hnc:n<=c:=by
   obtain ⟨hl,⟨_,_,h2,_⟩ | ⟨b,rest,_,_,h2⟩⟩:=hd
   ·omega
   ·rw [fA,hl] at h2
    exact Nat.le_of_mul_le_mul_right (Nat.le.intro h2) hs0
  refine ⟨[],by rw [kK]; exact hr,?_⟩
  rw [if_pos (by omega)]
  have:=hk D q c h (by rw [fT,gr]; exact hd) H
  cases q with
  | none=>exact this
  | some a=>exact this
 ·exact Slot.app hd H hz hr hm hnew h1 hby hk
end
section
variable {hB:Heap} {q:Option Addr} {c:Nat} {l:List Int} {K:VK} {Kp:PK}
set_option maxHeartbeats 2000000 in
theorem Ni {n:Nat} (hn:n<18446744073709551616) (hk:∀ D qo co h',Slot gA 1 D qo (grp n).length co (u8s (grp n))->Hp hB [] h' D->K (.slice qo (grp n).length co) h') :
  CP ki #[.int .u64 (n:Nat)] hB K Kp:=by
 refine yO ?_
 unfold se
 refine ⟨fun f vs h'=>∃ (n':Nat) (p:List Nat) (D:List Ent) (qo:Option Addr) (co:Nat),f<=10/\n'*128 ^ (10-f)<=n/\grp n=p++xW f n'/\p.length+f=10/\vs=[.int .u64 (n':Nat),.slice qo p.length co]/\Slot gA 1 D qo p.length co (u8s p)/\Hp hB [] h' D,
  ⟨10,n,[],[],none,0,by omega,by simp,rfl,rfl,rfl,Slot.nil _ _,Hp.nil hB []⟩,?_⟩
 rintro f h u xn xq xl xc ⟨n',p,D,qo,co,hf,hle,hg,hpl,hxx,hs,H⟩
 injection hxx with hx1 hxx
 injection hxx with hx2 hxx
 injection hx1 with _ hx1
 injection hx2 with hx2 hx3 hx4
 subst xn xq xl xc
 have hpos:0<128 ^ (10-f):=Nat.pow_pos (by decide)
 have hn':n'<=n:=iL (Nat.le_mul_of_pos_right n' hpos) hle
 have one:∀ (y:Nat) (K1:Option Addr->Nat->Nat->Heap->Prop),(∀ D' q' c' h',Slot gA 1 D' q' (p++[y]).length c' (u8s (p++[y]))->Hp hB [] h' D'->K1 q' (p.length+1) c' h') ->
   gE h [.int .u8 (y:Nat)] gA fun r h2=>l4 h2 gA 1 1 [.int .u8 0] qo p.length co (some ⟨r,0,none⟩) 1 K1:=fun y K1 hk1=>by
  refine fV H fun r h H=>?_
  have H:Hp hB [] h ([]++(D++[⟨r,true,gA,[.int .u8 (y:Nat)]⟩])):=H
  refine Slot.app (m:=1) (new:=[.int .u8 (y:Nat)]) hs H rfl (Hp.n9 (rest:=[]) (cs:=[.int .u8 (y:Nat)]) H (fX _ (fX _ (List.mem_singleton.2 rfl))) rfl) rfl (fun v hv=>by rw [List.mem_singleton.1 hv]; rfl) (by decide) (by omega) fun D' q' c' h' hsl' H'=>?_
  exact hk1 D' q' c' h' (by rw [fA,uH]; exact hsl') (Hp.pre (Hp.suf H'))
 refine fL (fun h1=>?_) fun h1=>?_
 ·obtain ⟨f,rfl⟩:∃ g,f=g+1:=by
   refine ⟨f-1,?_⟩
   rcases oO f with hf0 | hf0
   ·subst hf0
    have h2:128*128 ^ (10-0)<=n'*128 ^ (10-0):=gD _ (by omega)
    have h3:(128:Nat)*128 ^ (10-0)=151115727451828646838272:=by decide
    omega
   ·omega
  have e:xW (f+1) n'=(n' % 128+128)::xW f (n' / 128):=by
   show (if n'<128 then [n'] else _)=_
   rw [if_neg (by omega)]
  refine fw (((n' % 128:Nat):Int)) (by exact kM n' 128) ?_
  refine fw (((n' % 128:Nat):Int)) (by exact wr8 _ (by omega) (by omega)) ?_
  refine fw (((n' % 128+128:Nat):Int)) (by exact (wr8 _ (by omega) (by omega)).trans (by omega)) ?_
  refine one _ _ fun D' q' c' h' hs' H'=>?_
  refine fw (((n' / 128:Nat):Int)) (by exact zf _ _ (by rfl) (by omega) (by omega)) ?_
  refine ⟨f,by omega,n' / 128,p++[n' % 128+128],D',q',c',by omega,?_,?_,?_,?_,hs',H'⟩
  ·have h2:n' / 128*128<=n':=Nat.div_mul_le_self _ _
   have h3:n' / 128*128 ^ (10-f)=n' / 128*128*128 ^ (10-(f+1)):=by
    rw [show 10-f=(10-(f+1))+1 by omega,jA,iG,gS 128]
   rw [h3]
   exact iL (gD _ h2) hle
  ·rw [hg,e,fC]; rfl
  ·rw [fA]; show p.length+1+f=10; omega
  ·rw [fA]; rfl
 ·have e:xW f n'=[n']:=by
   cases f with
   | zero=>show [n' % 128]=[n']; rw [jC (by omega)]
   | succ f=>show (if n'<128 then [n'] else _)=_; rw [if_pos (by omega)]
  rw [e] at hg
  refine fw (((n':Nat):Int)) (by exact wr8 _ (by omega) (by omega)) ?_
  refine one _ _ fun D' q' c' h' hs' H'=>?_
  rw [<- hg] at hs'
  have hgl:(grp n).length=p.length+1:=by rw [hg,fA]; rfl
  rw [<- hgl]
  exact hk D' q' c' h' hs' H'
end
section
variable {hB:Heap} {w g d s:Int} {K:VK} {Kp:PK}
end
section
variable {x y op t w b:Int} {sk:Bool} {ws:List Nat}
variable {hB:Heap} {q1:Option Addr} {c1:Nat} {K:VK} {Kp:PK}
end
theorem DG {b:List Nat} {k x:Nat} {l:List Nat} (h:b.drop k=x::l):b[k]? = some x/\b.drop (k+1)=l:=by
 have h1:(b.drop k)[0]? = some x:=by rw [h]; rfl
 rw [kS,gr] at h1
 refine ⟨h1,?_⟩
 have h2:(b.drop k).drop 1=l:=by rw [h]; rfl
 rw [List.drop_drop] at h2
 exact h2
theorem Lb {f m:Nat} (h:m<128):xW f m=[m]:=by
 cases f with
 | zero=>show [m % 128]=[m]; rw [jC h]
 | succ f=>show (if m<128 then [m] else _)=_; rw [if_pos h]
theorem O4 {f m:Nat} (h:¬ m<128):xW (f+1) m=(m % 128+128)::xW f (m / 128):=by
 show (if m<128 then [m] else _)=_; rw [if_neg h]
theorem RE {m j:Nat} (h:m*128 ^ j<128 ^ 9) (hm:0<m):j<9:=by
 rcases gI j 9 with h1 | h1
 ·exact h1
 ·have h2:128 ^ 9<=128 ^ j:=im (by decide) h1
  have h3:1*128 ^ j<=m*128 ^ j:=gD _ hm
  omega
theorem Om {m j:Nat}:m % 128*128 ^ j+m / 128*128 ^ (j+1)=m*128 ^ j:=by
 have h:=Nat.div_add_mod m 128
 have e:128 ^ (j+1)=128*128 ^ j:=by rw [jA,gS]
 rw [e,<- iG,<- gZ]
 congr 1
 omega
theorem I8 {b:List Nat} {i:Nat} {rest:List Nat}:∀ (f j m acc:Nat),f+j=10->b.drop (i+j)=xW f m++rest->m*128 ^ j<128 ^ 9->(0<j->0<m)->Ib b i f j acc=(0,acc+m*128 ^ j,i+j+(xW f m).length)
 | 0,j,m,acc,hfj,_,hm,h0=>by
  have:=RE hm (h0 (by omega))
  omega
 | f+1,j,m,acc,hfj,hb,hm,h0=>by
  unfold Ib
  by_cases h1:m<128
  ·rw [Lb h1] at hb ⊢
   obtain ⟨hx,_⟩:=DG hb
   rw [hx]
   dsimp only
   rw [if_neg (fun hh=>by
    rcases hh with ⟨h2,h3⟩ | ⟨h2,h3⟩
    ·have:=RE hm (by omega); omega
    ·have:=h0 h2; omega),if_pos h1,jC h1]
   rfl
  ·rw [O4 h1] at hb ⊢
   obtain ⟨hx,hd⟩:=DG hb
   have hj:=RE hm (by omega)
   rw [hx]
   dsimp only
   rw [if_neg (fun hh=>by omega),if_neg (by omega)]
   have hmod:(m % 128+128) % 128=m % 128:=by omega
   have hst:=@Om m j
   rw [hmod,I8 f (j+1) (m / 128) _ (by omega) (by rw [<- tZ]; exact hd) (by omega) (fun _=>by omega)]
   rw [gp]
   congr 2
   ·omega
   ·omega
theorem lt9 {n:Nat} (h:n<=1048576):n<128 ^ 9:=ir h (by decide)
section
variable {w g d s:Nat} (hP:jX (w:Int) (g:Int)) (hd:d<=1) (hs:s<=1048576)
include hP hd hs
end
section
variable {hB:Heap} {q:Option Addr} {c:Nat} {bs:List Nat} {K:VK} {Kp:PK}
end
end Go.Bm
