/- The given statement TextEncodesSaid is proved of the given program; there are no further conditions. W9: put together by wip/tools/bundle.py: TxU TxV TxW TxO TxX Mlaw14x Blaw14x TxY DcH DcI DcJ DcS TyA TyC Mlaw14TextDraws Blaw14TextDraws TyD TyE Mlaw14TextStrips Blaw14TextStrips TyG TyJ TyM TyO TyN TyH Mlaw14TextEncodes Blaw14TextEncodes TyP ArLink2 TyEncodes. -/
import Derived.Test.YtbknfejmdekhpaaGreatW1
import Derived.Test.YtbknfejmdekhpaaGreatW2
import Derived.Test.YtbknfejmdekhpaaGreatW3
import Derived.Test.YtbknfejmdekhpaaGreatW4
import Derived.Test.YtbknfejmdekhpaaGreatW5
import Derived.Test.YtbknfejmdekhpaaGreatW6
import Derived.Test.YtbknfejmdekhpaaGreatW7
import Derived.Test.YtbknfejmdekhpaaGreatW8
import Derived.Test.YtbknfejmdekhpaaGreatProg
import Derived.WalkKit
import Derived.ProofKit
import Derived.OpenShut
import Derived.Carry
import Derived.Deep.SlicePairs
import Derived.Lib.SmallJoins
import Derived.Test.YtbknfejmdekhpaaGreatRows
set_option linter.unusedVariables false
set_option linter.unusedSimpArgs false
set_option maxRecDepth 100000
namespace Go.Bm
open Go Go.Den Go.Den.YtbknfejmdekhpaaGreat
open Go.Ar (Dec gE iW)
theorem Hp.SO {h0 h h':Heap} {F:List Nat} {Y S S':List Ent} (H:Hp h0 F h (Y++S)) (H':Hp h (S.map Ent.b) h' S'):lZ (λb=>b∈Y.map Ent.b) h h':=⟨H'.fr.1,λb hb hR=>H'.fr.2 b hb λhm=>by
 obtain ⟨x,hx,rfl⟩:=List.mem_map.1 hR
 obtain ⟨y,hy,he⟩:=List.mem_map.1 hm
 exact (List.pairwise_append.1 H.pw).2.2 x hx y hy he.symm⟩
theorem Jg {st:Nat} {S:List Ins} (h:Srt (Dw st) S) {k:Nat} {a b:Ins} (ha:S[k]? = some a) (hb:S[k+1]? = some b):flo a.y st<=flo b.y st/\(flo a.y st=flo b.y st->a.x<=b.x):=by
 obtain ⟨h1,e1⟩:=List.getElem?_eq_some_iff.1 ha
 obtain ⟨h2,e2⟩:=List.getElem?_eq_some_iff.1 hb
 have:=List.pairwise_iff_getElem.1 h k (k+1) h1 h2 (vq k)
 rw [e1,e2] at this
 unfold Key.lt Dw at this
 dsimp only at this
 omega
theorem PL (l:List Ins) (k:Nat):arI (l.take k)<=arI l:=by
 have:arI l=arI (l.take k)+arI (l.drop k):=by
  unfold arI
  rw [<- List.sum_append,<- nS,iT]
 omega
section
variable {hB h:Heap} {K:VK} {Kp:PK}
variable {rr p qd bc:Nat} {e:Ent} {bp:Option Addr} {t:Reg14} {q2:Option Addr} {c2:Nat} {sy:List Bmp} {T:List (Nat × Nat)} {D:Nat->Dec} {b:List Nat} {X:List Ent} {S:List Ins}
set_option maxHeartbeats 8000000 in
theorem Qb (hS:Strm T D b e bp) (H:Hp hB [] h ((rtE rr p t none 0 0 q2 sy.length c2 (S.length:Nat) 0::X)++iW p qd e bp bc (D 0))) (hXw:X.all Ent.w=true) (hT0:m7 t sy S 0 0 0 false=T)
  (hs:o7 hB q2 sy) (hm:xB sy) (hsl:sy.length<=4096) (hst:0<=t.st/\t.st<=3) (hSi:∀ i∈S,mC t.rf sy i) (hSw:∀ i∈S,W64 i.b.ws) (hsr:Srt (Dw t.st.toNat) S) (hl:S.length<=16384) (har:arI S<=1048576)
  (hk:∀ R q c h',ma R q c S->Hp hB [] h' ((rtE rr p t q S.length c q2 sy.length c2 0 (arI S:Nat)::(X++R))++iW p qd e bp bc (D T.length))->K (.tuple #[]) h') :
  CP rp #[.pointer (some ⟨rr,0,none⟩)] h K Kp:=by
 refine zJ ?_
 unfold tw
 have hstl:t.st.toNat<=3:=by omega
 refine ⟨λm vs h'=>∃ (k:Nat) (ah fi x:Int) (bg:Bool) (A:List (Nat × Nat)) (R:List Ent) (q:Option Addr) (c:Nat),k+m=S.length/\vs=[.int .i64 ah,.int .i64 fi,.bool bg]/\(-1048576<=ah/\ah<=1048576)/\(-1048576<=fi/\fi<=1048576)/\A++m7 t sy (S.drop k) ah fi x false=T /\
   (bg=true->∀ i,S[k]? = some i->ah<flo i.y t.st.toNat)/\ma R q c (S.take k)/\Hp hB [] h' ((rtE rr p t q (S.take k).length c q2 sy.length c2 ((S.length-k:Nat):Int) (arI (S.take k):Nat)::(X++R))++iW p qd e bp bc (D A.length)),
  ⟨S.length,0,0,0,0,false,[],[],none,0,by omega,rfl,by omega,by omega,hT0,(λhh=>by cases hh),ma.nil,by rw [fT]; exact H⟩,?_⟩
 clear H hT0
 rintro m h u xa xf xb ⟨k,ah,fi,x,bg,A,R,q,c,hkm,hxx,hah,hfi,hA,hbg,hL,H⟩
 injection hxx with hx1 hxx
 injection hxx with hx2 hxx
 injection hxx with hx3 hxx
 injection hx1 with _ hx1
 injection hx2 with _ hx2
 injection hx3 with hx3
 subst xa xf xb
 refine gv (a:=⟨rr,0,none⟩) (fz (hpA H 0 rfl rfl) ?_)
 refine fL (λh5=>?_) λh5=>?_
 rotate_left
 ·obtain rfl:k=S.length:=by omega
  rw [Bc] at hA
  unfold m7 at hA
  rw [if_neg (by decide),fT] at hA
  subst hA
  rw [gz (gg _),iH] at H
  rw [gz (gg _)] at hL
  exact hk R q c h hL H
 obtain ⟨i,hi⟩:∃ i,S[k]? = some i:=⟨_,fP (by omega)⟩
 have hio:=hSi _ (fS hi)
 have hfl:=IL hstl hio.2.2.1
 have hxb:=hio.2.1
 rw [th hi] at hA
 unfold m7 at hA
 rw [if_neg (λhh=>by cases hh.1),if_neg (by decide),gd] at hA
 unfold Lq at hA
 obtain ⟨s,hs'⟩:∃ s,s=flo i.y t.st.toNat:=⟨_,rfl⟩
 rw [<- hs'] at hA hfl
 have hA:T=A++(nY 14337 0 (s-ah) false++(nY 14337 512 (i.x-fi) false++(rL t sy i++m7 t sy (S.drop (k+1)) s i.x i.x true))):=by rw [<- hA]; simp only [fC]
 refine Cq hS H hA (.inr (by omega)) (by omega) λh H=>⟨_,_,rfl,?_⟩
 refine fV H λr15 h H=>?_
 have H:=H.rot
 have H:Hp hB [] h (⟨r15,true,iz,[.int .i64 0,.bool false]⟩::((rtE rr p t q (S.take k).length c q2 sy.length c2 ((S.length-k:Nat):Int) (arI (S.take k):Nat)::(X++R))++iW p qd e bp bc (D (A++nY 14337 0 (s-ah) false).length))):=H
 refine stA H 0 rfl rfl rfl λh H=>?_
 refine stA H 0 rfl rfl rfl λh H=>?_
 have H:Hp hB [] h (⟨r15,true,iz,[.int .i64 (s-ah),.bool false]⟩::((rtE rr p t q (S.take k).length c q2 sy.length c2 ((S.length-k:Nat):Int) (arI (S.take k):Nat)::(X++R))++iW p qd e bp bc (D (A++nY 14337 0 (s-ah) false).length))):=H
 refine ⟨λ_ h'=>h'=h,?_,?_⟩
 ·refine gT (hpA H 0 rfl rfl) (fZ rfl ?_)
  refine gP (λh1=>?_) λh1=>?_
  ·have:=hbg h1 i hi
   exact fz (hpA H 0 rfl rfl) (ku (decide_eq_false (by omega)) rfl)
  ·exact ku rfl rfl
 rintro h' u rfl
 refine fz (hpA H 0 rfl rfl) ?_
 refine fw s (by rw [show ah+(s-ah)=s by omega]; exact i64_in _ (by omega) (by omega)) ?_
 have H:=H.perm (List.Perm.swap _ _ _)
 have hA2:T=(A++nY 14337 0 (s-ah) false)++(nY 14337 512 (i.x-fi) false++(rL t sy i++m7 t sy (S.drop (k+1)) s i.x i.x true)):=by rw [hA]; simp only [fC]
 refine Cq (X:=⟨r15,true,iz,[.int .i64 (s-ah),.bool false]⟩::(X++R)) hS H hA2 (.inr (by omega)) (by omega) λh H=>⟨_,_,rfl,?_⟩
 have H:Hp hB [] h (rtE rr p t q (S.take k).length c q2 sy.length c2 ((S.length-k:Nat):Int) (arI (S.take k):Nat)::⟨r15,true,iz,[.int .i64 (s-ah),.bool false]⟩::((X++R)++iW p qd e bp bc (D (A++nY 14337 0 (s-ah) false++nY 14337 512 (i.x-fi) false).length))):=H
 refine stA H 1 rfl rfl rfl λh H=>?_
 refine stA H 1 rfl rfl rfl λh H=>?_
 refine gT (hpA H 1 rfl rfl) (ku rfl ?_)
 refine fz (hpA H 1 rfl rfl) ?_
 refine fw i.x (by show IntKind.i64.wrap (fi+(i.x-fi))=i.x; rw [show fi+(i.x-fi)=i.x by omega]; exact i64_in _ (by omega) (by omega)) ?_
 have H:=H.perm (List.Perm.swap _ _ _)
 have H:=Hp.suf (X:=[_]) H
 have H:Hp hB [] h ((rtE rr p t q (S.take k).length c q2 sy.length c2 ((S.length-k:Nat):Int) (arI (S.take k):Nat)::(X++R))++iW p qd e bp bc (D (A++nY 14337 0 (s-ah) false++nY 14337 512 (i.x-fi) false).length)):=H
 obtain ⟨fx,hfx⟩:∃ fx,fx=i.x:=⟨_,rfl⟩
 have hfxb:-1048576<=fx/\fx<=1048576:=by omega
 refine ⟨λm' vs h'=>∃ (k:Nat) (i:Ins) (A:List (Nat × Nat)) (R:List Ent) (q:Option Addr) (c:Nat),k+m'=S.length/\S.length-k<=m/\vs=[.int .i64 i.x]/\S[k]? = some i/\flo i.y t.st.toNat=s/\T=A++(rL t sy i++m7 t sy (S.drop (k+1)) s fx i.x true) /\
   ma R q c (S.take k)/\Hp hB [] h' ((rtE rr p t q (S.take k).length c q2 sy.length c2 ((S.length-k:Nat):Int) (arI (S.take k):Nat)::(X++R))++iW p qd e bp bc (D A.length)),
  ⟨S.length-k,k,i,_,R,q,c,by omega,by omega,rfl,hi,hs'.symm,by rw [hA,hfx]; simp only [fC],hL,H⟩,?_⟩
 clear H hL hA hA2
 rintro m' h u xk ⟨k',i',A,R,q,c,hkm',hkm2,hxx,hi',hsi,hA,hL,H⟩
 injection hxx with hx1 hxx
 injection hx1 with _ hx1
 subst xk
 have hk':k'<S.length:=(List.getElem?_eq_some_iff.1 hi').1
 have hio':=hSi _ (fS hi')
 have hiw':=hSw _ (fS hi')
 have htl:(S.take k').length=k':=by rw [iC]; omega
 have htk:S.take (k'+1)=S.take k'++[i']:=kC hi'
 obtain ⟨W,XX,e1,e2,hWX⟩:=hio'.nat
 have hA1:arI (S.take (k'+1))=arI (S.take k')+W*XX:=by rw [htk,Gr,e1,e2,fD,fD]
 have hA2:=PL S (k'+1)
 have hmul:i'.b.w*i'.b.h=((W*XX:Nat):Int):=by rw [e1,e2]; simp
 rw [<- hsi]
 refine Qa hS H hXw hL (by omega) hA hs hm hsl hst hio' hiw' (by omega) (by omega) λR q c h hL H=>?_
 rw [hmul] at H
 have e3:(((arI (S.take k'):Nat):Int)+((W*XX:Nat):Int))=(arI (S.take (k'+1)):Nat):=by omega
 have e4:(((S.length-k':Nat):Int)-1)=((S.length-(k'+1):Nat):Int):=by omega
 have e5:(S.take k').length+1=(S.take (k'+1)).length:=by rw [htk,fA]; rfl
 rw [e3,e4,e5] at H
 rw [<- htk] at hL
 obtain ⟨A',hA'⟩:∃ A',A'=A++rL t sy i':=⟨_,rfl⟩
 rw [<- fC,<- hA'] at hA
 rw [<- hA'] at H
 rw [hsi]
 have fin:(∀ j,(S.drop (k'+1))[0]? = some j->flo j.y t.st.toNat≠s)->CP kh #[.pointer (some ⟨rr,0,none⟩),.int .i64 1024] h (λv_51 h_52=>∃ (r_53:Int) (r_54:Bool),v_51 = .agg #[.int .i64 r_53,.bool r_54]/\(gE h_52 [.int .i64 0,.bool false] iz λr_55 h_56=>stV h_56 ((⟨r_55,0,none⟩:Addr).add 0) (.int .i64 r_53) λh_57=>stV h_57 ((⟨r_55,0,none⟩:Addr).add 1) (.bool r_54) λh_58 =>
   ldB h_58 ((⟨r_55,0,none⟩:Addr).add 1) λx_59=>fI x_59 (∃ m_2,m_2<m/\∃ (k:Nat) (ah fi x:Int) (bg:Bool) (A:List (Nat × Nat)) (R:List Ent) (q:Option Addr) (c:Nat),k+m_2=S.length/\[Value.int .i64 s,.int .i64 i.x,.bool true]=[Value.int .i64 ah,.int .i64 fi,.bool bg]/\(-1048576<=ah/\ah<=1048576)/\(-1048576<=fi/\fi<=1048576)/\A++m7 t sy (S.drop k) ah fi x false=T /\
   (bg=true->∀ i,S[k]? = some i->ah<flo i.y t.st.toNat)/\ma R q c (S.take k)/\Hp hB [] h_58 ((rtE rr p t q (S.take k).length c q2 sy.length c2 ((S.length-k:Nat):Int) (arI (S.take k):Nat)::(X++R))++iW p qd e bp bc (D A.length))) <|
   ptr (some ⟨rr,0,none⟩) λa_60=>ldI h_58 (a_60.add 11) .i64 λx_61=>fI (x_61 == (0:Int)) (CP ij #[.bool true] h_58 (λv_62 h_63=>ldI h_63 ((⟨r_55,0,none⟩:Addr).add 0) .i64 λx_64=>fG (IntKind.i64.wrap (i'.x+x_64)) λz_65=>∃ m_44,m_44<m'/\∃ (k:Nat) (i:Ins) (A:List (Nat × Nat)) (R:List Ent) (q:Option Addr) (c:Nat),k+m_44=S.length/\S.length-k<=m/\[Value.int .i64 z_65]=[.int .i64 i.x]/\S[k]? = some i/\flo i.y t.st.toNat=s/\T=A++(rL t sy i++m7 t sy (S.drop (k+1)) s fx i.x true) /\
   ma R q c (S.take k)/\Hp hB [] h_63 ((rtE rr p t q (S.take k).length c q2 sy.length c2 ((S.length-k:Nat):Int) (arI (S.take k):Nat)::(X++R))++iW p qd e bp bc (D A.length))) (Kp)) <|
   ldI h_58 ((⟨r_55,0,none⟩:Addr).add 0) .i64 λx_66=>CP ij #[.bool (decide (x_66<(0:Int)))] h_58 (λv_67 h_68=>ldI h_68 ((⟨r_55,0,none⟩:Addr).add 0) .i64 λx_69=>fG (IntKind.i64.wrap (i'.x+x_69)) λz_70=>∃ m_44,m_44<m'/\∃ (k:Nat) (i:Ins) (A:List (Nat × Nat)) (R:List Ent) (q:Option Addr) (c:Nat),k+m_44=S.length/\S.length-k<=m/\[Value.int .i64 z_70]=[.int .i64 i.x]/\S[k]? = some i/\flo i.y t.st.toNat=s/\T=A++(rL t sy i++m7 t sy (S.drop (k+1)) s fx i.x true) /\
   ma R q c (S.take k)/\Hp hB [] h_68 ((rtE rr p t q (S.take k).length c q2 sy.length c2 ((S.length-k:Nat):Int) (arI (S.take k):Nat)::(X++R))++iW p qd e bp bc (D A.length))) (Kp))) (Kp):=λhcl=>by
  have hA2:=hA
  rw [By hcl] at hA2
  unfold Bf at hA2
  refine Cq hS H hA2 (.inl rfl) (by omega) λh H=>⟨_,_,rfl,?_⟩
  refine fV H λr55 h H=>?_
  have H:=H.rot
  have H:Hp hB [] h (⟨r55,true,iz,[.int .i64 0,.bool false]⟩::((rtE rr p t q (S.take (k'+1)).length c q2 sy.length c2 ((S.length-(k'+1):Nat):Int) (arI (S.take (k'+1)):Nat)::(X++R))++iW p qd e bp bc (D (A'++nY 14337 1024 0 true).length))):=H
  refine stA H 0 rfl rfl rfl λh H=>?_
  refine stA H 0 rfl rfl rfl λh H=>?_
  refine gT (hpA H 0 rfl rfl) (gN rfl ?_)
  refine ⟨S.length-(k'+1),by omega,k'+1,s,i.x,i'.x,true,_,R,q,c,by omega,rfl,by omega,hxb,by rw [hA2,fC,hfx],λ_ j hj=>?_,hL,Hp.suf (X:=[_]) H⟩
  have h7:=Jg hsr hi' hj
  have h8:=hcl j (by rw [kS]; exact hj)
  omega
 rcases gI (k'+1) S.length with h6 | h6
 rotate_left
 ·exact fin λj hj=>by
   rw [yH h6] at hj
   cases hj
 obtain ⟨j,hj⟩:∃ j,S[k'+1]? = some j:=⟨_,fP h6⟩
 have hd2:=th hj
 have hjo:=hSi _ (fS hj)
 by_cases h7:flo j.y t.st.toNat=s
 rotate_left
 ·exact fin λj' hj'=>by
   rw [hd2] at hj'
   injection hj' with hj'
   subst hj'
   exact h7
 clear fin
 rw [hd2,m7,if_pos ⟨rfl,h7⟩] at hA
 have h8:=(Jg hsr hi' hj).2 (by rw [hsi,h7])
 have hb1:=hio'.2.1
 have hb2:=hjo.2.1
 refine Cq hS H hA (.inr (by omega)) (by omega) λh H=>⟨_,_,rfl,?_⟩
 refine fV H λr55 h H=>?_
 have H:=H.rot
 have H:Hp hB [] h (⟨r55,true,iz,[.int .i64 0,.bool false]⟩::((rtE rr p t q (S.take (k'+1)).length c q2 sy.length c2 ((S.length-(k'+1):Nat):Int) (arI (S.take (k'+1)):Nat)::(X++R))++iW p qd e bp bc (D (A'++nY 14337 1024 (j.x-i'.x) false).length))):=H
 refine stA H 0 rfl rfl rfl λh H=>?_
 refine stA H 0 rfl rfl rfl λh H=>?_
 refine gT (hpA H 0 rfl rfl) (fZ rfl ?_)
 refine gv (a:=⟨rr,0,none⟩) (fz (hpA H 1 rfl rfl) ?_)
 refine iA (λh9=>by omega) λh9=>?_
 refine fz (hpA H 0 rfl rfl) (ku (decide_eq_false (by show ¬ (j.x-i'.x<0); omega)) ?_)
 refine fz (hpA H 0 rfl rfl) ?_
 refine fw j.x (by show IntKind.i64.wrap (i'.x+(j.x-i'.x))=j.x; rw [show i'.x+(j.x-i'.x)=j.x by omega]; exact i64_in _ (by omega) (by omega)) ?_
 exact ⟨m'-1,by omega,k'+1,j,_,R,q,c,by omega,by omega,rfl,hj,h7,by rw [hA]; simp only [fC],hL,Hp.suf (X:=[_]) H⟩
end
open Go.Ar (u8s)
theorem P6 {b:List Nat} {i n:Nat} {rest:List Nat} (h:b.drop i=grp n++rest) (hn:n<=1048576):I7 b i=(0,n,i+(grp n).length)/\b.drop (i+(grp n).length)=rest:=by
 have h1:=I8 (b:=b) (i:=i) (rest:=rest) 10 0 n 0 rfl h (by rw [tr,gu]; exact lt9 hn) (λhh=>absurd hh (Nat.lt_irrefl 0))
 rw [tr,gu,fN,gr] at h1
 refine ⟨h1,?_⟩
 rw [<- List.drop_drop,h,List.drop_left]
theorem QO {b:List Nat} {i:Nat} {x:Nat} {r:List Nat} (h:b.drop i=x::r):i<b.length:=by
 rcases gI i b.length with h1 | h1
 ·exact h1
 ·rw [yH h1] at h
  cases h
theorem Pm {b:List Nat} {i n:Nat} {rest:List Nat} (h:b.drop i=grp n++rest):i+(grp n).length<=b.length:=by
 have h1:(b.drop i).length=b.length-i:=kA
 have h2:=(uk n).1
 rw [h,fA] at h1
 omega
theorem RZ:((List.range 128).all λa=>Nat.beq (a &&& 7) (a % 8) && Nat.beq (a &&& 8) (a / 8 % 2*8) && Nat.beq (a / 16 &&& 1) (a / 16 % 2))=true:=by decide +kernel
theorem SR {a:Nat} (h:a<128):a &&& 7=a % 8/\a &&& 8=a / 8 % 2*8/\a / 16 &&& 1=a / 16 % 2:=by
 have:=List.all_eq_true.1 RZ a (List.mem_range.2 h)
 rw [gH,gH] at this
 exact ⟨iS this.1.1,iS this.1.2,iS this.2⟩
theorem QE {t:Reg14} (h:HV t):((td t % 8:Nat):Int)=t.op/\(td t / 8 % 2=if t.rf=true then 1 else 0)/\((td t / 16 % 2:Nat):Int)=t.df/\((td t / 32:Nat):Int)=t.st:=by
 have:=h.2.2.2
 unfold td
 split <;> omega
theorem Q3 (a b:Nat) (ha:a<256) (hb:b<256):jo .and .u64 (a:Int) (b:Int)=((a &&& b:Nat):Int):=(bits_nat .u64 64 (by decide) PW a b (iK ha (by decide)) (iK hb (by decide))).1
section
variable {h0 h:Heap} {FF:List Nat} {K:VK} {Kp:PK}
variable {r c i:Nat} {q:Option Addr} {b rest:List Nat} {Dr:List Ent}
theorem Cp (H:Hp h0 FF h (rdE r q b.length c i::Dr)) (hs:Slot gA 1 Dr q b.length c (u8s b)) (hb:RdB b) {x:Nat} (hd:b.drop i=grp x++rest) (hx:x<=1048576)
  (hk:∀ h',b.drop (i+(grp x).length)=rest->Hp h0 FF h' (rdE r q b.length c (i+(grp x).length)::Dr)->K (.int .u64 (x:Nat)) h'):CP l5 #[.pointer (some ⟨r,0,none⟩)] h K Kp:=by
 refine BS ?_
 unfold vZ
 have hle:=Pm hd
 obtain ⟨hv,hd'⟩:=P6 hd hx
 refine Qj H hs hb (by omega) λh' H=>⟨_,_,rfl,?_⟩
 rw [hv] at H ⊢
 exact ku rfl (hk h' hd' H)
set_option maxHeartbeats 4000000 in
theorem KA (H:Hp h0 FF h (rdE r q b.length c 0::Dr)) (hs:Slot gA 1 Dr q b.length c (u8s b)) (hb:RdB b) {t:Reg14} {n:Nat} {ns:Int} (ht:HV t) (hn:n<=16384) (hns:0<n->ns≠0) (hd:b=pH t n++rest)
  (hk:∀ h',Hp h0 FF h' (rdE r q b.length c (pH t n).length::Dr)->K (.tuple #[t.ag none 0 0,.int .i64 (n:Nat)]) h'):CP wO #[.pointer (some ⟨r,0,none⟩),.int .i64 ns] h K Kp:=by
 refine DN ?_
 unfold zh
 have hsz:=ht.1
 obtain ⟨W,XX,e1,e2,hW1,hW2,hX1,hX2,hWX⟩:=jf ht.1
 have hx:=ht.2.1
 have hy:=ht.2.2.1
 have hlen:(pH t n).length=0+(grp t.x.toNat).length+(grp t.y.toNat).length+(grp t.w.toNat).length+(grp t.h.toNat).length+1+(grp n).length:=by
  unfold pH
  simp only [fA,gJ]
  omega
 unfold pH at hd
 have hd0:b.drop 0=grp t.x.toNat++(grp t.y.toNat++(grp t.w.toNat++(grp t.h.toNat++(td t::(grp n++rest))))):=by
  rw [vp]
  conv=>lhs; rw [hd]
  simp only [fC,gm,gd]
 clear hd
 have hw:∀ i,(rdE r q b.length c i::Dr).all Ent.w=true:=λi=>by rw [ua,hs.w]; rfl
 refine fV H λr1 h H=>?_
 have H:=H.rot
 have H:Hp h0 FF h ([⟨r1,true,fR,[.int .i64 0,.int .i64 0,.int .i64 0,.int .i64 0,.int .i64 0,.bool false,.int .i64 0,.int .i64 0,.slice none 0 0]⟩]++(rdE r q b.length c 0::Dr)):=H
 refine Cp (Hp.mv H) hs hb hd0 (by omega) λh' hd1 H'=>?_
 have H:=Hp.pg H (hw _) H' (hw _)
 clear H'
 refine ⟨_,rfl,ku (decide_eq_false (by omega)) ?_⟩
 refine Cp (Hp.mv H) hs hb hd1 (by omega) λh' hd2 H'=>?_
 have H:=Hp.pg H (hw _) H' (hw _)
 clear H'
 refine ⟨_,rfl,ku (decide_eq_false (by omega)) ?_⟩
 refine Cp (Hp.mv H) hs hb hd2 (by omega) λh' hd3 H'=>?_
 have H:=Hp.pg H (hw _) H' (hw _)
 clear H'
 refine ⟨_,rfl,ku (by rw [beq_eq_false_iff_ne]; omega) ?_⟩
 refine Cp (Hp.mv H) hs hb hd3 (by omega) λh' hd4 H'=>?_
 have H:=Hp.pg H (hw _) H' (hw _)
 clear H'
 refine ⟨_,rfl,ku (by rw [beq_eq_false_iff_ne]; omega) ?_⟩
 refine ⟨λ_ h2=>h2=h',?_,?_⟩
 ·refine fL (λh1=>by omega) λh1=>fL (λh2=>by omega) λh2=>?_
  have em:(((t.w.toNat:Nat):Int)*((t.h.toNat:Nat):Int))=((W*XX:Nat):Int):=by rw [e1,e2,fD,fD]; simp
  refine fw (((W*XX:Nat):Int)) (by (rw [em]; exact u64_in _ (by omega) (by omega))) ?_
  exact EP (decide_eq_false (by omega)) rfl
 rintro h2 u rfl
 obtain ⟨hb8,hd5⟩:=DG hd4
 have hbl8:=QO hd4
 refine MN (Hp.mv H) hs hb (by omega) (λhh=>by rw [hb8] at hh; cases hh) λx h' hx8 H'=>?_
 rw [hb8] at hx8
 injection hx8 with hx8
 subst hx8
 have H:=Hp.pg H (hw _) H' (hw _)
 clear H'
 refine ⟨_,_,rfl,?_⟩
 have hlt:=EV ht
 obtain ⟨ha1,ha2,ha3⟩:=SR hlt
 obtain ⟨ho1,ho2,ho3,ho4⟩:=QE ht
 have hop:=ht.2.2.2.1
 have hst:=ht.2.2.2.2.2
 obtain ⟨a,hadef⟩:∃ a,a=td t:=⟨_,rfl⟩
 rw [<- hadef] at hlt ha1 ha2 ha3 ho1 ho2 ho3 ho4 ⊢
 refine ⟨λ_ h2=>h2=h',?_,?_⟩
 ·refine fZ rfl ?_
  refine fw (((a % 8:Nat):Int)) (by (rw [<- ha1]; exact Q3 a 7 (by omega) (by omega))) ?_
  refine fL (λh1=>by omega) λh1=>?_
  exact ku (decide_eq_false (by omega)) rfl
 rintro h2 u rfl
 refine Cp (Hp.mv H) hs hb hd5 (by omega) λh' hd6 H'=>?_
 have H:=Hp.pg H (hw _) H' (hw _)
 clear H'
 refine ⟨_,rfl,?_⟩
 refine ⟨λ_ h2=>h2=h',?_,?_⟩
 ·refine fL (λh1=>?_) λh1=>ku rfl rfl
  exact ku (by rw [beq_eq_false_iff_ne]; exact hns (by omega)) rfl
 rintro h2 u rfl
 refine EP (decide_eq_false (by omega)) ?_
 refine fw ((t.x)) (by (rw [qD hx.1]; exact i64_in _ (by omega) (by omega))) ?_
 refine fw ((t.y)) (by (rw [qD hy.1]; exact i64_in _ (by omega) (by omega))) ?_
 refine fw ((t.w)) (by (rw [qD (by omega)]; exact i64_in _ (by omega) (by omega))) ?_
 refine fw ((t.h)) (by (rw [qD (by omega)]; exact i64_in _ (by omega) (by omega))) ?_
 refine fw (((a % 8:Nat):Int)) (by (rw [<- ha1]; exact Q3 a 7 (by omega) (by omega))) ?_
 refine fw ((t.op)) (by (rw [ho1]; exact i64_in _ (by omega) (by omega))) ?_
 refine fw (((a / 8 % 2*8:Nat):Int)) (by (rw [<- ha2]; exact Q3 a 8 (by omega) (by omega))) ?_
 refine fw (((a / 16:Nat):Int)) (by exact lG (i:=4) (by decide)) ?_
 refine fw (((a / 16 % 2:Nat):Int)) (by (rw [<- ha3]; exact Q3 (a / 16) 1 (by omega) (by omega))) ?_
 refine fw ((t.df)) (by (rw [ho3]; exact i64_in _ (by omega) (by omega))) ?_
 refine fw (((a / 32:Nat):Int)) (by exact lG (i:=5) (by decide)) ?_
 refine fw ((t.st)) (by (rw [ho4]; exact i64_in _ (by omega) (by omega))) ?_
 have hrf:((((a / 8 % 2*8:Nat):Int)) != (0:Int))=t.rf:=by
  cases hh:t.rf with
  | true =>
   rw [hh,if_pos rfl] at ho2
   rw [ho2]
   rfl
  | false =>
   rw [hh,if_neg (by decide)] at ho2
   rw [ho2]
   rfl
 rw [hrf]
 refine Eb H 0 rfl rfl rfl λh H=>?_
 refine fz (hpA H 0 rfl rfl) (fz (hpA H 0 rfl rfl) (fz (hpA H 0 rfl rfl) (fz (hpA H 0 rfl rfl) (fz (hpA H 0 rfl rfl) (gT (hpA H 0 rfl rfl) (fz (hpA H 0 rfl rfl) (fz (hpA H 0 rfl rfl) (fU (hpA H 0 rfl rfl) ?_))))))))
 refine fw (((n:Nat):Int)) (by exact i64_in _ (by omega) (by omega)) ?_
 refine Eb H 0 rfl rfl rfl λh H=>?_
 refine fz (hpA H 0 rfl rfl) (fz (hpA H 0 rfl rfl) (fz (hpA H 0 rfl rfl) (fz (hpA H 0 rfl rfl) (fz (hpA H 0 rfl rfl) (gT (hpA H 0 rfl rfl) (fz (hpA H 0 rfl rfl) (fz (hpA H 0 rfl rfl) (fU (hpA H 0 rfl rfl) ?_))))))))
 refine hk h ?_
 rw [hlen]
 exact Hp.suf (X:=[_]) H
end
open Go.Ar (DH BJ iX iE iW u8s)
theorem P8 {t:Reg14} {sy:List Bmp} {l:List Ins} (hf:vm t sy l) (hsl:sy.length<=4096) (hl:l.length<=16384) (ha:arI l<=1048576):RdB (s7 t sy l):=by
 have h1:=(xz (t:=t) hf.2.2 hsl hl ha).1
 have h2:=sb (m:=14337) (L:=yv t sy l) (by omega)
 have h3:=Co hf hsl hl ha
 have h4:=w7 t l.length
 have h5:=EV hf.2.1
 refine ⟨λx hx=>?_,?_⟩
 ·unfold s7 at hx
  rcases List.mem_append.1 hx with hx | hx
  ·unfold pH at hx
   simp only [List.mem_append,List.mem_singleton] at hx
   rcases hx with hx | hx | hx | hx | hx | hx
   ·exact Dy x hx
   ·exact Dy x hx
   ·exact Dy x hx
   ·exact Dy x hx
   ·omega
   ·exact Dy x hx
  ·exact Go.Ar.AG h2.wf x hx
 ·unfold s7
  rw [fA]
  omega
theorem Jh (st:Nat) (l:List Ins):Srt (Dw st) (rX st l):=(Cs l).2
theorem MK (st:Nat) (l:List Ins):rX st (rX st l)=rX st l:=(Fp (.refl _) (Jh st l)).symm
theorem SF {α:Type} {E0 E1 E3 E5 E8 E10:α} {V:List α}:([E0,E1,E3,E5]++([E8]++(E10::V))).Perm (E8::E0::E10::E5::E1::E3::V):=by
 have h1:([E0,E1,E3,E5]++([E8]++(E10::V))).Perm (([E8]++(E10::V))++[E0,E1,E3,E5]):=jB
 refine h1.trans (List.Perm.cons E8 ?_)
 have h2:((E10::V)++[E0,E1,E3,E5]).Perm ([E0,E1,E3,E5]++(E10::V)):=jB
 refine h2.trans (List.Perm.cons E0 ?_)
 have h3:(([E1,E3,E5]++[E10])++V).Perm ([E10,E5,E1,E3]++V):=rO V (by
  have h4:([E1,E3,E5]++[E10]).Perm ([E10]++[E1,E3,E5]):=jB
  refine h4.trans (List.Perm.cons E10 ?_)
  exact (jB:([E1,E3]++[E5]).Perm ([E5]++[E1,E3])))
 exact h3
section
variable {hB:Heap} {K:VK} {Kp:PK}
theorem Pp {b:Bmp} {q1:Option Addr} {c1:Nat} (hr:rdO hB q1 (b.ws.length*1) (il b.ws)) (hw:W64 b.ws) (hl:b.ws.length<140737488351300) (hk:∀ (r:Bool) h',(r=true↔¬ b.may)->gi hB h'->K (.bool r) h') :
  CP pt #[.agg #[.int .i64 b.w,.int .i64 b.h,.slice q1 b.ws.length c1]] hB K Kp:=by
 refine xZ ?_
 unfold qG
 have H:=Hp.nil hB []
 refine fV H λr1 h H=>?_
 refine fz (hpA H 0 rfl rfl) (fz (hpA H 0 rfl rfl) (fU (hpA H 0 rfl rfl) ?_))
 refine w9 (H.rdO hr) hw hl λr h' hr' e=>?_
 refine ⟨_,rfl,hk _ _ ?_ (H.gi.trans e)⟩
 cases r with
 | true=>simp; exact hr'.1 rfl
 | false=>simp; exact λhm=>by have:=hr'.2 hm; cases this
variable {t:Reg14} {q q2:Option Addr} {c c2:Nat} {sy:List Bmp} {l:List Ins}
abbrev rQ:List Value:=[.int .i64 0,.int .i64 0,.int .i64 0,.int .i64 0,.int .i64 0,.bool false,.int .i64 0,.int .i64 0,.slice none 0 0]
abbrev Nz (q2:Option Addr) (ns c2:Nat):List Value:=[.pointer none,.int .i64 0,.int .i64 0,.int .i64 0,.int .i64 0,.int .i64 0,.bool false,.int .i64 0,.int .i64 0,.slice none 0 0,.slice q2 ns c2,.int .i64 0,.int .i64 0]
set_option maxHeartbeats 8000000 in
theorem Qc (hr:rdO hB q ((s7 t sy l).length*1) (u8s (s7 t sy l))) (hcap:(s7 t sy l).length<=c) (hs:o7 hB q2 sy) (hf:vm t sy l) (hsl:sy.length<=4096) (hl:l.length<=16384) (har:arI l<=1048576) (hW:∀ i∈l,W64 i.b.ws)
  (hk:∀ R q' c' h',ma R q' c' (rX t.st.toNat l)->Hp hB [] h' R->K (.tuple #[t.ag q' l.length c',.int .i64 0]) h') :
  CP wQ #[.slice q (s7 t sy l).length c,.slice q2 sy.length c2] hB K Kp:=by
 refine DT ?_
 unfold zn
 have hrb:=P8 hf hsl hl har
 have hst:=hf.2.1.2.2.2.2.2
 obtain ⟨S,hS⟩:∃ S,S=rX t.st.toNat l:=⟨_,rfl⟩
 have hSl:S.length=l.length:=by rw [hS]; exact qI _ _
 have hSa:arI S=arI l:=by rw [hS]; exact (Kq (Av _ _)).symm
 have hSok:∀ i∈S,mC t.rf sy i:=λi hi=>hf.2.2 i (s8.1 (hS ▸ hi))
 have hSW:∀ i∈S,W64 i.b.ws:=λi hi=>hW i (s8.1 (hS ▸ hi))
 obtain ⟨b,hbd⟩:∃ b,b=s7 t sy l:=⟨_,rfl⟩
 rw [<- hbd] at hr hcap hrb ⊢
 have H:=Hp.nil hB []
 refine fV H λr1 h H=>?_
 refine fV H λr3 h H=>?_
 refine fV H λr5 h H=>?_
 refine fU (H.cell 1 rfl rfl) ?_
 refine fV H λr8 h H=>?_
 refine fV H λr10 h H=>?_
 refine st0 H 4 rfl rfl rfl λh H=>?_
 have H:Hp hB [] h [⟨r1,true,k7,[.slice q b.length c]⟩,⟨r3,true,iF,[.slice q2 sy.length c2]⟩,⟨r5,true,fR,rQ⟩,⟨r8,true,mX,Nz q2 sy.length c2⟩,⟨r10,true,jV,[.pointer (some ⟨r8,0,none⟩)]⟩]:=H
 refine Fh (λL2=>∃ (p:Nat) (R Z:List Ent) (q':Option Addr) (c':Nat),ma R q' c' S/\L2=rtE r8 p t q' S.length c' q2 sy.length c2 0 (arI S:Nat)::⟨r10,true,jV,[.pointer (some ⟨r8,0,none⟩)]⟩::⟨r5,true,fR,rQ⟩::(R++Z)) (λ_ _=>False) H (λ{re h1 K1 Kp1} H hK1 hKp1=>?_) (λh' L' hp H=>?_) λer h' L' hp H=>hp.elim
 rotate_left
 ·obtain ⟨p,R,Z,q',c',hL,rfl⟩:=hp
  refine ⟨_,rfl,fZ rfl ?_⟩
  refine ja (H.cell 1 rfl rfl) (ja (H.cell 1 rfl rfl) (gv (a:=⟨r8,0,none⟩) ?_))
  refine fz (hpB H 0 rfl rfl) (fz (hpB H 0 rfl rfl) (fz (hpB H 0 rfl rfl) (fz (hpB H 0 rfl rfl) (fz (hpB H 0 rfl rfl) (gT (hpB H 0 rfl rfl) (fz (hpB H 0 rfl rfl) (fz (hpB H 0 rfl rfl) (fU (hpB H 0 rfl rfl) ?_))))))))
  refine xM (t:=t) (hL.view H λe he=>gK _ (gK _ (gK _ (gV _ he)))) (by omega) (λi hi=>iL (hSok i hi).ws (by decide)) λR2 q3 c3 h2 hL2 H'=>?_
  refine ⟨_,_,_,rfl,H'.gi,?_⟩
  have H:=H.join H' hL2.w
  clear H'
  rw [zq hst,hS,MK] at hL2
  refine gv (a:=⟨r8,0,none⟩) ?_
  refine stB H 0 rfl rfl rfl λh H=>?_
  refine ja (H.cell 1 rfl rfl) (gv (a:=⟨r8,0,none⟩) ?_)
  refine fz (hpB H 0 rfl rfl) (fz (hpB H 0 rfl rfl) (fz (hpB H 0 rfl rfl) (fz (hpB H 0 rfl rfl) (fz (hpB H 0 rfl rfl) (gT (hpB H 0 rfl rfl) (fz (hpB H 0 rfl rfl) (fz (hpB H 0 rfl rfl) (fU (hpB H 0 rfl rfl) ?_))))))))
  refine Eb H 2 rfl rfl rfl λh H=>?_
  refine fz (hpA H 2 rfl rfl) (fz (hpA H 2 rfl rfl) (fz (hpA H 2 rfl rfl) (fz (hpA H 2 rfl rfl) (fz (hpA H 2 rfl rfl) (gT (hpA H 2 rfl rfl) (fz (hpA H 2 rfl rfl) (fz (hpA H 2 rfl rfl) (fU (hpA H 2 rfl rfl) ?_))))))))
  have H:Hp hB [] h ((⟨r8,true,mX,_⟩::⟨r10,true,jV,[.pointer (some ⟨r8,0,none⟩)]⟩::⟨r5,true,fR,_⟩::(R++Z))++R2):=H
  rw [hSl]
  exact hk R2 q3 c3 h hL2 (Hp.suf H)
 unfold oy
 simp only
 refine AS (cap0:=⟨r3,0,none⟩) (cap1:=⟨r1,0,none⟩) (cap2:=⟨r10,0,none⟩) ?_
 unfold uN
 have hb0:b=pH t l.length++iX (iE (cdL 14337 (yv t sy l))):=hbd
 have H:Hp hB [] h1 [⟨re,true,gR,[.int .i64 0]⟩,⟨r1,true,k7,[.slice q b.length c]⟩,⟨r3,true,iF,[.slice q2 sy.length c2]⟩,⟨r5,true,fR,rQ⟩,⟨r8,true,mX,Nz q2 sy.length c2⟩,⟨r10,true,jV,[.pointer (some ⟨r8,0,none⟩)]⟩]:=H
 refine fU (H.cell 2 rfl rfl) ?_
 refine Kh (hs.ext H.gi) (by omega) (λh b q1 c1 K2 _ hr hw hl hk1=>?_) λr h' hr' e=>⟨_,rfl,?_⟩
 ·unfold oy
  simp only
  exact Pp hr hw hl hk1
 have H:=H.ext e
 clear e
 refine ku (Bool.eq_false_iff.2 λhh=>hr'.1 hh hf.1) ?_
 refine fU (H.cell 2 rfl rfl) (EP (decide_eq_false (by omega)) ?_)
 refine fU (H.cell 1 rfl rfl) ?_
 refine Iz (H.rdO hr) hrb λrr q' c' Dr h hsD H'=>?_
 have H:=H.join H' (by rw [ua,hsD.w]; rfl)
 clear H'
 have hDw:∀ i,(rdE rr q' b.length c' i::Dr).all Ent.w=true:=λi=>by rw [ua,hsD.w]; rfl
 obtain ⟨Y,hY⟩:∃ Y:List Ent,Y=[⟨re,true,gR,[.int .i64 0]⟩,⟨r1,true,k7,[.slice q b.length c]⟩,⟨r3,true,iF,[.slice q2 sy.length c2]⟩,⟨r5,true,fR,rQ⟩,⟨r8,true,mX,Nz q2 sy.length c2⟩,⟨r10,true,jV,[.pointer (some ⟨r8,0,none⟩)]⟩]:=⟨_,rfl⟩
 have hYb:re∈Y.map Ent.b/\r1∈Y.map Ent.b/\r3∈Y.map Ent.b/\r10∈Y.map Ent.b:=by rw [hY]; simp
 refine ⟨_,rfl,?_⟩
 refine ⟨λz=>z∈Y.map Ent.b,?_⟩
 refine ja (H.cell 5 rfl rfl) ⟨hYb.2.2.2,ja (H.cell 5 rfl rfl) ⟨hYb.2.2.2,fU (H.cell 2 rfl rfl) ⟨hYb.2.2.1,?_⟩⟩⟩
 have hns:0<l.length->((sy.length:Nat):Int)≠0:=λh0=>by
  obtain ⟨i,hi⟩:∃ i,l[0]? = some i:=⟨_,fP h0⟩
  have:=(hf.2.2 i (fS hi)).1
  omega
 rw [<- hY] at H
 refine KA (Hp.mv H) hsD hrb (t:=t) (n:=l.length) (ns:=(sy.length:Nat)) hf.2.1 hl hns hb0 λh' H'=>?_
 have hkp:=Hp.SO H H'
 have H:=Hp.pg H (hDw _) H' (hDw _)
 clear H'
 refine ⟨_,_,_,_,_,_,_,_,_,_,_,_,rfl,hkp,?_⟩
 clear hkp
 rw [hY] at H
 refine gv (a:=⟨r8,0,none⟩) ?_
 rw [gC,fN]
 refine At (o:=1) (i:=0) H (k:=4) rfl (fB rfl) (λv hv=>List.all_eq_true.1 (show (t.cs none 0 0).all Value.oneCell'=true from rfl) v hv) λh _ H=>?_
 refine gv (a:=⟨r8,0,none⟩) ?_
 refine stA H 4 rfl rfl rfl λh H=>?_
 obtain ⟨i,hi⟩:∃ i,i=(pH t l.length).length:=⟨_,rfl⟩
 obtain ⟨Y2,hY2⟩:∃ Y:List Ent,Y=[⟨re,true,gR,[.int .i64 0]⟩,⟨r1,true,k7,[.slice q b.length c]⟩,⟨r3,true,iF,[.slice q2 sy.length c2]⟩,⟨r5,true,fR,rQ⟩,⟨r8,true,mX,[.pointer none,.int .i64 t.x,.int .i64 t.y,.int .i64 t.w,.int .i64 t.h,.int .i64 t.op,.bool t.rf,.int .i64 t.df,.int .i64 t.st,.slice none 0 0,.slice q2 sy.length c2,.int .i64 (l.length:Nat),.int .i64 0]⟩,⟨r10,true,jV,[.pointer (some ⟨r8,0,none⟩)]⟩]:=⟨_,rfl⟩
 have hYb:r1∈Y2.map Ent.b/\r10∈Y2.map Ent.b:=by rw [hY2]; simp
 have H:Hp hB [] h (Y2++(rdE rr q' b.length c' i::Dr)):=by rw [hY2,hi]; exact H
 have c10:∀ {h Z},Hp hB [] h (Y2++Z)->ic h ⟨r10,0,none⟩=some (.pointer (some ⟨r8,0,none⟩)):=λH=>by
  rw [hY2] at H
  exact H.cell 5 rfl rfl
 have c1:∀ {h Z},Hp hB [] h (Y2++Z)->ic h ⟨r1,0,none⟩=some (.slice q b.length c):=λH=>by
  rw [hY2] at H
  exact H.cell 1 rfl rfl
 refine ⟨λz=>z∈Y2.map Ent.b,?_⟩
 refine ja (c10 H) ⟨hYb.2,fU (c1 H) ⟨hYb.1,fU (c1 H) ⟨hYb.1,?_⟩⟩⟩
 have hbll:=hrb.bl
 have hile:i<=b.length:=by rw [hb0,fA,hi]; omega
 have hdr:b.drop i=iX (iE (cdL 14337 (yv t sy l))):=by rw [hb0,hi,List.drop_left]
 refine Fy (Hp.suf H) hrb hile ⟨_,rfl,lZ.refl _ _,?_⟩
 refine fw (((b.length-i:Nat):Int)) (by exact fO _ _ (by rw [show ((8*(b.length-i):Nat):Int).tdiv 8=((8*(b.length-i) / 8:Nat):Int) from rfl]; omega) (by omega) (by omega)) ?_
 refine fw (((i:Nat):Int)) (by exact fO _ _ (by omega) (by omega) (by omega)) ?_
 refine fH (by omega) ?_
 rw [fD]
 have hdl:(b.drop i).length=b.length-i:=kA
 have hd8:∀ z∈b.drop i,z<256:=λz hz=>hrb.b8 z (Bn hz)
 rw [<- hdl]
 refine Go.Ar.GF (n:=14337) (b:=b.drop i) (by omega) (by omega) hd8 (by omega) (H.rdO (Oi hr hile hcap)) λp qd e0 bp bc h hbok H'=>?_
 have hx:=H'.gi
 have hdw:∀ s,(iW p qd e0 bp bc s).all Ent.w=true:=λs=>by simp [iW,Go.Ar.yM,hbok.1]
 have H:=H.join H' (hdw _)
 clear H'
 refine ⟨_,_,rfl,hx.keep _,?_⟩
 refine gv (a:=⟨r8,0,none⟩) ?_
 rw [hY2] at H
 refine stA H 4 rfl rfl rfl λh H=>?_
 refine lJ ?_
 have H:Hp hB [] h ([⟨re,true,gR,[.int .i64 0]⟩,⟨r1,true,k7,[.slice q b.length c]⟩,⟨r3,true,iF,[.slice q2 sy.length c2]⟩,⟨r5,true,fR,rQ⟩]++([rtE r8 p t none 0 0 q2 sy.length c2 (l.length:Nat) 0]++(⟨r10,true,jV,[.pointer (some ⟨r8,0,none⟩)]⟩::rdE rr q' b.length c' i::Dr)++iW p qd e0 bp bc (BJ (b.drop i) 14337))):=H
 have H:=H.Lr
 refine ja (by exact H.cell 5 rfl rfl) ?_
 obtain ⟨X,hX⟩:∃ X:List Ent,X=⟨re,true,gR,[.int .i64 0]⟩::⟨r10,true,jV,[.pointer (some ⟨r8,0,none⟩)]⟩::⟨r5,true,fR,rQ⟩::⟨r1,true,k7,[.slice q b.length c]⟩::⟨r3,true,iF,[.slice q2 sy.length c2]⟩::rdE rr q' b.length c' i::Dr:=⟨_,rfl⟩
 have hXw:X.all Ent.w=true:=by rw [hX]; simp only [ua,hsD.w]; rfl
 have H:Hp hB [] h ((rtE r8 p t none 0 0 q2 sy.length c2 (S.length:Nat) 0::X)++iW p qd e0 bp bc (BJ (b.drop i) 14337)):=by
  rw [hX,hSl]
  refine H.perm (rO _ ?_)
  generalize rtE r8 p t none 0 0 q2 sy.length c2 (l.length:Nat) 0=E8
  generalize (rdE rr q' b.length c' i::Dr)=V
  generalize (⟨re,true,gR,[.int .i64 0]⟩:Ent)=E0
  generalize (⟨r1,true,k7,[.slice q b.length c]⟩:Ent)=E1
  generalize (⟨r3,true,iF,[.slice q2 sy.length c2]⟩:Ent)=E3
  generalize (⟨r5,true,fR,rQ⟩:Ent)=E5
  generalize (⟨r10,true,jV,[.pointer (some ⟨r8,0,none⟩)]⟩:Ent)=E10
  exact SF
 have hTl:=xz (t:=t) hf.2.2 hsl hl har
 have hw:=H8 (m:=14337) hTl.2 (by omega)
 have hS0:Strm (yv t sy l) (DH (kOf (yv t sy l)) (iX (iE (cdL 14337 (yv t sy l)))) 14337) (b.drop i) e0 bp:=⟨hw,λj hj=>by rw [hdr]; exact Kb (by rw [<- hdr]; exact hd8) j (by omega),hbok,by omega,by omega⟩
 have hD0:BJ (b.drop i) 14337=DH (kOf (yv t sy l)) (iX (iE (cdL 14337 (yv t sy l)))) 14337 0:=by rw [hdr]; rfl
 rw [hD0] at H
 refine Qb hS0 H hXw (by rw [hS]; rfl) hs hf.1 hsl hst hSok hSW (by rw [hS]; exact Jh _ _) (by omega) (by omega) λR q3 c3 h hL H=>?_
 rw [hX] at H
 have H:=Hp.pre H
 have H:Hp hB [] h (rtE r8 p t q3 S.length c3 q2 sy.length c2 0 (arI S:Nat)::⟨re,true,gR,[.int .i64 0]⟩::⟨r10,true,jV,[.pointer (some ⟨r8,0,none⟩)]⟩::⟨r5,true,fR,rQ⟩::((⟨r1,true,k7,[.slice q b.length c]⟩::⟨r3,true,iF,[.slice q2 sy.length c2]⟩::rdE rr q' b.length c' i::Dr)++R)):=H
 have H:=H.perm (List.Perm.swap _ _ _)
 refine hK1 h _ ⟨p,R,⟨r1,true,k7,[.slice q b.length c]⟩::⟨r3,true,iF,[.slice q2 sy.length c2]⟩::rdE rr q' b.length c' i::Dr,q3,c3,hL,rfl⟩ ?_
 exact H.perm (List.Perm.cons _ (List.Perm.cons _ (List.Perm.cons _ (List.Perm.cons _ jB))))
end
def mM (sy:List Bmp) (i:Ins):Bmp:=if i.d=true then i.b else l7 sy i.s
def ON (sy:List Bmp) (op W:Nat) (G:Nat->Nat->Bool) (i:Ins):Nat->Nat->Bool:=λx Y =>
 if i.x<=x/\(x:Int)<i.x+(mM sy i).w/\x<W/\i.y<=Y/\(Y:Int)<i.y+(mM sy i).h then opB op (G x Y) (pix (mM sy i).ws (wds (mM sy i).w.toNat) (x-i.x).toNat (Y-i.y).toNat) else G x Y
def Nj (t:Reg14):Nat->Nat->Bool:=λx _=>decide (t.df=1/\x<t.w.toNat)
def zG (t:Reg14) (sy:List Bmp) (l:List Ins):Nat->Nat->Bool:=l.foldl (ON sy t.op.toNat t.w.toNat) (Nj t)
def Cf (W X:Nat) (G:Nat->Nat->Bool) (R:List Nat):Prop:=R.length=X*wds W/\W64 R/\∀ Y,Y<X->∀ x,x<64*wds W->pix R (wds W) x Y=G x Y
theorem Cf.eq {W X:Nat} {G:Nat->Nat->Bool} {R R':List Nat} (h:Cf W X G R) (h':Cf W X G R'):R=R' :=
 LX h.1 h'.1 h.2.1 h'.2.1 λY hY x hx=>by rw [h.2.2 Y hY x hx,h'.2.2 Y hY x hx]
theorem F8 (t:Reg14) (sy:List Bmp) (l:List Ins) (i:Ins):zG t sy (l++[i])=ON sy t.op.toNat t.w.toNat (zG t sy l) i:=by
 unfold zG
 rw [GA]
 rfl
theorem mC.src {rf:Bool} {sy:List Bmp} {i:Ins} (h:mC rf sy i) (hm:xB sy):(mM sy i).may:=by
 unfold mM
 split
 ·rename_i hd
  exact (h.2.2.2.2 hd).2.1
 ·obtain ⟨s,hs⟩:∃ s,sy[i.s.toNat]? = some s:=⟨_,fP (by have:=h.1; omega)⟩
  unfold l7
  rw [fY,hs]
  exact hm s (fS hs)
theorem Cf.lay {W X W2 X2 op:Nat} {sy:List Bmp} {G:Nat->Nat->Bool} {R R':List Nat} {i:Ins} (h:Cf W X G R) (ew:(mM sy i).w=(W2:Nat)) (eh:(mM sy i).h=(X2:Nat)) (hl:R'.length=X*wds W) (hw:W64 R')
  (hp:∀ Y,Y<X->∀ x',x'<64*wds W->pix R' (wds W) x' Y=if i.x<=x'/\(x':Int)<i.x+(W2:Nat)/\x'<W/\i.y<=Y/\(Y:Int)<i.y+(X2:Nat)/\0<=0+((x':Int)-i.x)/\0+((x':Int)-i.x)<(W2:Nat)/\0<=0+((Y:Int)-i.y)/\0+((Y:Int)-i.y)<(X2:Nat) then opB op (pix R (wds W) x' Y) (pix (mM sy i).ws (wds W2) (0+((x':Int)-i.x)).toNat (0+((Y:Int)-i.y)).toNat) else pix R (wds W) x' Y) :
  Cf W X (ON sy op W G i) R':=by
 refine ⟨hl,hw,λY hY x hx=>?_⟩
 rw [hp Y hY x hx,h.2.2 Y hY x hx]
 unfold ON
 rw [ew,eh,fD]
 by_cases hc:i.x<=x/\(x:Int)<i.x+(W2:Nat)/\x<W/\i.y<=Y/\(Y:Int)<i.y+(X2:Nat)
 ·rw [if_pos hc,if_pos (by omega),Int.zero_add,Int.zero_add]
 ·rw [if_neg hc,if_neg (by omega)]
section
variable {hB:Heap} {K:VK} {Kp:PK} {t:Reg14} {q q2:Option Addr} {c c2:Nat} {sy:List Bmp} {l:List Ins}
set_option maxHeartbeats 8000000 in
theorem Jd (hv:rj hB q l) (hs:o7 hB q2 sy) (hl:l.length<=1000000) (hsl:sy.length<=1000000000000)
  (hkb:∀ h',qz t sy l≠0->gi hB h'->K (.tuple #[.agg #[.int .i64 0,.int .i64 0,.slice none 0 0],.int .i64 (qz t sy l)]) h')
  (hk:∀ R D qo co h',qz t sy l=0->Cf t.w.toNat t.h.toNat (zG t sy (rX t.st.toNat l)) R->Slot gj 1 D qo R.length co (il R)->Hp hB [] h' D->K (.tuple #[.agg #[.int .i64 t.w,.int .i64 t.h,.slice qo R.length co],.int .i64 0]) h') :
  CP tp #[t.ag q l.length c,.slice q2 sy.length c2] hB K Kp:=by
 refine Gk ?_
 unfold Df
 have H:=Hp.nil hB []
 refine fV H λr10 h H=>?_
 refine fV H λr12 h H=>?_
 have H:Hp hB [] h [⟨r10,true,fR,t.cs q l.length c⟩,⟨r12,true,fK,[.int .i64 0,.int .i64 0,.slice none 0 0]⟩]:=H
 repeat first | with_reducible refine fz (by with_unfolding_all first | exact hpA H 0 rfl rfl | exact Hp.cell H 0 rfl rfl | exact hpB H 0 rfl rfl | exact hpC H 0 rfl rfl) ?_ | with_reducible refine fU (by with_unfolding_all first | exact hpA H 0 rfl rfl | exact Hp.cell H 0 rfl rfl | exact hpB H 0 rfl rfl | exact hpC H 0 rfl rfl) ?_ | with_reducible refine ja (by with_unfolding_all first | exact hpA H 0 rfl rfl | exact Hp.cell H 0 rfl rfl | exact hpB H 0 rfl rfl | exact hpC H 0 rfl rfl) ?_ | with_reducible refine gT (by with_unfolding_all first | exact hpA H 0 rfl rfl | exact Hp.cell H 0 rfl rfl | exact hpB H 0 rfl rfl | exact hpC H 0 rfl rfl) ?_ | with_reducible refine pj (by with_unfolding_all first | exact hpA H 0 rfl rfl | exact Hp.cell H 0 rfl rfl | exact hpB H 0 rfl rfl | exact hpC H 0 rfl rfl) ?_
 refine Er (t:=t) (hv.ext H.gi) (hs.ext H.gi) hl hsl λh' e=>⟨_,rfl,?_⟩
 have H:=H.ext e
 clear e
 refine jg (λh1=>?_) λh1=>?_
 ·refine stA H 1 rfl rfl rfl λh H=>?_
  refine stA H 1 rfl rfl rfl λh H=>?_
  refine stA H 1 rfl rfl rfl λh H=>?_
  refine fz (hpA H 1 rfl rfl) (fz (hpA H 1 rfl rfl) (fU (hpA H 1 rfl rfl) ?_))
  exact hkb h h1 H.gi
 obtain ⟨hf,hsl4,hl16,har⟩:=uE h1
 have hk:=λR D qo co h'=>hk R D qo co h' h1
 rw [h1] at hkb
 clear h1 hkb
 have hst:=hf.2.1.2.2.2.2.2
 have hdf:=hf.2.1.2.2.2.2.1
 have hop:=hf.2.1.2.2.2.1
 obtain ⟨OP,hOP⟩:∃ OP:Nat,t.op=(OP:Int):=⟨t.op.toNat,by omega⟩
 refine fz (hpA H 0 rfl rfl) (fz (hpA H 0 rfl rfl) ?_)
 refine IA (λW XX p qm h hW hX hsz H'=>⟨_,_,rfl,?_⟩) λhn=>absurd hf.2.1.1 hn
 refine fZ rfl ?_
 have H:=H.join H' rfl
 clear H'
 refine fz (hpA H 0 rfl rfl) (fz (hpA H 0 rfl rfl) (fz (hpA H 0 rfl rfl) ?_))
 obtain ⟨W',X',e1,e2,hW1,hW2,hX1,hX2,hWX⟩:=jf hsz
 obtain rfl:W=W':=by omega
 obtain rfl:XX=X':=by omega
 clear e1 e2
 have hWt:t.w.toNat=W:=by omega
 have hXt:t.h.toNat=XX:=by omega
 rw [hWt,hXt] at hk
 have hhw:=rR hW1 hWX
 have hsz2:jX (W:Int) (XX:Int):=by rw [<- hW,<- hX]; exact hsz
 refine QK (W:=W) (X:=XX) (Hp.mv (A:=[⟨r10,true,fR,t.cs q l.length c⟩,⟨r12,true,fK,[.int .i64 0,.int .i64 0,.slice none 0 0]⟩]) H) hsz2 (Ao ..) (W64.zero _) ⟨by decide,by decide⟩ ⟨by decide,by decide⟩ (w:=t.w) (g:=t.h) ⟨by omega,by omega⟩ ⟨by omega,by omega⟩ (by omega) (by omega) (bit:=t.df) (by omega) λR0 h hR0l hR0w hR0p H'=>?_
 have H:=Hp.pg (A:=[⟨r10,true,fR,t.cs q l.length c⟩,⟨r12,true,fK,[.int .i64 0,.int .i64 0,.slice none 0 0]⟩]) H rfl H' rfl
 clear H'
 refine ⟨_,rfl,?_⟩
 repeat first | with_reducible refine fz (by with_unfolding_all first | exact hpA H 0 rfl rfl | exact Hp.cell H 0 rfl rfl | exact hpB H 0 rfl rfl | exact hpC H 0 rfl rfl) ?_ | with_reducible refine fU (by with_unfolding_all first | exact hpA H 0 rfl rfl | exact Hp.cell H 0 rfl rfl | exact hpB H 0 rfl rfl | exact hpC H 0 rfl rfl) ?_ | with_reducible refine ja (by with_unfolding_all first | exact hpA H 0 rfl rfl | exact Hp.cell H 0 rfl rfl | exact hpB H 0 rfl rfl | exact hpC H 0 rfl rfl) ?_ | with_reducible refine gT (by with_unfolding_all first | exact hpA H 0 rfl rfl | exact Hp.cell H 0 rfl rfl | exact hpB H 0 rfl rfl | exact hpC H 0 rfl rfl) ?_ | with_reducible refine pj (by with_unfolding_all first | exact hpA H 0 rfl rfl | exact Hp.cell H 0 rfl rfl | exact hpB H 0 rfl rfl | exact hpC H 0 rfl rfl) ?_
 have hpic0:Cf W XX (Nj t) R0:=⟨hR0l,hR0w,λY hY x hx=>by
  rw [hR0p Y hY x hx]
  unfold Nj
  rw [hWt]
  by_cases hx2:x<W
  ·rw [if_pos (by omega)]
   simp [hx2]
  ·rw [if_neg (by omega),CA]
   simp [hx2]⟩
 clear hR0p
 refine xM (t:=t) (hv.ext H.gi) hl (λi hi=>iL (hf.2.2 i hi).ws (by decide)) λR q' c' h' hL H'=>?_
 refine ⟨_,_,_,rfl,?_⟩
 replace H:=H.join H' hL.w
 clear H'
 rw [zq hst] at hL
 have hRw:=hL.w
 obtain ⟨O,E,h1,h2,h3,rfl⟩:=hL
 obtain ⟨S,hS⟩:∃ S,S=rX t.st.toNat l:=⟨_,rfl⟩
 rw [<- hS] at h2 h3 hk
 have hSl:S.length=l.length:=by rw [hS]; exact qI _ _
 have hSok:∀ i∈S,mC t.rf sy i:=λi hi=>hf.2.2 i (s8.1 (hS ▸ hi))
 rw [<- hSl]
 have H:=Hp.swap (X:=[⟨r10,true,fR,t.cs q l.length c⟩,⟨r12,true,fK,[.int .i64 0,.int .i64 0,.slice none 0 0]⟩]) H
 obtain ⟨V,hV⟩:∃ V,V=dsI O++E:=⟨_,rfl⟩
 rw [<- hV] at H hRw
 have H:Hp hB [] h' ((⟨r10,true,fR,t.cs q l.length c⟩::⟨r12,true,fK,[.int .i64 0,.int .i64 0,.slice none 0 0]⟩::V)++oV p qm W XX R0 []):=H
 have rdS:∀ {h A Z},Hp hB [] h (A++(V++Z))->rdO h q' (S.length*7) (csI O):=λ{h A Z} H=>Slot.vt h3 H λe he=>fX _ (gV _ (by rw [hV]; exact fX _ he))
 have rdV:∀ {o:OwI} {h A Z},o∈O->Hp hB [] h (A++(V++Z))->o.Vw h:=λ{o h A Z} ho H=>⟨Slot.vt (h1 o ho).s H λe he=>fX _ (gV _ (by rw [hV]; exact gV _ (CL ho e he))),(h1 o ho).w,(h1 o ho).l⟩
 have hOl:O.length=S.length:=by rw [<- h2,iu]
 refine ⟨λm vs h'=>∃ (k:Nat) (R:List Nat),k+m=S.length/\vs=[.int .i64 (k:Nat)]/\Cf W XX (zG t sy (S.take k)) R/\Hp hB [] h' ((⟨r10,true,fR,t.cs q l.length c⟩::⟨r12,true,fK,[.int .i64 0,.int .i64 0,.slice none 0 0]⟩::V)++oV p qm W XX R []),⟨S.length,0,R0,by omega,rfl,hpic0,H⟩,?_⟩
 clear H hpic0 hR0l hR0w
 rintro m h u xk ⟨k,R,hkm,hxx,hpic,H⟩
 injection hxx with hx1 hxx
 injection hx1 with _ hx1
 subst xk
 have hRl:=hpic.1
 have hRw2:=hpic.2.1
 have hRll:R.length=XX*wds W:=hRl
 refine fL (λh5=>?_) λh5=>?_
 rotate_left
 ·obtain rfl:k=S.length:=by omega
  rw [gz (gg _)] at hpic
  have hpos:1<=XX*wds W:=GP hX1 (Ap hW1)
  have H:Hp hB [] h (⟨r12,true,fK,[.int .i64 0,.int .i64 0,.slice none 0 0]⟩::(V++oV p qm W XX R [])):=Hp.suf (X:=[_]) H
  have H:=Hp.rot (X:=⟨r12,true,fK,[.int .i64 0,.int .i64 0,.slice none 0 0]⟩::V) H
  refine Jw (ws:=R) (rest:=[]) H 0 1 rfl rfl (by omega) (by omega) λo orest h' H=>?_
  refine ⟨_,_,_,_,_,rfl,?_⟩
  have H:Hp hB [] h' (ph p qm W XX R.length (R.length+0)::⟨qm,true,gj,il R++[]⟩::⟨r12,true,fK,[.int .i64 0,.int .i64 0,.slice none 0 0]⟩::(V++[⟨o,true,gj,il R++orest⟩])):=H
  refine stA H 2 rfl rfl rfl λh H=>?_
  refine stA H 2 rfl rfl rfl λh H=>?_
  refine stA H 2 rfl rfl rfl λh H=>?_
  refine fz (hpA H 2 rfl rfl) (fz (hpA H 2 rfl rfl) (fU (hpA H 2 rfl rfl) ?_))
  rw [<- hW,<- hX]
  refine hk R [⟨o,true,gj,il R++orest⟩] _ _ h hpic (Slot.one (by rw [iO,gu]) (by rw [fA,iO,gu])) ?_
  have H:Hp hB [] h ((_::_::_::V)++[⟨o,true,gj,il R++orest⟩]):=H
  exact Hp.suf H
 obtain ⟨o,ho⟩:∃ o,O[k]? = some o:=⟨_,fP (by omega)⟩
 have hoS:S[k]? = some o.i:=by rw [<- h2,gL,ho]; rfl
 have hio:=hSok _ (fS hoS)
 obtain ⟨a,ha,cell⟩:=l3 (rdS (A:=[_,_]) H) ho
 refine fH (by omega) (iJ ha ?_)
 rw [fD]
 refine Nf cell ?_
 refine fV H λr76 h H=>?_
 have H:=H.rot
 have H:Hp hB [] h (⟨r76,true,fM,[.int .i64 0,.int .i64 0,.int .i64 0,.bool false,.int .i64 0,.int .i64 0,.slice none 0 0]⟩::⟨r10,true,fR,t.cs q l.length c⟩::⟨r12,true,fK,[.int .i64 0,.int .i64 0,.slice none 0 0]⟩::(V++oV p qm W XX R [])):=H
 repeat first | with_reducible refine stA H 0 (by with_unfolding_all exact rfl) (by with_unfolding_all exact rfl) (by with_unfolding_all exact rfl) λh H=>?_ | with_reducible refine st0 H 0 (by with_unfolding_all exact rfl) (by with_unfolding_all exact rfl) (by with_unfolding_all exact rfl) λh H=>?_ | with_reducible refine stB H 0 (by with_unfolding_all exact rfl) (by with_unfolding_all exact rfl) (by with_unfolding_all exact rfl) λh H=>?_
 have H:Hp hB [] h (⟨r76,true,fM,o.cs⟩::⟨r10,true,fR,t.cs q l.length c⟩::⟨r12,true,fK,[.int .i64 0,.int .i64 0,.slice none 0 0]⟩::(V++oV p qm W XX R [])):=H
 refine fz (hpB H 0 rfl rfl) (fz (hpB H 0 rfl rfl) (fU (hpB H 0 rfl rfl) ?_))
 refine fV H λr88 h H=>?_
 have H:=H.rot
 have H:Hp hB [] h (⟨r88,true,fK,[.int .i64 0,.int .i64 0,.slice none 0 0]⟩::⟨r76,true,fM,o.cs⟩::⟨r10,true,fR,t.cs q l.length c⟩::⟨r12,true,fK,[.int .i64 0,.int .i64 0,.slice none 0 0]⟩::(V++oV p qm W XX R [])):=H
 repeat first | with_reducible refine stA H 0 (by with_unfolding_all exact rfl) (by with_unfolding_all exact rfl) (by with_unfolding_all exact rfl) λh H=>?_ | with_reducible refine st0 H 0 (by with_unfolding_all exact rfl) (by with_unfolding_all exact rfl) (by with_unfolding_all exact rfl) λh H=>?_ | with_reducible refine stB H 0 (by with_unfolding_all exact rfl) (by with_unfolding_all exact rfl) (by with_unfolding_all exact rfl) λh H=>?_
 refine ⟨λ_ h'=>∃ q9 c9,(∀ {h},Hp hB [] h (⟨r88,true,fK,[.int .i64 (mM sy o.i).w,.int .i64 (mM sy o.i).h,.slice q9 (mM sy o.i).ws.length c9]⟩::⟨r76,true,fM,o.cs⟩::⟨r10,true,fR,t.cs q l.length c⟩::⟨r12,true,fK,[.int .i64 0,.int .i64 0,.slice none 0 0]⟩::(V++oV p qm W XX R []))->rdO h q9 ((mM sy o.i).ws.length*1) (il (mM sy o.i).ws)/\W64 (mM sy o.i).ws/\(mM sy o.i).ws.length<140737488351300) /\
   Hp hB [] h' (⟨r88,true,fK,[.int .i64 (mM sy o.i).w,.int .i64 (mM sy o.i).h,.slice q9 (mM sy o.i).ws.length c9]⟩::⟨r76,true,fM,o.cs⟩::⟨r10,true,fR,t.cs q l.length c⟩::⟨r12,true,fK,[.int .i64 0,.int .i64 0,.slice none 0 0]⟩::(V++oV p qm W XX R [])),?_,?_⟩
 ·refine gT (hpA H 1 rfl rfl) (iM (λhd=>?_) λhd=>?_)
  ·obtain ⟨a3,q9,c9,ha3,hc0⟩:=hs _ _ (zp hio)
   have hc:=hc0.ext H.gi
   have esrc:mM sy o.i=l7 sy o.i.s:=by unfold mM; rw [if_neg (by rw [hd]; decide)]
   have hid:=hio.1
   refine fz (hpA H 1 rfl rfl) (fH (by omega) (iJ ha3 ?_))
   refine fz hc.c0 (fz hc.c1 (fU hc.c2 ?_))
   repeat first | with_reducible refine stA H 0 (by with_unfolding_all exact rfl) (by with_unfolding_all exact rfl) (by with_unfolding_all exact rfl) λh H=>?_ | with_reducible refine st0 H 0 (by with_unfolding_all exact rfl) (by with_unfolding_all exact rfl) (by with_unfolding_all exact rfl) λh H=>?_ | with_reducible refine stB H 0 (by with_unfolding_all exact rfl) (by with_unfolding_all exact rfl) (by with_unfolding_all exact rfl) λh H=>?_
   rw [esrc]
   exact ⟨q9,c9,λH=>⟨H.rdO hc0.r1,hc0.w1,hc0.l1⟩,H⟩
  ·have esrc:mM sy o.i=o.i.b:=by unfold mM; rw [if_pos hd]
   rw [esrc]
   refine ⟨o.q,o.c,λH=>?_,H⟩
   have:=rdV (A:=[_,_,_,_]) (fS ho) H
   exact ⟨this.r,this.w,this.l⟩
 clear H cell
 rintro h u ⟨q9,c9,hrd,H⟩
 refine fz (hpA H 0 rfl rfl) (fz (hpA H 0 rfl rfl) (fU (hpA H 0 rfl rfl) ?_))
 have hmay:=hio.src hf.1
 obtain ⟨g1,g2,g3⟩:=hrd H
 refine CG g1 g2 g3 (λW2 X2 p2 qs srest h' ew eh hm2 H'=>⟨_,_,rfl,?_⟩) λh' hn _=>absurd hmay hn
 refine fZ rfl ?_
 have H:=H.join H' rfl
 clear H'
 refine fz (hpA H 0 rfl rfl) (fz (hpA H 0 rfl rfl) (fz (hpA H 1 rfl rfl) (fz (hpA H 1 rfl rfl) (fz (hpA H 2 rfl rfl) ?_))))
 rw [hOP]
 obtain ⟨W3,X3,e3,e4,hV1,hV2,hY1,hY2,hVY⟩:=jf hmay.1
 have hsrl:(mM sy o.i).ws.length=X2*wds W2:=by
  have:=hmay.2.1
  rw [ew,eh,fD,fD] at this
  exact this
 have H:Hp hB [] h' ((⟨r88,true,fK,[.int .i64 (mM sy o.i).w,.int .i64 (mM sy o.i).h,.slice q9 (mM sy o.i).ws.length c9]⟩::⟨r76,true,fM,o.cs⟩::⟨r10,true,fR,t.cs q l.length c⟩::⟨r12,true,fK,[.int .i64 0,.int .i64 0,.slice none 0 0]⟩::V)++(oV p qm W XX R []++oV p2 qs W2 X2 (mM sy o.i).ws srest)):=H.as (by simp only [gm,fC])
 have hxb:=hio.2.1
 have hyb:=hio.2.2.1
 refine QY (W:=W) (X:=XX) (W2:=W2) (X2:=X2) (Hp.mv H) hsz2 hRl hRw2 (by rw [<- ew,<- eh]; exact hmay.1) hsrl g2 (sx:=0) (sy:=0) (w:=(mM sy o.i).w) (g:=(mM sy o.i).h) (dx:=o.i.x) (dy:=o.i.y) (op:=OP) ⟨by decide,by decide⟩ ⟨by decide,by decide⟩ ⟨by omega,by omega⟩ ⟨by omega,by omega⟩ ⟨by omega,by omega⟩ ⟨by omega,by omega⟩ (by omega) (by omega) (by omega) λR' h' hR'l hR'w hR'p H'=>?_
 have H:=Hp.pg H rfl H' rfl
 clear H'
 refine ⟨_,rfl,?_⟩
 refine fw (((k+1:Nat):Int)) (by exact fO _ _ (by omega) (by omega) (by omega)) ?_
 refine ⟨m-1,by omega,k+1,R',by omega,rfl,?_,?_⟩
 ·rw [kC hoS,F8,hWt,show t.op.toNat=OP by omega]
  rw [ew,eh] at hR'p
  exact hpic.lay ew eh hR'l hR'w hR'p
 ·exact Hp.suf (X:=[_,_]) (Hp.pre H.Lr)
end
end Go.Bm
namespace Go.Den.YtbknfejmdekhpaaGreat
open Go Go.Den
def sr (C:gl) (aW aX aY aZ a0:Int) (a1:Bool) (a2 a3:Int) (a4:Option Addr) (Y Z:Nat) (aa:Option Addr) (B D:Nat) (h:Heap) (K:VK) (Kp:PK):Prop :=
gE h [.int .i64 aW,.int .i64 aX,.int .i64 aY,.int .i64 aZ,.int .i64 a0,.bool a1,.int .i64 a2,.int .i64 a3,.slice a4 Y Z,.slice aa B D] mn λc ab=>
∃ p:Nat->List Value->Heap->Prop,(∃ l,p l [.int .i64 0,.int .i64 0] ab)/\∀ (l:Nat) (f:Heap) (bm:Nat->Value) (q g:Int),p l [.int .i64 q,.int .i64 g] f->(
ldS f (.add ⟨c,0,none⟩ 9) λbn E a5=>
fI (decide (g<(E:Int))) (
ldS f (.add ⟨c,0,none⟩ 9) λac F a6=>
fW (0<=g/\g<(F:Int))<|
ptr ac λad=>
ldS f ((ad.add (g.toNat*3)).add 2) λbo G a7=>
fG (IntKind.i64.wrap ((64:Int)*(G:Int))) λae=>
fG (IntKind.i64.wrap (q+ae)) λaf=>
fG (IntKind.i64.wrap (af+(8:Int))) λv=>
fI (decide (v > (384000:Int))) (
K (.bool false) f)<|
fG (IntKind.i64.wrap (g+(1:Int))) λag=>
∃ w,w<l/\p w [.int .i64 v,.int .i64 ag] f)<|
∃ m:Nat->List Value->Heap->Prop,(∃ i,m i [.int .i64 q,.int .i64 0,.int .i64 0] f)/\∀ (i:Nat) (a:Heap) (bp:Nat->Value) (x e b:Int),m i [.int .i64 x,.int .i64 e,.int .i64 b] a->(
ldS a (((⟨c,0,none⟩:Addr).add 0).add 8) λbq H a8=>
fI (decide (b<(H:Int))) (
ldS a (((⟨c,0,none⟩:Addr).add 0).add 8) λah I a9=>
fW (0<=b/\b<(I:Int))<|
ptr ah λai=>
ldS a (((ai.add (b.toNat*7)).add 4).add 2) λbr J ba=>
fG (IntKind.i64.wrap ((64:Int)*(J:Int))) λaj=>
fG (IntKind.i64.wrap (x+aj)) λak=>
fG (IntKind.i64.wrap (ak+(8:Int))) λr=>
fI (decide (r > (384000:Int))) (
K (.bool false) a)<|
∃ n:List Value->Heap->Prop,(
ldS a (((⟨c,0,none⟩:Addr).add 0).add 8) λal L bb=>
fW (0<=b/\b<(L:Int))<|
ptr al λam=>
ldI a ((am.add (b.toNat*7)).add 2) .i64 λan=>
fI (decide (an≥(0:Int))) (
ldS a (((⟨c,0,none⟩:Addr).add 0).add 8) λao M bc=>
fW (0<=b/\b<(M:Int))<|
ptr ao λap=>
ldI a ((ap.add (b.toNat*7)).add 2) .i64 λaq=>
ldS a (.add ⟨c,0,none⟩ 9) λbs N bd=>
fI (decide (aq<(N:Int))) (
ldS a (.add ⟨c,0,none⟩ 9) λar O be=>
ldS a (((⟨c,0,none⟩:Addr).add 0).add 8) λau P bf=>
fW (0<=b/\b<(P:Int))<|
ptr au λav=>
ldI a ((av.add (b.toNat*7)).add 2) .i64 λj=>
fW (0<=j/\j<(O:Int))<|
ptr ar λs=>
ldI a ((s.add (j.toNat*3)).add 0) .i64 λaw=>
ldI a ((s.add (j.toNat*3)).add 1) .i64 λax=>
ldS a ((s.add (j.toNat*3)).add 2) λay Q R=>
C nQ #[.agg #[.int .i64 aw,.int .i64 ax,.slice ay Q R]] a (λaz aA=>
∃ (y:Bool),az = .bool y/\(
n [.bool y] aA)) (Kp))<|
n [.bool false] a)<|
n [.bool false] a)/\∀ (d:Heap) (bt:Nat->Value) (z:Bool),n [.bool z] d->(
fI z (
ldS d (.add ⟨c,0,none⟩ 9) λaB S bg=>
ldS d (((⟨c,0,none⟩:Addr).add 0).add 8) λaC T bh=>
fW (0<=b/\b<(T:Int))<|
ptr aC λaD=>
ldI d ((aD.add (b.toNat*7)).add 2) .i64 λt=>
fW (0<=t/\t<(S:Int))<|
ptr aB λaE=>
ldI d ((aE.add (t.toNat*3)).add 0) .i64 λaF=>
ldS d (.add ⟨c,0,none⟩ 9) λaG U bi=>
ldS d (((⟨c,0,none⟩:Addr).add 0).add 8) λaH V bj=>
fW (0<=b/\b<(V:Int))<|
ptr aH λaI=>
ldI d ((aI.add (b.toNat*7)).add 2) .i64 λu=>
fW (0<=u/\u<(U:Int))<|
ptr aG λaJ=>
ldI d ((aJ.add (u.toNat*3)).add 1) .i64 λaK=>
fG (IntKind.i64.wrap (aF*aK)) λaL=>
fG (IntKind.i64.wrap (e+aL)) λaM=>
fG (IntKind.i64.wrap (b+(1:Int))) λaN=>
∃ k,k<i/\m k [.int .i64 r,.int .i64 aM,.int .i64 aN] d)<|
fG (IntKind.i64.wrap (b+(1:Int))) λaO=>
∃ k,k<i/\m k [.int .i64 r,.int .i64 e,.int .i64 aO] d))<|
fI (decide (e<=(24000:Int))) (
ldS a (((⟨c,0,none⟩:Addr).add 0).add 8) λbu W bk=>
fI (decide ((W:Int)<=(200:Int))) (
ldS a (.add ⟨c,0,none⟩ 9) λbv X bl=>
fI (decide ((X:Int)<=(200:Int))) (
ldI a (((⟨c,0,none⟩:Addr).add 0).add 2) .i64 λaP=>
ldI a (((⟨c,0,none⟩:Addr).add 0).add 3) .i64 λaQ=>
C nc #[.int .i64 aP,.int .i64 aQ] a (λaR o=>
∃ (A:Bool),aR = .bool A/\(
fI (!A) (
K (.bool true) o)<|
ldI o (((⟨c,0,none⟩:Addr).add 0).add 2) .i64 λaS=>
fG (IntKind.i64.wrap (aS+(64:Int))) λaT=>
ldI o (((⟨c,0,none⟩:Addr).add 0).add 3) .i64 λaU=>
fG (IntKind.i64.wrap (aT*aU)) λaV=>
K (.bool (decide (aV<=(60000:Int)))) o)) (Kp))<|
K (.bool false) a)<|
K (.bool false) a)<|
K (.bool false) a))
def so (C:gl)  (h:Heap) (K:VK) (Kp:PK):Prop :=
gE h [.int .u64 13835058055282163712] gj λaD aE=>
gE aE [.int .i64 2,.int .i64 1,.slice (some ⟨aD,0,none⟩) 1 1] fK λn aF=>
gE aF [.int .i64 3,.int .i64 1,.int .i64 0,.bool false,.int .i64 0,.int .i64 0,.slice none 0 0,.int .i64 0,.int .i64 0,.int .i64 0,.bool false,.int .i64 0,.int .i64 0,.slice none 0 0] fM λaG aH=>
gE aH [.int .i64 0,.int .i64 0,.int .i64 0,.int .i64 0,.int .i64 0,.bool false,.int .i64 0,.int .i64 0,.slice none 0 0] fR λa aI=>
qH aI (⟨a,0,none⟩:Addr) 0 [.int .i64 0,.int .i64 0,.int .i64 5,.int .i64 2,.int .i64 0,.bool false,.int .i64 0,.int .i64 0,.slice (some ⟨aG,0,none⟩) 2 2] λd=>
ldI d (.add ⟨a,0,none⟩ 0) .i64 λP=>
ldI d (.add ⟨a,0,none⟩ 1) .i64 λQ=>
ldI d (.add ⟨a,0,none⟩ 2) .i64 λR=>
ldI d (.add ⟨a,0,none⟩ 3) .i64 λS=>
ldI d (.add ⟨a,0,none⟩ 4) .i64 λT=>
ldB d (.add ⟨a,0,none⟩ 5) λU=>
ldI d (.add ⟨a,0,none⟩ 6) .i64 λV=>
ldI d (.add ⟨a,0,none⟩ 7) .i64 λW=>
ldS d (.add ⟨a,0,none⟩ 8) λX G H=>
C s3 #[.agg #[.int .i64 P,.int .i64 Q,.int .i64 R,.int .i64 S,.int .i64 T,.bool U,.int .i64 V,.int .i64 W,.slice X G H],.slice (some ⟨n,0,none⟩) 1 1] d (λY Z=>
∃ (o:Option Addr) (f i:Nat),∃ (p:Int),Y = .tuple #[.slice o f i,.int .i64 p]/\(
C wQ #[.slice o f i,.slice (some ⟨n,0,none⟩) 1 1] Z (λaa ab=>
∃ (q r s t u:Int) (v:Bool) (w x:Int) (y:Option Addr) (j k:Nat),∃ (z:Int),aa = .tuple #[.agg #[.int .i64 q,.int .i64 r,.int .i64 s,.int .i64 t,.int .i64 u,.bool v,.int .i64 w,.int .i64 x,.slice y j k],.int .i64 z]/\(
gE ab [.int .i64 0,.int .i64 0,.int .i64 0,.int .i64 0,.int .i64 0,.bool false,.int .i64 0,.int .i64 0,.slice none 0 0] fR λg ac=>
qH ac (⟨g,0,none⟩:Addr) 0 [.int .i64 q,.int .i64 r,.int .i64 s,.int .i64 t,.int .i64 u,.bool v,.int .i64 w,.int .i64 x,.slice y j k] λc=>
ldI c (.add ⟨a,0,none⟩ 0) .i64 λad=>
ldI c (.add ⟨a,0,none⟩ 1) .i64 λae=>
ldI c (.add ⟨a,0,none⟩ 2) .i64 λaf=>
ldI c (.add ⟨a,0,none⟩ 3) .i64 λag=>
ldI c (.add ⟨a,0,none⟩ 4) .i64 λah=>
ldB c (.add ⟨a,0,none⟩ 5) λai=>
ldI c (.add ⟨a,0,none⟩ 6) .i64 λaj=>
ldI c (.add ⟨a,0,none⟩ 7) .i64 λak=>
ldS c (.add ⟨a,0,none⟩ 8) λal I J=>
C tp #[.agg #[.int .i64 ad,.int .i64 ae,.int .i64 af,.int .i64 ag,.int .i64 ah,.bool ai,.int .i64 aj,.int .i64 ak,.slice al I J],.slice (some ⟨n,0,none⟩) 1 1] c (λam an=>
∃ (A B:Int) (D:Option Addr) (l m:Nat),∃ (E:Int),am = .tuple #[.agg #[.int .i64 A,.int .i64 B,.slice D l m],.int .i64 E]/\(
gE an [.int .i64 0,.int .i64 0,.slice none 0 0] fK λe ao=>
stV ao (.add ⟨e,0,none⟩ 0) (.int .i64 A) λap=>
stV ap (.add ⟨e,0,none⟩ 1) (.int .i64 B) λaq=>
stV aq (.add ⟨e,0,none⟩ 2) (.slice D l m) λb=>
fI (p == (0:Int)) (
fI (z == (0:Int)) (
fI (E == (0:Int)) (
fI (decide ((f:Int) > (6:Int))) (
ldS b (.add ⟨g,0,none⟩ 8) λaL L aJ=>
fI ((L:Int) == (2:Int)) (
ldS b (.add ⟨g,0,none⟩ 8) λar M aK=>
fW (0<=(0:Int)/\(0:Int)<(M:Int))<|
ptr ar λau=>
ldI b ((au.add ((0:Int).toNat*7)).add 0) .i64 λav=>
fI (av == (0:Int)) (
ldI b (.add ⟨e,0,none⟩ 0) .i64 λaw=>
ldI b (.add ⟨e,0,none⟩ 1) .i64 λax=>
ldS b (.add ⟨e,0,none⟩ 2) λay N O=>
gE b [.int .u64 13835058055282163712,.int .u64 1729382256910270464] gj λaz aA=>
C jy #[.agg #[.int .i64 aw,.int .i64 ax,.slice ay N O],.agg #[.int .i64 5,.int .i64 2,.slice (some ⟨az,0,none⟩) 2 2]] aA (λaB aC=>
∃ (F:Bool),aB = .bool F/\(
K (.bool F) aC)) (Kp))<|
K (.bool false) b)<|
K (.bool false) b)<|
K (.bool false) b)<|
K (.bool false) b)<|
K (.bool false) b)<|
K (.bool false) b)) (Kp))) (Kp))) (Kp)
theorem yU {f g j k l:Int} {m:Bool} {n o:Int} {p:Option Addr} {c d:Nat} {e:Option Addr} {a b:Nat} {h:Heap} {K:VK} {Kp:PK} (H:sr QP f g j k l m n o p c d e a b h K Kp):QP qf #[.agg #[.int .i64 f,.int .i64 g,.int .i64 j,.int .i64 k,.int .i64 l,.bool m,.int .i64 n,.int .i64 o,.slice p c d,.slice e a b]] h K Kp :=
 fJ (Hints.mk (λi=>bif Nat.beq i 15 then some ([33],.take 0 <| .take 1 <| .take 3 <| .take 2 <| .take 4 <| .take 5 <| .take 6 <| .take 7 <| .take 8 <| .take 9 <| .take 10 <| .take 12 <| .take 16 <| .take 11 <| .take 13 <| .take 14 <| .take 15 <| .take 17 <| .take 18 <| .take 19 <| .take 20 <| .take 21 <| .take 22 <| .take 24 <| .take 25 <| .take 27 <| .take 23 <| .take 26 <| .take 28 <| .take 29 <| .take 30 <| .take 31 <| .take 32 <| .bar 33 [] <| .take 34 <| .done) else (bif Nat.beq i 16 then some ([],.take 0 <| .take 1 <| .take 3 <| .take 4 <| .take 6 <| .take 13 <| .take 15 <| .take 16 <| .take 18 <| .take 2 <| .take 5 <| .take 7 <| .take 8 <| .take 9 <| .take 10 <| .take 11 <| .take 12 <| .take 14 <| .take 17 <| .take 19 <| .take 20 <| .take 21 <| .take 22 <| .take 23 <| .take 24 <| .take 25 <| .take 26 <| .take 27 <| .done) else (none))) (λi=>bif Nat.beq i 3 then some ([(3,.int .i64),(4,.int .i64)],134217628) else (bif Nat.beq i 10 then some ([(3,.int .i64),(5,.int .i64),(6,.int .i64)],5192296858534827628530496195002476) else (none))) (λi=>bif Nat.beq i 16 then some ([(84,.bool)],38685626226542233683755008) else (none)) []) (by kernel_rfl) Go.Proofs.Tryz.func12 (by kernel_rfl) (λC=>sr C f g j k l m n o p c d e a b h K Kp) (λC=>by kernel_rfl) H
theorem yT  {h:Heap} {K:VK} {Kp:PK} (H:so QP  h K Kp):QP nE #[] h K Kp :=
 fJ (Hints.mk (λi=>none) (λi=>none) (λi=>none) []) (by kernel_rfl) Go.Proofs.Tryz.func27 (by kernel_rfl) (λC=>so C  h K Kp) (λC=>by kernel_rfl) H
end Go.Den.YtbknfejmdekhpaaGreat
namespace Go.Bm
open Go Go.Den Go.Den.YtbknfejmdekhpaaGreat
theorem SlotN.cap {t:TypeId} {n c:Nat} {D:List Ent} {q:Option Addr} {xs:List Value} (hd:Slot t 1 D q n c xs):n<=c:=by
 obtain ⟨hl,⟨_,_,h4,_⟩ | ⟨b,rest,_,_,h4⟩⟩:=hd
 ·omega
 ·rw [fA] at h4; omega
def wkS:List Bmp:=[⟨2,1,[13835058055282163712]⟩]
def wkT:Reg14:=⟨0,0,5,2,0,false,0,0⟩
def wkA:Ins:=⟨3,1,0,false,⟨0,0,[]⟩⟩
def wkB:Ins:=⟨0,0,0,false,⟨0,0,[]⟩⟩
def wkL:List Ins:=[wkA,wkB]
def wkW:List Nat:=[13835058055282163712,1729382256910270464]
theorem PZ:xB wkS:=λb hb=>by
 rw [List.mem_singleton.1 hb]
 refine ⟨by show jX 2 1; unfold jX; omega,by decide,λy hy=>?_⟩
 have:y=0:=by simp at hy; omega
 subst this
 decide
theorem LB:vm wkT wkS wkL:=by
 refine ⟨PZ,⟨by unfold jX; decide,by decide,by decide,by decide,by decide,by decide⟩,λi hi=>?_⟩
 unfold wkL at hi
 rcases List.mem_cons.1 hi with rfl | hi
 ·exact ⟨by decide,by decide,by decide,λ_=>⟨rfl,rfl,rfl⟩,λhh=>by cases hh⟩
 ·rw [List.mem_singleton.1 hi]
  exact ⟨by decide,by decide,by decide,λ_=>⟨rfl,rfl,rfl⟩,λhh=>by cases hh⟩
theorem E9:qz wkT wkS wkL=0:=IV LB (by decide)
theorem NF:rX 0 wkL=[wkB,wkA]:=by kernel_rfl
theorem NG:Nat.blt 6 (s7 wkT wkS wkL).length=true:=by kernel_rfl
theorem Rt:((List.range 2).all λY=>(List.range 64).all λx=>(pix wkW 1 x Y) == (zG wkT wkS [wkB,wkA] x Y))=true:=by decide +kernel
theorem Ru:Cf 5 2 (zG wkT wkS [wkB,wkA]) wkW:=by
 refine ⟨rfl,λv hv=>?_,λY hY x hx=>?_⟩
 ·unfold wkW at hv
  rcases List.mem_cons.1 hv with rfl | hv
  ·decide
  ·rw [List.mem_singleton.1 hv]; decide
 ·have h1:=List.all_eq_true.1 Rt Y (List.mem_range.2 hY)
  have h2:=List.all_eq_true.1 h1 x (List.mem_range.2 hx)
  exact eq_of_beq h2
section
variable {hB:Heap} {K:VK} {Kp:PK}
set_option maxHeartbeats 4000000 in
theorem Fb (hk:∀ h',gi hB h'->K (.bool true) h'):CP nE #[] hB K Kp:=by
 refine yT ?_
 unfold so
 have H:=Hp.nil hB []
 refine fV H λr1 h H=>?_
 refine fV H λr3 h H=>?_
 refine fV H λr5 h H=>?_
 refine fV H λr7 h H=>?_
 refine Eb H 3 rfl rfl rfl λh H=>?_
 obtain ⟨A,hA⟩:∃ A:List Ent,A=[⟨r1,true,gj,il [13835058055282163712]⟩,⟨r3,true,fK,[.int .i64 2,.int .i64 1,.slice (some ⟨r1,0,none⟩) 1 1]⟩,⟨r5,true,fM,csI [⟨wkA,none,0,[]⟩,⟨wkB,none,0,[]⟩]⟩,⟨r7,true,fR,wkT.cs (some ⟨r5,0,none⟩) 2 2⟩]:=⟨_,rfl⟩
 have H:Hp hB [] h A:=by rw [hA]; exact H
 have w1:W64 [13835058055282163712]:=λv hv=>by rw [List.mem_singleton.1 hv]; decide
 have rdA:∀ {h:Heap} {L:List Ent},Hp hB [] h (A++L)->o7 h (some ⟨r3,0,none⟩) wkS/\rj h (some ⟨r5,0,none⟩) wkL:=λ{h L} H=>by
  rw [hA] at H
  have rr1:rdO h (at0 r1) (1*1) (il [13835058055282163712]):=Hp.n9 (rest:=[]) (w:=true) (t:=gj) (cs:=il [13835058055282163712]) H (by rw [fT]; exact jc ..) rfl
  refine ⟨λi b hi=>?_,[⟨wkA,none,0,[]⟩,⟨wkB,none,0,[]⟩],rfl,Hp.n9 (rest:=[]) (w:=true) (t:=fM) H (by rw [fT]; exact fS (i:=2) rfl) rfl,λo ho=>?_⟩
  ·match i,hi with
   | 0,hi =>
    injection hi with hi
    subst hi
    exact ⟨⟨r3,0,none⟩,at0 r1,1,rfl,⟨hpB H 1 rfl rfl,hpB H 1 rfl rfl,hpB H 1 rfl rfl,rr1,w1,by decide⟩⟩
  ·rcases List.mem_cons.1 ho with rfl | ho
   ·exact ⟨rfl,(λv hv=>by cases hv),by decide⟩
   ·rw [List.mem_singleton.1 ho]
    exact ⟨rfl,(λv hv=>by cases hv),by decide⟩
 have rdT:∀ {h:Heap} {L:List Ent},Hp hB [] h (A++L)->∀ j v,(wkT.cs (some ⟨r5,0,none⟩) 2 2)[j]? = some v->ic h ((⟨r7,0,none⟩:Addr).add j)=some v:=λ{h L} H j v hv=>by
  rw [hA] at H
  exact hpA H 3 rfl (by rw [fN]; exact hv)
 have H:Hp hB [] h (A++[]):=H.as (by rw [fT])
 refine fz (rdT H 0 _ rfl) (fz (rdT H 1 _ rfl) (fz (rdT H 2 _ rfl) (fz (rdT H 3 _ rfl) (fz (rdT H 4 _ rfl) (gT (rdT H 5 _ rfl) (fz (rdT H 6 _ rfl) (fz (rdT H 7 _ rfl) (fU (rdT H 8 _ rfl) ?_))))))))
 obtain ⟨v1,v2⟩:=rdA H
 refine LL (t:=wkT) (sy:=wkS) (l:=wkL) v2 v1 (by decide) (by decide) λD qo co h' hs H'=>?_
 rw [EZ E9,E9] at *
 replace H:=H.join H' hs.w
 clear H'
 refine ⟨_,_,_,_,rfl,?_⟩
 have H:Hp hB [] h' (A++D):=H.as (by rw [fT])
 obtain ⟨v1,v2⟩:=rdA H
 refine Qc (t:=wkT) (sy:=wkS) (l:=wkL) (Slot.vt hs H λe he=>fX _ he) (SlotN.cap hs) v1 LB (by decide) (by decide) (by decide) (λi hi=>?_) λR q3 c3 h' hL H'=>?_
 ·unfold wkL at hi
  rcases List.mem_cons.1 hi with rfl | hi
  ·exact λv hv=>by cases hv
  ·rw [List.mem_singleton.1 hi]
   exact λv hv=>by cases hv
 have hL:ma R q3 c3 [wkB,wkA]:=by rw [<- NF]; exact hL
 replace H:=H.join H' hL.w
 clear H'
 refine ⟨_,_,_,_,_,_,_,_,_,_,_,_,rfl,?_⟩
 refine fV H λr35 h H=>?_
 have H:=H.rot
 refine Eb H 0 rfl rfl rfl λh H=>?_
 have H:Hp hB [] h (⟨r35,true,fR,wkT.cs q3 2 c3⟩::(A++D++R)):=H
 have HA:Hp hB [] h (A++(D++R)):=(Hp.suf (X:=[_]) H).asc
 refine fz (rdT HA 0 _ rfl) (fz (rdT HA 1 _ rfl) (fz (rdT HA 2 _ rfl) (fz (rdT HA 3 _ rfl) (fz (rdT HA 4 _ rfl) (gT (rdT HA 5 _ rfl) (fz (rdT HA 6 _ rfl) (fz (rdT HA 7 _ rfl) (fU (rdT HA 8 _ rfl) ?_))))))))
 obtain ⟨v1,v2⟩:=rdA HA
 refine Jd (t:=wkT) (sy:=wkS) (l:=wkL) v2 v1 (by decide) (by decide) (λh' hn _=>absurd E9 hn) λW9 D9 q9 c9 h' _ hpic hs9 H'=>?_
 have e9:W9=wkW:=Cf.eq (W:=5) (X:=2) (G:=zG wkT wkS [wkB,wkA]) (by rw [<- NF]; exact hpic) Ru
 subst e9
 replace H:=H.join H' hs9.w
 clear H'
 refine ⟨_,_,_,_,_,_,rfl,?_⟩
 refine fV H λr53 h H=>?_
 have H:=H.rot
 refine stA H 0 rfl rfl rfl λh H=>?_
 refine stA H 0 rfl rfl rfl λh H=>?_
 refine stA H 0 rfl rfl rfl λh H=>?_
 have H:Hp hB [] h (⟨r53,true,fK,[.int .i64 5,.int .i64 2,.slice q9 2 c9]⟩::⟨r35,true,fR,wkT.cs q3 2 c3⟩::(A++D++R++D9)):=H
 refine iA (λ_=>?_) λhh=>absurd rfl hh
 refine iA (λ_=>?_) λhh=>absurd rfl hh
 refine iA (λ_=>?_) λhh=>absurd rfl hh
 refine fL (λ_=>?_) λhh=>?_
 rotate_left
 ·have:=fB NG
  exact absurd (show (((s7 wkT wkS wkL).length:Nat):Int) > 6 by omega) hh
 refine fU (hpA H 1 rfl rfl) (iA (λ_=>?_) λhh=>absurd rfl hh)
 refine fU (hpA H 1 rfl rfl) (fH (by decide) ?_)
 obtain ⟨O,hO,hro,_⟩:=hL.view H λe he=>gK _ (gK _ (gV _ (fX _ he)))
 have hOl:O.length=2:=by
  have:=congrArg List.length hO
  rw [iu] at this
  exact this
 obtain ⟨o,ho⟩:∃ o,O[0]? = some o:=⟨_,fP (by omega)⟩
 have hoi:o.i=wkB:=by
  have:(O.map OwI.i)[0]? = some o.i:=by rw [gL,ho]; rfl
  rw [hO] at this
  injection this with this
  exact this.symm
 obtain ⟨a,ha,cell⟩:=l3 hro ho
 refine iJ ha ?_
 refine fz (cell 0 _ rfl) ?_
 rw [hoi]
 refine iA (λ_=>?_) λhh=>absurd rfl hh
 refine fz (hpA H 0 rfl rfl) (fz (hpA H 0 rfl rfl) (fU (hpA H 0 rfl rfl) ?_))
 have hrd9:rdO h q9 (wkW.length*1) (il wkW):=Slot.vt hs9 H λe he=>gK _ (gK _ (fX _ he))
 refine qK H λr65 h' hx H=>?_
 have hrd65:rdO h' (at0 r65) (wkW.length*1) (il wkW):=Hp.n9 (rest:=[]) (w:=true) (t:=gj) (cs:=il wkW) H (by rw [fT]; exact fX _ (List.mem_singleton.2 rfl)) rfl
 refine F5 (xs:=wkW) (ys:=wkW) (oa hx hrd9) hrd65 (by decide) λh2 e=>⟨_,rfl,?_⟩
 have:=hk h2 (H.gi.trans e)
 simpa using this
end
section
variable {hB:Heap} {K:VK} {Kp:PK}
end
open Classical in
section
variable {hB:Heap} {q1 q2 q3:Option Addr} {c1 c2 c3:Nat} {t:Int} {new imp:List Bmp} {ex:List Bool} {K:VK} {Kp:PK}
end
section
variable {hB:Heap} {K:VK} {Kp:PK}
theorem QL {q1 q2:Option Addr} {c1 c2:Nat} {l:List Bmp} (h1:o7 hB q1 l) (h2:o7 hB q2 l) (hl:l.length<=1000000000000) (hk:∀ h',gi hB h'->K (.bool true) h') :
  CP lN #[.slice q1 l.length c1,.slice q2 l.length c2] hB K Kp:=by
 refine wB ?_
 unfold pq
 refine jg (λhh=>absurd rfl hh) λ_=>?_
 refine ⟨λm vs h'=>∃ i:Nat,i+m=l.length/\vs=[.int .i64 (i:Nat)]/\gi hB h',⟨l.length,0,by omega,rfl,gi.refl _⟩,?_⟩
 rintro m h u xi ⟨i,him,hxx,e⟩
 injection hxx with hxx
 injection hxx with _ hxx
 subst xi
 refine fL (λh3=>?_) λh3=>hk h e
 obtain ⟨a,qa,ca,hqa,hA⟩:=Sr (h1.ext e) (i:=i) (by omega)
 obtain ⟨b,qb,cb,hqb,hB'⟩:=Sr (h2.ext e) (i:=i) (by omega)
 refine fH (by omega) (KQ hqa (fH (by omega) (KQ hqb ?_)))
 rw [fD]
 refine fz hA.c0 (fz hA.c1 (fU hA.c2 (fz hB'.c0 (fz hB'.c1 (fU hB'.c2 ?_)))))
 refine F5 hA.r1 hB'.r1 hA.l1 λh' e'=>?_
 refine ⟨_,rfl,?_⟩
 rw [decide_eq_true ⟨rfl,rfl,rfl⟩]
 refine fZ (by rfl) ?_
 refine fw (((i+1:Nat):Int)) (by exact fO _ _ (by omega) (by omega) (by omega)) ?_
 exact ⟨m-1,by omega,i+1,by omega,rfl,e.trans e'⟩
end
theorem build {α:Type} {P:Nat->α->Prop}:∀ {n:Nat},(∀ i,i<n->∃ x,P i x)->∃ l:List α,l.length=n/\∀ i x,l[i]? = some x->P i x
 | 0,_=>⟨[],rfl,λi x hx=>by simp at hx⟩
 | n+1,h=>by
  obtain ⟨l,e1,e2⟩:=build (n:=n) λi hi=>h i (by omega)
  obtain ⟨y,hy⟩:=h n (by omega)
  refine ⟨l++[y],by simp [e1],λi z hz=>?_⟩
  rcases gI i l.length with hi | hi
  ·rw [gk hi] at hz
   exact e2 i z hz
  ·have hi2:=(List.getElem?_eq_some_iff.1 hz).1
   simp at hi2
   have:i=n:=by omega
   subst this
   rw [gM hi,e1,iH] at hz
   have hz:y=z:=by simpa using hz
   subst hz
   exact hy
theorem Rv {h:Heap} {cs:List Value} (H:WDx TP h iF cs):∃ q cap,∃ l:List Bmp,cs=[.slice q l.length cap]/\o7 h q l/\l.length<=4000000000000/\l.length<=cap:=by
 obtain ⟨q,len,cap,rfl,h1,h2,h3,h4⟩:=Cm Go.Proofs.Tryz.underlying27 H
 have k:TP.cellsOf fK=3:=by kernel_rfl
 have kb:TP.bytesOf fK=40:=by kernel_rfl
 have hrb:reachBytes=140737488351232:=rfl
 rw [k] at h4
 rw [kb] at h2
 obtain ⟨l,e1,e2⟩:=build (P:=λi (b:Bmp)=>∃ a q1 c1,q=some a/\BmC h (a.add (i*3)) b q1 c1) (n:=len) λi hi=>by
  obtain ⟨a,cs',ha,hr,hd⟩:=h4 i hi
  obtain ⟨w,b,q1,cap1,ws,rfl,_,_,g1,g2,g3⟩:=GY hd
  have c:=λj v hj=>hr.2 j v hj
  exact ⟨⟨w,b,ws⟩,a,q1,cap1,ha,⟨c 0 _ rfl,c 1 _ rfl,c 2 _ rfl,g2,g3,g1⟩⟩
 subst e1
 exact ⟨q,cap,l,rfl,e2,by omega,h1⟩
theorem P5 {h:Heap} {cs:List Value} (H:WDx TP h fM cs):∃ o:OwI,cs=o.cs/\o.Vw h:=by
 obtain ⟨hl,hf⟩:=Aq Go.Proofs.Tryz.underlying47 H
 have k:TP.cellsOf fM=7:=by kernel_rfl
 rw [k] at hl
 obtain ⟨v0,v1,v2,v3,v4,v5,v6,rfl⟩:=SK hl
 have kb:TP.cellsOf fK=3:=by kernel_rfl
 have kB:TP.cellsOf PT=1:=by kernel_rfl
 obtain ⟨x,e0,_⟩:=rW Go.Proofs.Tryz.underlying3 (ot yD (hf 0 _ rfl) (v:=v0) rfl)
 obtain ⟨y,e1,_⟩:=rW Go.Proofs.Tryz.underlying3 (ot yD (hf 1 _ rfl) (v:=v1) rfl)
 obtain ⟨s,e2,_⟩:=rW Go.Proofs.Tryz.underlying3 (ot yD (hf 2 _ rfl) (v:=v2) rfl)
 obtain ⟨d,e3⟩:=LG Go.Proofs.Tryz.underlying4 (ot kB (hf 3 _ rfl) (v:=v3) rfl)
 have f4:WDx TP h fK (([v0,v1,v2,v3,v4,v5,v6].drop 4).take (TP.cellsOf fK)):=hf 4 _ rfl
 rw [kb] at f4
 obtain ⟨w,b,q1,cap1,ws,e4,_,_,g1,g2,g3⟩:=GY f4
 simp only [List.drop_succ_cons,vp,List.take_succ_cons,nu,C8,and_true] at e0 e1 e2 e3 e4
 obtain ⟨e40,e41,e42⟩:=e4
 subst e0 e1 e2 e3 e40 e41 e42
 exact ⟨⟨⟨x,y,s,d,⟨w,b,ws⟩⟩,q1,cap1,[]⟩,rfl,g2,g3,g1⟩
theorem Sd {O:List OwI} {j:Nat} {v:Value} (h:(csI O)[j]? = some v):∃ o,O[j / 7]? = some o/\o.cs[j % 7]? = some v:=by
 have hj:=(List.getElem?_eq_some_iff.1 h).1
 rw [m5] at hj
 obtain ⟨o,ho⟩:∃ o,O[j / 7]? = some o:=⟨_,fP (by omega)⟩
 have h2:=Ga (j:=j % 7) ho (by omega)
 rw [show j / 7*7+j % 7=j by omega] at h2
 exact ⟨o,ho,h2.symm.trans h⟩
theorem NJ {h:Heap} {cs:List Value} (H:WDx TP h xA cs):∃ q cap,∃ l:List Ins,cs=[.slice q l.length cap]/\rj h q l/\l.length<=4000000000000:=by
 obtain ⟨q,len,cap,rfl,h1,h2,h3,h4⟩:=Cm Go.Proofs.Tryz.underlying24 H
 have k:TP.cellsOf fM=7:=by kernel_rfl
 have kb:TP.bytesOf fM=72:=by kernel_rfl
 have hrb:reachBytes=140737488351232:=rfl
 rw [k] at h4
 rw [kb] at h2
 obtain ⟨O,e1,e2⟩:=build (P:=λi (o:OwI)=>∃ a,q=some a/\rdO h (some (a.add (i*7))) 7 o.cs/\o.Vw h) (n:=len) λi hi=>by
  obtain ⟨a,cs',ha,hr,hd⟩:=h4 i hi
  obtain ⟨o,rfl,hv⟩:=P5 hd
  exact ⟨o,a,ha,hr,hv⟩
 subst e1
 refine ⟨q,cap,O.map OwI.i,by rw [iu],⟨O,rfl,?_,λo ho=>?_⟩,by rw [iu]; omega⟩
 ·rw [iu]
  cases q with
  | none =>
   have:=(h3 rfl).1
   obtain rfl:O=[]:=List.length_eq_zero_iff.1 this
   exact rfl
  | some a =>
   refine ⟨m5 O,λj v hj=>?_⟩
   obtain ⟨o,ho,hv⟩:=Sd hj
   obtain ⟨a',ha,hr,_⟩:=e2 _ o ho
   injection ha with ha
   subst ha
   have:=hr.2 _ v hv
   rw [tm,show j / 7*7+j % 7=j by omega] at this
   exact this
 ·obtain ⟨i,hi⟩:=List.mem_iff_getElem?.1 ho
  obtain ⟨_,_,_,hv⟩:=e2 i o hi
  exact hv
theorem P3 {h:Heap} {cs:List Value} (H:WDx TP h fR cs):∃ (t:Reg14) (q:Option Addr) (c:Nat) (l:List Ins),cs=t.cs q l.length c/\rj h q l/\l.length<=4000000000000:=by
 obtain ⟨hl,hf⟩:=Aq Go.Proofs.Tryz.underlying26 H
 have k:TP.cellsOf fR=9:=by kernel_rfl
 rw [k] at hl
 obtain ⟨v0,v1,v2,v3,v4,v5,v6,v7,v8,rfl⟩:∃ a b c d e f g i j,cs=[a,b,c,d,e,f,g,i,j]:=by
  match cs,hl with
  | [a,b,c,d,e,f,g,i,j],_=>exact ⟨a,b,c,d,e,f,g,i,j,rfl⟩
 have kB:TP.cellsOf PT=1:=by kernel_rfl
 have kI:TP.cellsOf xA=1:=by kernel_rfl
 obtain ⟨x,e0,_⟩:=rW Go.Proofs.Tryz.underlying3 (ot yD (hf 0 _ rfl) (v:=v0) rfl)
 obtain ⟨y,e1,_⟩:=rW Go.Proofs.Tryz.underlying3 (ot yD (hf 1 _ rfl) (v:=v1) rfl)
 obtain ⟨w,e2,_⟩:=rW Go.Proofs.Tryz.underlying3 (ot yD (hf 2 _ rfl) (v:=v2) rfl)
 obtain ⟨b,e3,_⟩:=rW Go.Proofs.Tryz.underlying3 (ot yD (hf 3 _ rfl) (v:=v3) rfl)
 obtain ⟨op,e4,_⟩:=rW Go.Proofs.Tryz.underlying3 (ot yD (hf 4 _ rfl) (v:=v4) rfl)
 obtain ⟨rf,e5⟩:=LG Go.Proofs.Tryz.underlying4 (ot kB (hf 5 _ rfl) (v:=v5) rfl)
 obtain ⟨df,e6,_⟩:=rW Go.Proofs.Tryz.underlying3 (ot yD (hf 6 _ rfl) (v:=v6) rfl)
 obtain ⟨st,e7,_⟩:=rW Go.Proofs.Tryz.underlying3 (ot yD (hf 7 _ rfl) (v:=v7) rfl)
 obtain ⟨q,c,l,e8,g1,g2⟩:=NJ (ot kI (hf 8 _ rfl) (v:=v8) rfl)
 simp only [C8,and_true] at e0 e1 e2 e3 e4 e5 e6 e7 e8
 subst e0 e1 e2 e3 e4 e5 e6 e7 e8
 exact ⟨⟨x,y,w,b,op,rf,df,st⟩,q,c,l,rfl,g1,g2⟩
theorem NK {h:Heap} {cs:List Value} (H:WDx TP h mn cs):∃ (t:Reg14) (q:Option Addr) (c:Nat) (l:List Ins) (q2:Option Addr) (c2:Nat) (sy:List Bmp),cs=t.cs q l.length c++[.slice q2 sy.length c2]/\rj h q l/\l.length<=4000000000000/\o7 h q2 sy/\sy.length<=4000000000000:=by
 obtain ⟨hl,hf⟩:=Aq Go.Proofs.Tryz.underlying29 H
 have k:TP.cellsOf mn=10:=by kernel_rfl
 rw [k] at hl
 obtain ⟨v0,v1,v2,v3,v4,v5,v6,v7,v8,v9,rfl⟩:∃ a b c d e f g i j k,cs=[a,b,c,d,e,f,g,i,j,k]:=by
  match cs,hl with
  | [a,b,c,d,e,f,g,i,j,k],_=>exact ⟨a,b,c,d,e,f,g,i,j,k,rfl⟩
 have kt:TP.cellsOf fR=9:=by kernel_rfl
 have k1:TP.cellsOf iF=1:=by kernel_rfl
 have f0:WDx TP h fR (([v0,v1,v2,v3,v4,v5,v6,v7,v8,v9].drop 0).take (TP.cellsOf fR)):=hf 0 _ rfl
 rw [kt] at f0
 obtain ⟨t,q,c,l,e0,g1,g2⟩:=P3 f0
 obtain ⟨q2,c2,sy,e9,g3,g4,_⟩:=Rv (ot k1 (hf 1 _ rfl) (v:=v9) rfl)
 simp only [vp,List.take_succ_cons,nu,C8,and_true] at e0 e9
 obtain ⟨e0,e1,e2,e3,e4,e5,e6,e7,e8⟩:=e0
 subst e0 e1 e2 e3 e4 e5 e6 e7 e8 e9
 exact ⟨t,q,c,l,q2,c2,sy,rfl,g1,g2,g3,g4⟩
open Classical in
noncomputable def arS (sy:List Bmp) (l:List Ins):Nat:=(l.map λi=>if 0<=i.s/\i.s<((sy.length:Nat):Int)/\(l7 sy i.s).may then (l7 sy i.s).w.toNat*(l7 sy i.s).h.toNat else 0).sum
structure Light14 (t:Reg14) (sy:List Bmp) (l:List Ins):Prop where
 n1:l.length<=200
 n2:sy.length<=200
 w1:∀ i∈l,i.b.ws.length<=6000
 w2:∀ b∈sy,b.ws.length<=6000
 ar:arS sy l<=24000
 sz:jX t.w t.h->(t.w+64)*t.h<=60000
open Classical in
theorem PJ (sy:List Bmp) (l:List Ins) (i:Ins):arS sy (l++[i])=arS sy l+(if 0<=i.s/\i.s<((sy.length:Nat):Int)/\(l7 sy i.s).may then (l7 sy i.s).w.toNat*(l7 sy i.s).h.toNat else 0):=by
 unfold arS
 rw [nS,List.sum_append]
 simp
theorem LM {sy:List Bmp} {s:Int} (h:0<=s/\s<((sy.length:Nat):Int)):sy[s.toNat]? = some (l7 sy s):=by
 obtain ⟨b,hb⟩:∃ b,sy[s.toNat]? = some b:=⟨_,fP (by omega)⟩
 unfold l7
 rw [fY,hb]
 rfl
section
variable {hB:Heap} {K:VK} {Kp:PK} {t:Reg14} {q q2:Option Addr} {c c2:Nat} {sy:List Bmp} {l:List Ins}
set_option maxHeartbeats 4000000 in
theorem K0 (hv:rj hB q l) (hs:o7 hB q2 sy) (hl:l.length<=4000000000000) (hsl:sy.length<=4000000000000) (hk:∀ (r:Bool) h',(r=true->Light14 t sy l)->gi hB h'->K (.bool r) h') :
  CP qf #[.agg #[.int .i64 t.x,.int .i64 t.y,.int .i64 t.w,.int .i64 t.h,.int .i64 t.op,.bool t.rf,.int .i64 t.df,.int .i64 t.st,.slice q l.length c,.slice q2 sy.length c2]] hB K Kp:=by
 refine yU ?_
 unfold sr
 have H:=Hp.nil hB []
 refine fV H λr11 h H=>?_
 have H:Hp hB [] h [⟨r11,true,mn,t.cs q l.length c++[.slice q2 sy.length c2]⟩]:=H
 have bad:∀ {h'},gi hB h'->K (.bool false) h':=λe=>hk false _ (λhh=>by cases hh) e
 obtain ⟨O,hO,hro,hvw⟩:=hv
 have hOl:O.length=l.length:=by rw [<- hO,iu]
 refine ⟨λm vs h'=>∃ (i n:Nat),i+m=sy.length/\n<=384000/\(∀ b∈sy.take i,b.ws.length<=6000)/\vs=[.int .i64 (n:Nat),.int .i64 (i:Nat)]/\h'=h,⟨sy.length,0,0,by omega,by omega,(λb hb=>by cases hb),rfl,rfl⟩,?_⟩
 rintro m h' u xn xi ⟨i,n,him,hn,hws,hxx,rfl⟩
 injection hxx with hx1 hxx
 injection hxx with hx2 hxx
 injection hx1 with _ hx1
 injection hx2 with _ hx2
 subst xn xi
 refine fU (hpA H 0 rfl rfl) ?_
 refine fL (λh1=>?_) λh1=>?_
 ·obtain ⟨b,hb⟩:∃ b,sy[i]? = some b:=⟨_,fP (by omega)⟩
  obtain ⟨a,qa,ca,hqa,hc0⟩:=hs i b hb
  have hc:=hc0.ext H.gi
  have hbl:=hc.l1
  refine fU (hpA H 0 rfl rfl) (fH (by omega) (KQ hqa ?_))
  rw [fD]
  refine fU hc.c2 ?_
  refine fw (((64*b.ws.length:Nat):Int)) (by exact fO _ _ (by omega) (by omega) (by omega)) ?_
  refine fw (((n+64*b.ws.length:Nat):Int)) (by exact fO _ _ (by omega) (by omega) (by omega)) ?_
  refine fw (((n+64*b.ws.length+8:Nat):Int)) (by exact fO _ _ (by omega) (by omega) (by omega)) ?_
  refine fL (λh2=>bad H.gi) λh2=>?_
  refine fw (((i+1:Nat):Int)) (by exact fO _ _ (by omega) (by omega) (by omega)) ?_
  refine ⟨m-1,by omega,i+1,n+64*b.ws.length+8,by omega,by omega,λx hx=>?_,rfl,rfl⟩
  rw [kC hb] at hx
  rcases List.mem_append.1 hx with hx | hx
  ·exact hws x hx
  ·rw [List.mem_singleton.1 hx]; omega
 obtain rfl:i=sy.length:=by omega
 rw [gz (gg _)] at hws
 refine ⟨λm vs h''=>∃ (i n:Nat),i+m=l.length/\8*i<=n/\n<=384000/\(∀ b∈l.take i,b.b.ws.length<=6000)/\arS sy (l.take i)<=i*1048576/\vs=[.int .i64 (n:Nat),.int .i64 (arS sy (l.take i):Nat),.int .i64 (i:Nat)]/\Hp hB [] h'' [⟨r11,true,mn,t.cs q l.length c++[.slice q2 sy.length c2]⟩],?_,?_⟩
 ·refine ⟨l.length,0,n,by omega,by omega,by omega,(λb hb=>by cases hb),km _,rfl,H⟩
 clear H
 rintro m h u xn xa xi ⟨i,n',him,hn8,hn',hws2,har,hxx,H⟩
 injection hxx with hx1 hxx
 injection hxx with hx2 hxx
 injection hxx with hx3 hxx
 injection hx1 with _ hx1
 injection hx2 with _ hx2
 injection hx3 with _ hx3
 subst xn xa xi
 refine fU (hpB H 0 rfl rfl) ?_
 refine fL (λh1=>?_) λh1=>?_
 ·obtain ⟨o,ho⟩:∃ o,O[i]? = some o:=⟨_,fP (by omega)⟩
  have hli:l[i]? = some o.i:=by rw [<- hO,gL,ho]; rfl
  obtain ⟨a,ha,cell⟩:=l3 (oa H.gi hro) ho
  have hvo:=hvw o (fS ho)
  have hol:=hvo.l
  have hnd:0<=((i:Nat):Int)/\((i:Nat):Int)<((l.length:Nat):Int):=by omega
  refine fU (hpB H 0 rfl rfl) (fH hnd (iJ ha ?_))
  rw [fD,tm _ 4 2]
  refine fU (cell 6 _ rfl) ?_
  refine fw (((64*o.i.b.ws.length:Nat):Int)) (by exact fO _ _ (by omega) (by omega) (by omega)) ?_
  refine fw (((n'+64*o.i.b.ws.length:Nat):Int)) (by exact fO _ _ (by omega) (by omega) (by omega)) ?_
  refine fw (((n'+64*o.i.b.ws.length+8:Nat):Int)) (by exact fO _ _ (by omega) (by omega) (by omega)) ?_
  refine fL (λh2=>bad H.gi) λh2=>?_
  have hws3:∀ b∈l.take (i+1),b.b.ws.length<=6000:=λx hx=>by
   rw [kC hli] at hx
   rcases List.mem_append.1 hx with hx | hx
   ·exact hws2 x hx
   ·rw [List.mem_singleton.1 hx]; omega
  have hsn:=PJ sy (l.take i) o.i
  rw [<- kC hli] at hsn
  refine ⟨λvs h'=>∃ r:Bool,vs=[.bool r]/\(r=true↔0<=o.i.s/\o.i.s<((sy.length:Nat):Int)/\(l7 sy o.i.s).may)/\gi h h',?_,?_⟩
  ·refine fU (hpB H 0 rfl rfl) (fH hnd (iJ ha ?_))
   refine fz (cell 2 _ rfl) ?_
   refine fL (λh3=>?_) λh3=>⟨false,rfl,⟨(λhh=>by cases hh),λhh=>absurd hh.1 (by omega)⟩,gi.refl _⟩
   refine fU (hpB H 0 rfl rfl) (fH hnd (iJ ha ?_))
   refine fz (cell 2 _ rfl) (fU (hpA H 0 rfl rfl) ?_)
   refine fL (λh4=>?_) λh4=>⟨false,rfl,⟨(λhh=>by cases hh),λhh=>absurd hh.2.1 (by omega)⟩,gi.refl _⟩
   obtain ⟨a3,q9,c9,ha3,hc0⟩:=hs _ _ (LM (sy:=sy) (s:=o.i.s) ⟨by omega,h4⟩)
   have hc:=hc0.ext H.gi
   refine fU (hpA H 0 rfl rfl) (fU (hpB H 0 rfl rfl) (fH hnd (iJ ha ?_)))
   refine fz (cell 2 _ rfl) (fH (by omega) (iJ ha3 ?_))
   refine fz hc.c0 (fz hc.c1 (fU hc.c2 ?_))
   refine KZ hc.r1 hc.w1 hc.l1 λr h' hr e=>⟨_,rfl,r,rfl,⟨λhh=>⟨by omega,h4,hr.1 hh⟩,λhh=>hr.2 hh.2.2⟩,e⟩
  rintro h' u xb ⟨r,hxx,hr,e⟩
  injection hxx with hx1 hxx
  injection hx1 with hx1
  subst xb
  have H:=H.ext e
  have cell:∀ j v,o.cs[j]? = some v->ic h' ((a.add (i*7)).add j)=some v:=λj v hv=>e.cell (cell j v hv)
  refine gP (λh3=>?_) λh3=>?_
  ·have hcond:=hr.1 h3
   rw [if_pos hcond] at hsn
   obtain ⟨W,X,e1,e2,hW1,hW2,hX1,hX2,hWX⟩:=jf hcond.2.2.1
   rw [e1,e2,fD,fD] at hsn
   obtain ⟨a3,q9,c9,ha3,hc0⟩:=hs _ _ (LM (sy:=sy) (s:=o.i.s) ⟨hcond.1,hcond.2.1⟩)
   have hc:=hc0.ext H.gi
   have hnd2:0<=o.i.s/\o.i.s<((sy.length:Nat):Int):=⟨hcond.1,hcond.2.1⟩
   refine fU (hpA H 0 rfl rfl) (fU (hpB H 0 rfl rfl) (fH hnd (iJ ha ?_)))
   refine fz (cell 2 _ rfl) (fH hnd2 (iJ ha3 ?_))
   refine fz hc.c0 ?_
   refine fU (hpA H 0 rfl rfl) (fU (hpB H 0 rfl rfl) (fH hnd (iJ ha ?_)))
   refine fz (cell 2 _ rfl) (fH hnd2 (iJ ha3 ?_))
   refine fz hc.c1 ?_
   have hmz:(l7 sy o.i.s).w*(l7 sy o.i.s).h=((W*X:Nat):Int):=by rw [e1,e2]; simp
   refine fw (((W*X:Nat):Int)) (by exact fO _ _ hmz (by omega) (by omega)) ?_
   refine fw (((arS sy (l.take (i+1)):Nat):Int)) (by (rw [hsn]; exact fO _ _ (by omega) (by omega) (by omega))) ?_
   refine fw (((i+1:Nat):Int)) (by exact fO _ _ (by omega) (by omega) (by omega)) ?_
   exact ⟨m-1,by omega,i+1,_,by omega,by omega,by omega,hws3,by omega,rfl,H⟩
  ·rw [if_neg (λhh=>by rw [hr.2 hh] at h3; cases h3)] at hsn
   have hsn:arS sy (l.take (i+1))=arS sy (l.take i):=hsn.trans (gr _)
   rw [<- hsn]
   refine fw (((i+1:Nat):Int)) (by exact fO _ _ (by omega) (by omega) (by omega)) ?_
   exact ⟨m-1,by omega,i+1,_,by omega,by omega,by omega,hws3,by omega,rfl,H⟩
 obtain rfl:i=l.length:=by omega
 rw [gz (gg _)] at hws2 ⊢
 refine fL (λh2=>?_) λh2=>bad H.gi
 refine fU (hpB H 0 rfl rfl) (fL (λh3=>?_) λh3=>bad H.gi)
 refine fU (hpA H 0 rfl rfl) (fL (λh4=>?_) λh4=>bad H.gi)
 refine fz (hpB H 0 rfl rfl) (fz (hpB H 0 rfl rfl) (Fu λb hb=>⟨_,rfl,?_⟩))
 have key:(jX t.w t.h->(t.w+64)*t.h<=60000)->Light14 t sy l:=λhsz=>⟨by omega,by omega,hws2,hws,by omega,hsz⟩
 refine iM (λh5=>?_) λh5=>?_
 ·exact hk true _ (λ_=>key λhsz=>by rw [hb.2 hsz] at h5; cases h5) H.gi
 ·have hsz:=hb.1 h5
  obtain ⟨W,X,e1,e2,hW1,hW2,hX1,hX2,hWX⟩:=jf hsz
  have h64:X*64<=1048576*64:=gD _ hX2
  have hmm:(t.w+64)*t.h=(((W+64)*X:Nat):Int):=by rw [e1,e2]; simp
  have hmn:(W+64)*X=W*X+64*X:=gZ ..
  refine fz (hpB H 0 rfl rfl) ?_
  refine fw ((t.w+64)) (by exact i64_in _ (by omega) (by omega)) ?_
  refine fz (hpB H 0 rfl rfl) ?_
  refine fw ((((W+64)*X:Nat):Int)) (by exact fO _ _ hmm (by omega) (by omega)) ?_
  refine hk _ _ (λhh=>key λ_=>?_) H.gi
  rw [hmm]
  exact of_decide_eq_true hh
end
def SQ (sy:List Bmp) (x Y:Nat) (i:Ins):Prop:=i.x<=x/\(x:Int)<i.x+(mM sy i).w/\i.y<=Y/\(Y:Int)<i.y+(mM sy i).h
instance (sy:List Bmp) (x Y:Nat) (i:Ins):Decidable (SQ sy x Y i):=by unfold SQ; infer_instance
end Go.Bm
namespace Go.Den.YtbknfejmdekhpaaGreat
open Go Go.Den
end Go.Den.YtbknfejmdekhpaaGreat
namespace Go.Bm
open Go Go.Den Go.Den.YtbknfejmdekhpaaGreat
section
variable {hB:Heap} {K:VK} {Kp:PK}
end
theorem Ke:∀ (P:List OwI) (rest:List Value) (i j:Nat) (o o':OwI) (v:Value),P[i]? = some o->j<7->o'.cs=o.cs.set j v->(csI P++rest).set (i*7+j) v=csI (P.set i o')++rest
 | [],_,i,j,o,o',v,h,_,_=>by cases h
 | p::P,rest,0,j,o,o',v,h,hj,e=>by
  injection h with h
  subst h
  rw [tj,xF,tj,e,kK,fN,fC,mc _ _ (by exact hj),fC]
 | p::P,rest,i+1,j,o,o',v,h,hj,e=>by
  rw [tj,fC,qP,Ke P rest i j o o' v h hj e]
  rfl
section
variable {h0 h:Heap} {F:List Nat} {L:List Ent} {b:Nat} {P:List OwI} {rest:List Value} {K:Heap->Prop}
theorem stI (H:Hp h0 F h (⟨b,true,fM,csI P++rest⟩::L)) {i j:Nat} {o o':OwI} {v:Value} (ho:P[i]? = some o) (hj:j<7) (e:o'.cs=o.cs.set j v) (hv:v.oneCell'=true)
  (hk:∀ h',Hp h0 F h' (⟨b,true,fM,csI (P.set i o')++rest⟩::L)->K h'):stV h (((⟨b,0,none⟩:Addr).add (i*7)).add j) v K:=by
 have hi:=(List.getElem?_eq_some_iff.1 ho).1
 rw [gC,gC,fN]
 refine gq H 0 rfl (by rw [fA,m5]; omega) hv λh' _ H=>hk h' ?_
 rw [<- Ke P rest i j o o' v ho hj e]
 exact H
end
end Go.Bm
namespace Go.Den.YtbknfejmdekhpaaGreat
open Go Go.Den
end Go.Den.YtbknfejmdekhpaaGreat
namespace Go.Bm
open Go Go.Den Go.Den.YtbknfejmdekhpaaGreat
section
variable {hB:Heap} {K:VK} {Kp:PK}
end
section
variable {dx dy:Int}
end
open Go.Ar (Cod CodOk idx qJ jI RP)
theorem xO {A:RP} {r:Nat} {s:Cod} {rest:List Value}:(jI A r s rest).all Ent.w=true:=rfl
set_option maxHeartbeats 1000000 in
theorem MP {h0 h:Heap} {F:List Nat} {A:RP} {r m n0:Nat} {s0:Cod} {rest:List Value} {Y:List Ent} (H:Hp h0 F h (jI A r s0 rest++Y)) (hc:CodOk m n0 s0) (hm1:1<=m) (hm2:m<=131072) {base:Int} (hbase:0<=base/\base<=131072)
  {W X W2 X2:Nat} {q1 q2:Option Addr} {c1 c2:Nat} {ws ws2:List Nat} (hr1:∀ {h' r' s' rest'},Hp h0 F h' (jI A r' s' rest'++Y)->rdO h' q1 (ws.length*1) (il ws)) (hw:W64 ws) (hr2:∀ {h' r' s' rest'},Hp h0 F h' (jI A r' s' rest'++Y)->rdO h' q2 (ws2.length*1) (il ws2)) (hw2:W64 ws2) (hma:sE (W:Int) (X:Int) ws) (hmb:sE (W2:Int) (X2:Int) ws2)
  {dx dy:Int} (hsh:Aj dx dy) (hN:n0+X*W<=16777216) {K:VK} {Kp:PK}
  (hk:∀ s' r' rest' h',runN W (jR ws2 W2 X2) dx dy (yA m base) (X*W) (jR ws W X,s0) = .inl (jR ws W X,s')->CodOk m (n0+X*W) s'->Hp h0 F h' (jI A r' s' rest'++Y)->K (.int .i64 0) h') :
  CP pV #[.pointer (at0 A.p),.int .i64 base,.agg #[.int .i64 (W:Nat),.int .i64 (X:Nat),.slice q1 ws.length c1],.agg #[.int .i64 (W2:Nat),.int .i64 (X2:Nat),.slice q2 ws2.length c2],.int .i64 dx,.int .i64 dy] h K Kp:=by
 refine B1 ?_
 unfold wD
 obtain ⟨W',X',e1,e2,hW1,hW2,hX1,hX2,hWX⟩:=jf hma.1
 obtain rfl:W=W':=by omega
 obtain rfl:X=X':=by omega
 clear e1 e2
 refine fV H λr7 h H=>?_
 have H:=H.rot
 refine fV H λr9 h H=>?_
 have H:=H.rot
 have H:Hp h0 F h ([⟨r9,true,fK,[.int .i64 (W2:Nat),.int .i64 (X2:Nat),.slice q2 ws2.length c2]⟩,⟨r7,true,fK,[.int .i64 (W:Nat),.int .i64 (X:Nat),.slice q1 ws.length c1]⟩]++(jI A r s0 rest++Y)):=H
 refine ⟨λn vs h'=>∃ (y:Nat) (s:Cod) (r':Nat) (rest':List Value),y+n=X/\vs=[.int .i64 (y:Int)]/\runN W (jR ws2 W2 X2) dx dy (yA m base) (y*W) (jR ws W X,s0) = .inl (jR ws W X,s)/\CodOk m (n0+y*W) s /\
  Hp h0 F h' ([⟨r9,true,fK,[.int .i64 (W2:Nat),.int .i64 (X2:Nat),.slice q2 ws2.length c2]⟩,⟨r7,true,fK,[.int .i64 (W:Nat),.int .i64 (X:Nat),.slice q1 ws.length c1]⟩]++(jI A r' s rest'++Y)),⟨X,0,s0,r,rest,by omega,rfl,by rw [kK]; rfl,by rw [kK]; exact hc,H⟩,?_⟩
 clear H
 rintro n h u xx ⟨y,s,r',rest',hyn,hxx,hrun,hok,H⟩
 injection hxx with hxx
 injection hxx with _ hxx
 subst hxx
 refine fz (Hp.kH H 1 rfl (i:=1) rfl) ?_
 refine fL (λh1=>?_) λh1=>?_
 ·have h1:y<X:=by omega
  refine ⟨λn vs h'=>∃ (x:Nat) (s:Cod) (r':Nat) (rest':List Value),x+n=W/\vs=[.int .i64 (x:Int)]/\runN W (jR ws2 W2 X2) dx dy (yA m base) (y*W+x) (jR ws W X,s0) = .inl (jR ws W X,s)/\CodOk m (n0+(y*W+x)) s /\
   Hp h0 F h' ([⟨r9,true,fK,[.int .i64 (W2:Nat),.int .i64 (X2:Nat),.slice q2 ws2.length c2]⟩,⟨r7,true,fK,[.int .i64 (W:Nat),.int .i64 (X:Nat),.slice q1 ws.length c1]⟩]++(jI A r' s rest'++Y)),⟨W,0,s,r',rest',by omega,rfl,hrun,hok,H⟩,?_⟩
  clear H hrun hok
  rintro k h u xx ⟨x,s,r',rest',hxn,hxx,hrun,hok,H⟩
  injection hxx with hxx
  injection hxx with _ hxx
  subst hxx
  refine fz (Hp.kH H 1 rfl (i:=0) rfl) ?_
  refine fL (λh2=>?_) λh2=>?_
  ·have h2:x<W:=by omega
   have hlt:y*W+x+1<=X*W:=by
    have:(y+1)*W<=X*W:=gD _ h1
    rw [gZ,kn] at this
    omega
   refine fz (Hp.kH H 1 rfl (i:=0) rfl) ?_
   refine fz (Hp.kH H 1 rfl (i:=1) rfl) ?_
   refine fU (Hp.kH H 1 rfl (i:=2) rfl) ?_
   refine fz (Hp.kH H 0 rfl (i:=0) rfl) ?_
   refine fz (Hp.kH H 0 rfl (i:=1) rfl) ?_
   refine fU (Hp.kH H 0 rfl (i:=2) rfl) ?_
   refine fz (Hp.kH H 1 rfl (i:=0) rfl) ?_
   refine fz (Hp.kH H 1 rfl (i:=1) rfl) ?_
   refine fU (Hp.kH H 1 rfl (i:=2) rfl) ?_
   refine Mu (hr1 (Hp.suf (X:=[_,_]) H)) (hr2 (Hp.suf (X:=[_,_]) H)) hw hw2 hma.1 (xR hma) hmb.1 (xR hmb) hsh.1 hsh.2 (by omega) (by omega) λh3 e3=>?_
   have H:=H.ext e3
   refine ⟨_,rfl,e3,?_⟩
   have hcl:=Mo (jR ws W X) (jR ws2 W2 X2) dx dy x y
   have hnx:=Ha (R:=jR ws2 W2 X2) (dx:=dx) (dy:=dy) (step:=yA m base) h2 hrun
   simp only [yA,I9] at hnx
   generalize CM (jR ws W X) (jR ws2 W2 X2) dx dy x y=cx at hcl hnx ⊢
   refine fw ((base+(cx:Int))) (by exact i64_in _ (by omega) (by omega)) ?_
   refine wv (hr1 (Hp.suf (X:=[_,_]) H)) hw hma.1 (xR hma) λh4 e4=>?_
   have H:=H.ext e4
   refine ⟨_,rfl,?_⟩
   have hsp:=H
   refine Go.Ar.ER (bit:=(jR ws W X (x:Int) (y:Int)).toNat) (H.JY [2,3,4,5,6] (by decide) rfl) hok.wf hok.done (by rw [hok.n]; omega) (by rw [hok.len]; exact hm1) (by rw [hok.len]; exact hm2) (toNat_le _) λr3 rest3 h5 H'=>?_
   replace H:=H.put [2,3,4,5,6] (by decide) rfl rfl H' rfl rfl
   clear H'
   refine ⟨_,rfl,?_⟩
   refine fZ (by rfl) ?_
   refine fw (((x+1:Nat):Int)) (by exact fO _ _ (by omega) (by omega) (by omega)) ?_
   rw [hok.len] at H
   exact ⟨k-1,by omega,x+1,_,r3,rest3,by omega,rfl,hnx,qJ hok _ _ (by omega),H⟩
  ·obtain rfl:W=x:=by omega
   refine fw (((y+1:Nat):Int)) (by exact fO _ _ (by omega) (by omega) (by omega)) ?_
   exact ⟨n-1,by omega,y+1,s,r',rest',by omega,rfl,by rw [gZ,kn]; exact hrun,by rw [gZ,kn]; exact hok,H⟩
 ·obtain rfl:X=y:=by omega
  exact hk s r' rest' h hrun hok (Hp.suf (X:=[_,_]) H)
section
variable {hB h:Heap} {K:VK} {Kp:PK}
theorem vG {n:Int} (hk:∀ h',gi hB h'->K (.agg #[.int .i64 n,.bool false]) h'):CP lR #[.int .i64 n] hB K Kp:=by
 refine yP ?_
 unfold sf
 have H:=Hp.nil hB []
 refine fV H λr1 h H=>?_
 refine stA H 0 rfl rfl rfl λh H=>?_
 refine stA H 0 rfl rfl rfl λh H=>?_
 refine fz (hpA H 0 rfl rfl) (gT (hpA H 0 rfl rfl) ?_)
 exact hk h H.gi
theorem Jm {n:Nat} (hn:n<=4096) (hk:K (.int .i64 (wid n:Nat)) h):CP qe #[.int .i64 (n:Nat)] h K Kp:=by
 refine yR ?_
 unfold sj
 refine ⟨λm vs h'=>∃ w:Nat,w+m=12/\h'=h/\vs=[.int .i64 (w:Nat)]/\wdF m n w=wid n,⟨12,0,rfl,rfl,rfl,rfl⟩,?_⟩
 rintro m h' u xw ⟨w,hw,rfl,hxx,he⟩
 injection hxx with hx1 hxx
 injection hx1 with _ hx1
 subst xw
 have hp:=Be (w:=w) (by omega)
 refine fw ((w:Nat):Int) (by exact u64_in _ (by omega) (by omega)) (fH (by omega) (fw ((2 ^ w:Nat):Int) (by exact Ct (by omega)) ?_))
 refine fL (λh1=>?_) λh1=>?_
 ·have hw12:w≠12:=λhh=>by
   subst hh
   have:(2:Nat) ^ 12=4096:=by decide
   omega
  obtain ⟨m,rfl⟩:∃ k,m=k+1:=⟨m-1,by omega⟩
  unfold wdF at he
  rw [if_pos (by omega)] at he
  refine fw ((w+1:Nat):Int) (by exact fO _ _ (by omega) (by omega) (by omega)) ?_
  exact ⟨m,by omega,w+1,by omega,rfl,rfl,he⟩
 ·have e:w=wid n:=by
   rw [<- he]
   cases m with
   | zero=>rfl
   | succ m =>
    unfold wdF
    rw [if_neg (by omega)]
  rw [<- e] at hk
  exact hk
variable {A:RP} {r:Nat} {t:Reg14} {q q2:Option Addr} {n c c2:Nat} {sy:List Bmp} {L:List (Nat × Nat)} {rest:List Value} {Y:List Ent}
theorem uT (H:Hp hB [] h (jI A r (cdL 14337 L) rest++Y)) (hL:L.length+64<=16777216) {base v:Int} {nn:Bool} (hb:0<=base/\base<=131072) (hr:pd v nn)
  (hk:∀ r' rest' h',Hp hB [] h' (jI A r' (cdL 14337 (L++nY 14337 base v nn)) rest'++Y)->K (.int .i64 0) h'):CP jZ #[.pointer (at0 A.p),.int .i64 base,.agg #[.int .i64 v,.bool nn]] h K Kp:=by
 have H:=H.rot
 refine Oa (Hp.mv H) hL (by omega) (by omega) hb hr λr' rest' h' H'=>?_
 exact hk r' rest' h' (Hp.pg H xO H' xO).rot
theorem Hd (H:Hp hB [] h (jI A r (cdL 14337 L) rest++Y)) (hL:L.length+64<=16777216) {ctx:Int} {bit:Nat} (hb:bit<=1)
  (hk:∀ r' rest' h',Hp hB [] h' (jI A r' (cdL 14337 (L++[(idx ctx 14337,bit)])) rest'++Y)->K (.int .i64 0) h'):CP jG #[.pointer (at0 A.p),.int .i64 ctx,.int .i64 (bit:Nat)] h K Kp:=by
 have H:=H.rot
 have hco:=sb (m:=14337) (L:=L) (by omega)
 refine Go.Ar.ER (ctx:=ctx) (bit:=bit) (Hp.mv H) hco.wf hco.done (by rw [hco.n]; omega) (by rw [hco.len]; decide) (by rw [hco.len]; decide) hb λr' rest' h' H'=>?_
 have H:=(Hp.pg H xO H' xO).rot
 rw [hco.len,<- CO (m:=14337) L (idx ctx 14337,bit)] at H
 exact hk r' rest' h' H
theorem Of (H:Hp hB [] h (jI A r (cdL 14337 L) rest++Y)) (hL:L.length+64<=16777216) {w:Nat} (hw:w<=12) {id:Int} (hid:0<=id/\id<((2 ^ w:Nat):Int))
  (hk:∀ r' rest' h',Hp hB [] h' (jI A r' (cdL 14337 (L++wx 14337 2048 w id.toNat)) rest'++Y)->K (.int .i64 0) h'):CP od #[.pointer (at0 A.p),.int .i64 2048,.int .i64 (w:Nat),.int .i64 id] h K Kp:=by
 have H:=H.rot
 have hco:=sb (m:=14337) (L:=L) (by omega)
 have hp:=Be hw
 have hfit:uf 2048 w 14337:=⟨by omega,by omega⟩
 obtain ⟨x,rfl⟩:∃ x:Nat,id=(x:Int):=⟨id.toNat,by omega⟩
 rw [fD] at hk
 refine MQ (Hp.mv H) hco (by omega) (by omega) (by omega) hw hfit (by omega) λr' rest' h' H'=>?_
 have H:=(Hp.pg H xO H' xO).rot
 rw [N8] at H
 exact hk r' rest' h' H
theorem MO (H:Hp hB [] h (jI A r (cdL 14337 L) rest++Y)) {b s:Bmp} (hb:b.may) (hs:s.may) {q1 q3:Option Addr} {c1 c3:Nat} (hr1:∀ {h' r' s' rest'},Hp hB [] h' (jI A r' s' rest'++Y)->rdO h' q1 (b.ws.length*1) (il b.ws)) (hw1:W64 b.ws) (hr2:∀ {h' r' s' rest'},Hp hB [] h' (jI A r' s' rest'++Y)->rdO h' q3 (s.ws.length*1) (il s.ws)) (hw2:W64 s.ws)
  (hL:L.length+b.h.toNat*b.w.toNat<=16777216)
  (hk:∀ r' rest' h',Hp hB [] h' (jI A r' (cdL 14337 (L++dsF (jR b.ws b.w.toNat b.h.toNat) (jR s.ws s.w.toNat s.h.toNat) b.w.toNat 14337 0 0 6145 (b.h.toNat*b.w.toNat))) rest'++Y)->K (.int .i64 0) h') :
  CP pV #[.pointer (at0 A.p),.int .i64 6145,.agg #[.int .i64 b.w,.int .i64 b.h,.slice q1 b.ws.length c1],.agg #[.int .i64 s.w,.int .i64 s.h,.slice q3 s.ws.length c3],.int .i64 0,.int .i64 0] h K Kp:=by
 obtain ⟨bw,bh,ws⟩:=b
 obtain ⟨sw,sh,ws2⟩:=s
 obtain ⟨W,X,e1,e2,_⟩:=jf hb.1
 obtain ⟨W2,X2,e3,e4,_⟩:=jf hs.1
 have e1:bw=(W:Int):=e1
 have e2:bh=(X:Int):=e2
 have e3:sw=(W2:Int):=e3
 have e4:sh=(X2:Int):=e4
 subst e1 e2 e3 e4
 simp only [fD] at hk hL
 have hco:=sb (m:=14337) (L:=L) (by omega)
 refine MP (m:=14337) (n0:=L.length) H hco (by omega) (by omega) (base:=6145) (by omega) hr1 hw1 hr2 hw2 hb hs (by unfold Aj; omega) hL λs' r' rest' h' hrun _ H=>?_
 rw [Pf] at hrun
 injection hrun with hrun
 injection hrun with _ hrun
 subst hrun
 exact hk r' rest' h' H
set_option maxHeartbeats 4000000 in
theorem MU {o:OwI} (H:Hp hB [] h (jI A r (cdL 14337 L) rest++Y)) (hs:o7 hB q2 sy) (hm:xB sy) (hsl:sy.length<=4096) (hst:0<=t.st/\t.st<=3) (hi:mC t.rf sy o.i)
  (hov:∀ {h Z},Hp hB [] h (Z++Y)->o.Vw h) (hL:L.length+52+o.i.b.w.toNat*o.i.b.h.toNat+64<=16777216)
  (hk:∀ r' rest' h',Hp hB [] h' (jI A r' (cdL 14337 (L++rL t sy o.i)) rest'++Y)->K (.tuple #[]) h') :
  CP sJ #[.pointer (at0 A.p),t.ag q n c,o.ag,.int .i64 (flo o.i.y t.st.toNat),.slice q2 sy.length c2] h K Kp:=by
 refine AV ?_
 unfold u9
 obtain ⟨ST,hST⟩:∃ ST:Nat,t.st=(ST:Int):=⟨t.st.toNat,by omega⟩
 have hSTn:t.st.toNat=ST:=by omega
 have hSTle:ST<=3:=by omega
 have hoff:=EY (y:=o.i.y) hSTle
 have hp8:=Qp hSTle
 have hwid:=H7 hsl
 rw [hSTn]
 refine fV H λr17 h H=>?_
 refine fV H λr19 h H=>?_
 have H:Hp hB [] h (jI A r (cdL 14337 L) rest++([⟨r17,true,fR,t.cs q n c⟩,⟨r19,true,fM,o.cs⟩]++Y)):=by
  have H:=Hp.swap (X:=jI A r (cdL 14337 L) rest) (Y:=Y) (Z:=[⟨r17,true,fR,t.cs q n c⟩,⟨r19,true,fM,o.cs⟩]) H.asc
  exact H.asc
 have dr:∀ {h r rest L},Hp hB [] h (jI A r (cdL 14337 L) rest++([⟨r17,true,fR,t.cs q n c⟩,⟨r19,true,fM,o.cs⟩]++Y))->Hp hB [] h (jI A r (cdL 14337 L) rest++Y):=λ{h r rest L} H=>Hp.mid H.Lr
 have ov:∀ {h r s rest},Hp hB [] h (jI A r s rest++([⟨r17,true,fR,t.cs q n c⟩,⟨r19,true,fM,o.cs⟩]++Y))->o.Vw h:=λH=>hov H.Lr
 obtain ⟨A1,hA1⟩:∃ A1,A1=if 0<t.st then nY 14337 1536 (zu ST o.i.y) false else []:=⟨_,rfl⟩
 have hA1l:A1.length<=39:=by
  rw [hA1]
  split
  ·exact ow _ _ _ _
  ·exact km _
 refine ⟨λ_ h'=>∃ r' rest',Hp hB [] h' (jI A r' (cdL 14337 (L++A1)) rest'++([⟨r17,true,fR,t.cs q n c⟩,⟨r19,true,fM,o.cs⟩]++Y)),?_,?_⟩
 ·refine fz (hpA (Hp.suf H) 0 rfl rfl) ?_
  refine fL (λh1=>?_) λh1=>?_
  ·refine fz (hpA (Hp.suf H) 1 rfl rfl) (fz (hpA (Hp.suf H) 0 rfl rfl) ?_)
   rw [hST]
   refine fw ((ST:Nat):Int) (by exact u64_in _ (by omega) (by omega)) (fH (by omega) ?_)
   refine fw _ (Ik hSTle hi.2.2.1) ?_
   refine fw (zu ST o.i.y) (by exact i64_in _ (by show _<=zu ST o.i.y; omega) (by show zu ST o.i.y<_; omega)) ?_
   refine vG λh e=>⟨_,_,rfl,?_⟩
   have H:=H.ext e
   refine uT H (by omega) (by omega) (.inr (by omega)) λr' rest' h' H=>⟨_,rfl,r',rest',?_⟩
   rw [hA1,if_pos (by omega)]
   exact H
  ·rw [hA1,if_neg (by omega),fT]
   exact ⟨r,rest,H⟩
 clear H
 rintro h u ⟨r,rest,H⟩
 refine fz (hpA (Hp.suf H) 1 rfl rfl) ?_
 refine Jm hsl ⟨_,rfl,gi.refl _,?_⟩
 have hid:=hi.1
 refine Of H (by rw [fA]; omega) hwid.2 (by omega) λr rest h H=>⟨_,rfl,?_⟩
 have hinsD:rL t sy o.i=A1++(wx 14337 2048 (wid sy.length) o.i.s.toNat++DB t.rf sy o.i):=by
  unfold rL
  rw [hA1,hSTn]
 have hidl:=F6 14337 2048 (wid sy.length) o.i.s.toNat
 obtain ⟨A2,hA2⟩:∃ A2,A2=(L++A1)++wx 14337 2048 (wid sy.length) o.i.s.toNat:=⟨_,rfl⟩
 have hA2l:A2.length<=L.length+51:=by rw [hA2,fA,fA,hidl]; omega
 have hfin:∀ Z,A2++Z=L++(A1++(wx 14337 2048 (wid sy.length) o.i.s.toNat++Z)):=λZ=>by rw [hA2]; simp only [fC]
 rw [<- hA2] at H
 refine gT (hpA (Hp.suf H) 0 rfl rfl) ?_
 refine iM (λh1=>?_) λh1=>?_
 ·refine hk r rest h ?_
  rw [hinsD,<- hfin]
  unfold DB
  rw [if_neg (by rw [h1]; decide),fT]
  exact dr H
 refine gT (hpA (Hp.suf H) 1 rfl rfl) (iM (λh2=>?_) λh2=>?_)
 ·refine Hd (bit:=0) H (by omega) (by omega) λr rest h H=>⟨_,rfl,?_⟩
  refine hk r rest h ?_
  rw [hinsD,<- hfin]
  unfold DB
  rw [if_pos h1,if_neg (by rw [h2]; decide)]
  exact dr H
 ·refine Hd (bit:=1) H (by omega) (by omega) λr rest h H=>⟨_,rfl,?_⟩
  refine fz (hpA (Hp.suf H) 1 rfl rfl) (fz (hpA (Hp.suf H) 1 rfl rfl) (fU (hpA (Hp.suf H) 1 rfl rfl) (fz (hpA (Hp.suf H) 1 rfl rfl) (fH (by omega) ?_))))
  obtain ⟨a,q3,c3,ha,hc0⟩:=hs _ _ (zp hi)
  have hc:=hc0.ext H.gi
  refine iJ ha ?_
  refine fz hc.c0 (fz hc.c1 (fU hc.c2 ?_))
  have hmay:=hi.2.2.2.2 h2
  refine MO (b:=o.i.b) (s:=l7 sy o.i.s) H hmay.2.1 (hm _ (fS (zp hi))) (λH=>(ov H).r) (ov H).w (λH=>(hc0.ext H.gi).r1) hc0.w1 (by rw [fA,gJ,gS]; omega) λr rest h H=>⟨_,rfl,?_⟩
  refine hk r rest h ?_
  rw [hinsD,<- hfin]
  unfold DB
  rw [if_pos h1,if_pos h2]
  unfold KO
  rw [<- fC]
  exact dr H
end
theorem C3 (a:Addr) (m n:Nat):(a.add m).add n=a.add (m+n):=by
 unfold Addr.add
 by_cases h1:m=0
 ·subst h1; simp
 ·by_cases h2:n=0
  ·subst h2; simp
  ·rw [if_neg h1,if_neg h2,if_neg (by omega)]
   simp [tZ]
section
variable {hB:Heap} {K:VK} {Kp:PK} {t:Reg14} {q q2:Option Addr} {c c2:Nat} {sy:List Bmp} {l:List Ins}
set_option maxHeartbeats 8000000 in
theorem KP (hv:rj hB q l) (hs:o7 hB q2 sy) (hl:l.length<=1000000) (hsl:sy.length<=1000000000000)
  (hkb:∀ h',qz t sy l≠0->gi hB h'->K (.tuple #[.agg #[.int .i64 0,.int .i64 0,.slice none 0 0],.int .i64 (qz t sy l)]) h')
  (hk:∀ R D qo co h',qz t sy l=0->Cf t.w.toNat t.h.toNat (zG t sy (rX t.st.toNat l)) R->Slot gj 1 D qo R.length co (il R)->Hp hB [] h' D->K (.tuple #[.agg #[.int .i64 t.w,.int .i64 t.h,.slice qo R.length co],.int .i64 0]) h') :
  CP mR #[t.ag q l.length c,.slice q2 sy.length c2] hB K Kp:=by
 refine zQ ?_
 unfold tH
 have H:=Hp.nil hB []
 refine fV H λr10 h H=>?_
 refine fV H λr12 h H=>?_
 have H:Hp hB [] h [⟨r10,true,fR,t.cs q l.length c⟩,⟨r12,true,fK,[.int .i64 0,.int .i64 0,.slice none 0 0]⟩]:=H
 repeat first | with_reducible refine fz (by with_unfolding_all first | exact hpA H 0 rfl rfl | exact Hp.cell H 0 rfl rfl | exact hpB H 0 rfl rfl | exact hpC H 0 rfl rfl) ?_ | with_reducible refine fU (by with_unfolding_all first | exact hpA H 0 rfl rfl | exact Hp.cell H 0 rfl rfl | exact hpB H 0 rfl rfl | exact hpC H 0 rfl rfl) ?_ | with_reducible refine ja (by with_unfolding_all first | exact hpA H 0 rfl rfl | exact Hp.cell H 0 rfl rfl | exact hpB H 0 rfl rfl | exact hpC H 0 rfl rfl) ?_ | with_reducible refine gT (by with_unfolding_all first | exact hpA H 0 rfl rfl | exact Hp.cell H 0 rfl rfl | exact hpB H 0 rfl rfl | exact hpC H 0 rfl rfl) ?_ | with_reducible refine pj (by with_unfolding_all first | exact hpA H 0 rfl rfl | exact Hp.cell H 0 rfl rfl | exact hpB H 0 rfl rfl | exact hpC H 0 rfl rfl) ?_
 refine Kn (t:=t) (hv.ext H.gi) (hs.ext H.gi) hl hsl λh' e=>⟨_,rfl,?_⟩
 have H:=H.ext e
 clear e
 refine jg (λh1=>?_) λh1=>?_
 ·refine stA H 1 rfl rfl rfl λh H=>?_
  refine stA H 1 rfl rfl rfl λh H=>?_
  refine stA H 1 rfl rfl rfl λh H=>?_
  refine fz (hpA H 1 rfl rfl) (fz (hpA H 1 rfl rfl) (fU (hpA H 1 rfl rfl) ?_))
  exact hkb h h1 H.gi
 obtain ⟨hf,hsl4,hl16,har⟩:=uE h1
 have hk:=λR D qo co h'=>hk R D qo co h' h1
 clear h1 hkb
 have hst:=hf.2.1.2.2.2.2.2
 have hdf:=hf.2.1.2.2.2.2.1
 have hop:=hf.2.1.2.2.2.1
 obtain ⟨OP,hOP⟩:∃ OP:Nat,t.op=(OP:Int):=⟨t.op.toNat,by omega⟩
 have hsz:=hf.2.1.1
 obtain ⟨W,XX,hW,hX,hW1,hW2,hX1,hX2,hWX⟩:=jf hsz
 have hWt:t.w.toNat=W:=by omega
 have hXt:t.h.toNat=XX:=by omega
 rw [hWt,hXt] at hk
 have hhw:=rR hW1 hWX
 have hsz2:jX (W:Int) (XX:Int):=by rw [<- hW,<- hX]; exact hsz
 refine fz (hpA H 0 rfl rfl) (fz (hpA H 0 rfl rfl) ?_)
 rw [hW,hX]
 refine MB hsz2 λws0 qm h hws0l hws0w hws0p H'=>⟨_,_,_,_,_,rfl,?_⟩
 have H:=H.join H' rfl
 clear H'
 refine fV H λr39 h H=>?_
 have H:Hp hB [] h [⟨r10,true,fR,t.cs q l.length c⟩,⟨r12,true,fK,[.int .i64 0,.int .i64 0,.slice none 0 0]⟩,⟨qm,true,gj,il ws0++[]⟩,⟨r39,true,fK,[.int .i64 0,.int .i64 0,.slice none 0 0]⟩]:=H
 refine stA H 3 rfl rfl rfl λh H=>?_
 refine stA H 3 rfl rfl rfl λh H=>?_
 refine stA H 3 rfl rfl rfl λh H=>?_
 obtain ⟨Ro,hRo⟩:∃ Ro:List Nat->List Ent,Ro=λws=>[⟨r10,true,fR,t.cs q l.length c⟩,⟨r12,true,fK,[.int .i64 0,.int .i64 0,.slice none 0 0]⟩,⟨qm,true,gj,il ws++[]⟩,⟨r39,true,fK,[.int .i64 (W:Nat),.int .i64 (XX:Nat),.slice (at0 qm) ws.length ws.length]⟩]:=⟨_,rfl⟩
 have H:Hp hB [] h (Ro ws0):=by rw [hRo]; exact H
 refine ⟨λ_ h'=>∃ R,Cf W XX (Nj t) R/\Hp hB [] h' (Ro R),?_,?_⟩
 ·refine ⟨λn vs h'=>∃ (y:Nat) (ws:List Nat),y+n=XX/\vs=[.int .i64 (y:Nat)]/\ws.length=XX*wds W/\W64 ws/\(∀ Y,Y<XX->∀ x,x<64*wds W->pix ws (wds W) x Y=decide (t.df=1/\x<W/\Y<y))/\Hp hB [] h' (Ro ws),⟨XX,0,ws0,by omega,rfl,hws0l,hws0w,λY _ x _=>by rw [hws0p,decide_eq_false (by omega)],H⟩,?_⟩
  clear H hws0l hws0w hws0p
  rintro n h u xy ⟨y,ws,hyn,hxx,hwl,hww,hwp,H⟩
  injection hxx with hx1 hxx
  injection hx1 with _ hx1
  subst xy
  have H1:=H
  rw [hRo] at H
  refine fz (hpA H 0 rfl rfl) ?_
  rw [hX]
  refine fL (λh2=>?_) λh2=>?_
  rotate_left
  ·exact ⟨ws,⟨hwl,hww,λY hY x hx=>by rw [hwp Y hY x hx]; unfold Nj; rw [hWt,decide_eq_decide]; omega⟩,H1⟩
  refine fz (hpA H 0 rfl rfl) ?_
  refine iA (λh3=>?_) λh3=>?_
  rotate_left
  ·exact ⟨ws,⟨hwl,hww,λY hY x hx=>by rw [hwp Y hY x hx]; unfold Nj; rw [hWt,decide_eq_decide]; omega⟩,H1⟩
  refine ⟨λm vs h'=>∃ (x:Nat) (ws:List Nat),x+m=W/\vs=[.int .i64 (x:Nat)]/\ws.length=XX*wds W/\W64 ws/\(∀ Y,Y<XX->∀ x',x'<64*wds W->pix ws (wds W) x' Y=decide (x'<W/\(Y<y\/Y=y/\x'<x)))/\Hp hB [] h' (Ro ws),⟨W,0,ws,by omega,rfl,hwl,hww,λY hY x hx=>by rw [hwp Y hY x hx,decide_eq_decide]; omega,H1⟩,?_⟩
  clear H H1 hwl hww hwp
  rintro m h u xx ⟨x,ws,hxm,hxx,hwl,hww,hwp,H⟩
  injection hxx with hx1 hxx
  injection hx1 with _ hx1
  subst xx
  have H1:=H
  rw [hRo] at H
  refine fz (hpA H 0 rfl rfl) ?_
  rw [hW]
  refine fL (λh4=>?_) λh4=>?_
  ·refine fz (hpA H 3 rfl rfl) (fz (hpA H 3 rfl rfl) (fU (hpA H 3 rfl rfl) ?_))
   refine BH (W:=W) (X:=XX) (a:=x) (b:=y) (bit:=true) H 2 rfl hww hsz2 hwl (by omega) (by omega) λR h hRl hRw hRp H=>?_
   refine fw (((x+1:Nat):Int)) (by exact fO _ _ (by omega) (by omega) (by omega)) ?_
   refine ⟨m-1,by omega,x+1,R,by omega,rfl,hRl.trans hwl,hRw,λY hY x' hx'=>?_,?_⟩
   ·rw [hRp Y hY x' hx',hwp Y hY x' hx']
    by_cases hc:Y=y/\x'=x
    ·rw [if_pos hc,decide_eq_true (by omega)]
    ·rw [if_neg hc,decide_eq_decide]
     omega
   ·dsimp only at H
    rw [<- hRl] at H
    rw [hRo]
    exact H
  ·obtain rfl:x=W:=by omega
   refine fw (((y+1:Nat):Int)) (by exact fO _ _ (by omega) (by omega) (by omega)) ?_
   exact ⟨n-1,by omega,y+1,ws,by omega,rfl,hwl,hww,λY hY x' hx'=>by rw [hwp Y hY x' hx',decide_eq_decide]; omega,H1⟩
 clear H hws0l hws0w hws0p
 rintro h u ⟨ws0,hpic0,H⟩
 have H1:=H
 rw [hRo] at H
 repeat first | with_reducible refine fz (by with_unfolding_all first | exact hpA H 0 rfl rfl | exact Hp.cell H 0 rfl rfl | exact hpB H 0 rfl rfl | exact hpC H 0 rfl rfl) ?_ | with_reducible refine fU (by with_unfolding_all first | exact hpA H 0 rfl rfl | exact Hp.cell H 0 rfl rfl | exact hpB H 0 rfl rfl | exact hpC H 0 rfl rfl) ?_ | with_reducible refine ja (by with_unfolding_all first | exact hpA H 0 rfl rfl | exact Hp.cell H 0 rfl rfl | exact hpB H 0 rfl rfl | exact hpC H 0 rfl rfl) ?_ | with_reducible refine gT (by with_unfolding_all first | exact hpA H 0 rfl rfl | exact Hp.cell H 0 rfl rfl | exact hpB H 0 rfl rfl | exact hpC H 0 rfl rfl) ?_ | with_reducible refine pj (by with_unfolding_all first | exact hpA H 0 rfl rfl | exact Hp.cell H 0 rfl rfl | exact hpB H 0 rfl rfl | exact hpC H 0 rfl rfl) ?_
 refine Bz (t:=t) (hv.ext H.gi) (by omega) (λi hi=>iL (hf.2.2 i hi).ws (by decide)) λR q' c' h' hL H'=>?_
 refine ⟨_,_,_,rfl,?_⟩
 replace H:=H1.join H' hL.w
 clear H' H1
 rw [zq hst] at hL
 obtain ⟨O,E,h1,hOS,h3,rfl⟩:=hL
 obtain ⟨S,hS⟩:∃ S,S=rX t.st.toNat l:=⟨_,rfl⟩
 rw [<- hS] at hOS h3 hk
 have hSl:S.length=l.length:=by rw [hS]; exact qI _ _
 have hSok:∀ i∈S,mC t.rf sy i:=λi hi=>hf.2.2 i (s8.1 (hS ▸ hi))
 rw [<- hSl]
 obtain ⟨V,hV⟩:∃ V,V=dsI O++E:=⟨_,rfl⟩
 rw [<- hV] at H
 have rdS:∀ {h A},Hp hB [] h (A++V)->rdO h q' (S.length*7) (csI O):=λ{h A} H=>Slot.vt h3 H λe he=>fX _ (by rw [hV]; exact fX _ he)
 have rdV:∀ {o:OwI} {h A},o∈O->Hp hB [] h (A++V)->o.Vw h:=λ{o h A} ho H=>⟨Slot.vt (h1 o ho).s H λe he=>fX _ (by rw [hV]; exact gV _ (CL ho e he)),(h1 o ho).w,(h1 o ho).l⟩
 have hOl:O.length=S.length:=by rw [<- hOS,iu]
 refine ⟨λm vs h'=>∃ (k:Nat) (R:List Nat),k+m=S.length/\vs=[.int .i64 (k:Nat)]/\Cf W XX (zG t sy (S.take k)) R/\Hp hB [] h' (Ro R++V),⟨S.length,0,ws0,by omega,rfl,hpic0,H⟩,?_⟩
 clear H hpic0
 rintro m h u xk ⟨k,R,hkm,hxx,hpic,H⟩
 injection hxx with hx1 hxx
 injection hx1 with _ hx1
 subst xk
 have hRl:=hpic.1
 have hRw2:=hpic.2.1
 rw [hRo] at H
 have H:Hp hB [] h ([⟨r10,true,fR,t.cs q l.length c⟩,⟨r12,true,fK,[.int .i64 0,.int .i64 0,.slice none 0 0]⟩,⟨qm,true,gj,il R++[]⟩,⟨r39,true,fK,[.int .i64 (W:Nat),.int .i64 (XX:Nat),.slice (at0 qm) R.length R.length]⟩]++V):=H
 refine fL (λh5=>?_) λh5=>?_
 rotate_left
 ·obtain rfl:k=S.length:=by omega
  rw [gz (gg _)] at hpic
  refine fz (hpA H 3 rfl rfl) (fz (hpA H 3 rfl rfl) (fU (hpA H 3 rfl rfl) ?_))
  refine stA H 1 rfl rfl rfl λh H=>?_
  refine stA H 1 rfl rfl rfl λh H=>?_
  refine stA H 1 rfl rfl rfl λh H=>?_
  refine fz (hpA H 1 rfl rfl) (fz (hpA H 1 rfl rfl) (fU (hpA H 1 rfl rfl) ?_))
  have H:Hp hB [] h ([_,_]++([⟨qm,true,gj,il R++[]⟩]++([_]++V))):=H
  rw [<- hW,<- hX]
  exact hk R [⟨qm,true,gj,il R++[]⟩] _ _ h hpic (Slot.one (by rw [iO,gu]) (by rw [fT,iO,gu])) (Hp.pre (Hp.suf H))
 obtain ⟨o,ho⟩:∃ o,O[k]? = some o:=⟨_,fP (by omega)⟩
 have hoS:S[k]? = some o.i:=by rw [<- hOS,gL,ho]; rfl
 have hio:=hSok _ (fS hoS)
 have hid:=hio.1
 obtain ⟨a,ha,cell⟩:=l3 (rdS H) ho
 refine fH (by omega) (iJ ha ?_)
 rw [fD]
 refine fz (cell 2 _ rfl) ?_
 obtain ⟨a3,q9,c9,ha3,hc0⟩:=hs _ _ (zp hio)
 have hc:=hc0.ext H.gi
 refine fH (by omega) (iJ ha3 ?_)
 refine fz hc.c0 (fz hc.c1 (fU hc.c2 ?_))
 refine fV H λr93 h H=>?_
 have H:=Hp.rot (X:=[⟨r10,true,fR,t.cs q l.length c⟩,⟨r12,true,fK,[.int .i64 0,.int .i64 0,.slice none 0 0]⟩,⟨qm,true,gj,il R++[]⟩,⟨r39,true,fK,[.int .i64 (W:Nat),.int .i64 (XX:Nat),.slice (at0 qm) R.length R.length]⟩]++V) H
 obtain ⟨Re,hRe⟩:∃ Re:Option Addr->Nat->List Nat->List Ent,Re=λq9 c9 R=>[⟨r93,true,fK,[.int .i64 (mM sy o.i).w,.int .i64 (mM sy o.i).h,.slice q9 (mM sy o.i).ws.length c9]⟩,⟨r10,true,fR,t.cs q l.length c⟩,⟨r12,true,fK,[.int .i64 0,.int .i64 0,.slice none 0 0]⟩,⟨qm,true,gj,il R++[]⟩,⟨r39,true,fK,[.int .i64 (W:Nat),.int .i64 (XX:Nat),.slice (at0 qm) R.length R.length]⟩]:=⟨_,rfl⟩
 refine stA H 0 rfl rfl rfl λh H=>?_
 refine stA H 0 rfl rfl rfl λh H=>?_
 refine stA H 0 rfl rfl rfl λh H=>?_
 refine ⟨λ_ h'=>∃ q9 c9,(∀ {h X},Hp hB [] h (X++V)->rdO h q9 ((mM sy o.i).ws.length*1) (il (mM sy o.i).ws))/\W64 (mM sy o.i).ws/\(mM sy o.i).ws.length<140737488351300 /\
   Hp hB [] h' (Re q9 c9 R++V),?_,?_⟩
 ·have H:Hp hB [] h ([⟨r93,true,fK,[.int .i64 (l7 sy o.i.s).w,.int .i64 (l7 sy o.i.s).h,.slice q9 (l7 sy o.i.s).ws.length c9]⟩,⟨r10,true,fR,t.cs q l.length c⟩,⟨r12,true,fK,[.int .i64 0,.int .i64 0,.slice none 0 0]⟩,⟨qm,true,gj,il R++[]⟩,⟨r39,true,fK,[.int .i64 (W:Nat),.int .i64 (XX:Nat),.slice (at0 qm) R.length R.length]⟩]++V):=H
  obtain ⟨a,ha,cell⟩:=l3 (rdS H) ho
  refine fH (by omega) (iJ ha ?_)
  refine gT (cell 3 _ rfl) ?_
  refine gP (λhd=>?_) λhd=>?_
  ·have esrc:mM sy o.i=o.i.b:=by unfold mM; rw [if_pos hd]
   refine fH (by omega) (iJ ha ?_)
   refine fz (by rw [C3]; exact cell 4 _ rfl) (fz (by rw [C3]; exact cell 5 _ rfl) (fU (by rw [C3]; exact cell 6 _ rfl) ?_))
   refine stA H 0 rfl rfl rfl λh H=>?_
   refine stA H 0 rfl rfl rfl λh H=>?_
   refine stA H 0 rfl rfl rfl λh H=>?_
   rw [hRe]
   dsimp only
   rw [esrc]
   exact ⟨o.q,o.c,λH=>(rdV (fS ho) H).r,(h1 o (fS ho)).w,(h1 o (fS ho)).l,H⟩
  ·have esrc:mM sy o.i=l7 sy o.i.s:=by unfold mM; rw [if_neg (by rw [hd]; decide)]
   rw [hRe]
   dsimp only
   rw [esrc]
   exact ⟨q9,c9,λH=>H.rdO hc0.r1,hc0.w1,hc0.l1,H⟩
 clear H cell hc
 rintro h u ⟨q9,c9,hrd,hw9,hl9,H⟩
 rw [hRe] at H
 obtain ⟨a,ha,cell⟩:=l3 (rdS H) ho
 refine fH (by omega) (iJ ha (fH (by omega) (iJ ha ?_)))
 refine fz (hpA H 4 rfl rfl) (fz (hpA H 4 rfl rfl) (fU (hpA H 4 rfl rfl) ?_))
 refine fz (cell 0 _ rfl) (fz (cell 1 _ rfl) (fz (hpA H 1 rfl rfl) ?_))
 refine fz (hpA H 0 rfl rfl) (fz (hpA H 0 rfl rfl) (fU (hpA H 0 rfl rfl) ?_))
 have hmay:=hio.src hf.1
 obtain ⟨W2,X2,ew,eh,hV1,hV2,hY1,hY2,hVY⟩:=jf hmay.1
 have hsrl:(mM sy o.i).ws.length=X2*wds W2:=by
  have:=hmay.2.1
  rw [ew,eh,fD,fD] at this
  exact this
 have hxb:=hio.2.1
 have hyb:=hio.2.2.1
 have hszs:jX (W2:Int) (X2:Int):=by rw [<- ew,<- eh]; exact hmay.1
 rw [hOP,ew,eh]
 refine RV (W:=W) (X:=XX) (W2:=W2) (X2:=X2) H 3 rfl hsz2 hRl hRw2 (λh' R' H'=>hrd (X:=[_,_,_,_,_]) H') hszs hsrl hw9 ⟨by omega,by omega⟩ ⟨by omega,by omega⟩ (op:=OP) (by omega) λR' h' hR'l hR'w hR'p H=>?_
 refine fw (((k+1:Nat):Int)) (by exact fO _ _ (by omega) (by omega) (by omega)) ?_
 refine ⟨m-1,by omega,k+1,R',by omega,rfl,⟨hR'l,hR'w,λY hY x hx=>?_⟩,?_⟩
 ·rw [kC hoS,F8,hWt,show t.op.toNat=OP by omega,hR'p Y hY x hx,hpic.2.2 Y hY x hx]
  unfold ON
  rw [ew,eh,fD]
 ·dsimp only at H
  rw [hRl.trans hR'l.symm] at H
  have H:Hp hB [] h' ([_]++([⟨r10,true,fR,t.cs q l.length c⟩,⟨r12,true,fK,[.int .i64 0,.int .i64 0,.slice none 0 0]⟩,⟨qm,true,gj,il R'++[]⟩,⟨r39,true,fK,[.int .i64 (W:Nat),.int .i64 (XX:Nat),.slice (at0 qm) R'.length R'.length]⟩]++V)):=H
  rw [hRo]
  exact Hp.suf H
end
open Go.Ar (gE iX iE jI u8s gO ql)
section
variable {hB h:Heap} {K:VK} {Kp:PK}
theorem CE {Aa D:List Ent} {q:Option Addr} {n c v:Nat} {acc:List Nat} (hs:Slot gA 1 D q n c (u8s acc)) (hn:acc.length=n) (hn2:n<=1000) (H:Hp hB [] h (Aa++D)) (hv:v<18446744073709551616) {KK:Option Addr->Nat->Nat->Heap->Prop}
  (hk:∀ D' q' c' h',Slot gA 1 D' q' (acc++grp v).length c' (u8s (acc++grp v))->Hp hB [] h' (Aa++D')->KK q' (acc++grp v).length c' h') :
  CP ki #[.int .u64 (v:Nat)] h (λv_42 h_43=>∃ (r:Option Addr) (rn:Nat) (rc:Nat),v_42 = .slice r rn rc/\(l4 h_43 gA 1 1 [.int .u8 0] q n c r rn KK)) Kp:=by
 subst hn
 refine Ni hv λDg qo co h' hsg H'=>⟨_,_,_,rfl,?_⟩
 have H:=(H.join H' hsg.w).asc
 clear H'
 have hgl:=(uk v).2
 refine Slot.Ls (m:=(grp v).length) (new:=u8s (grp v)) hs H rfl (by decide) (Slot.vt hsg H λe he=>fX _ (fX _ he)) (by rw [gO,gu]) (ql _) (by omega) λD' q' c' h' hs' H=>?_
 have e1:acc.length+(grp v).length=(acc++grp v).length:=by rw [fA]
 have e2:u8s acc++u8s (grp v)=u8s (acc++grp v):=by simp [u8s]
 rw [e1,e2] at hs'
 rw [e1]
 exact hk D' q' c' h' hs' (Hp.pre H.Lr)
theorem Py {Aa D:List Ent} {q:Option Addr} {n c v:Nat} {acc:List Nat} (hs:Slot gA 1 D q n c (u8s acc)) (hn:acc.length=n) (hn2:n<=1000) (H:Hp hB [] h (Aa++D)) {KK:Option Addr->Nat->Nat->Heap->Prop}
  (hk:∀ D' q' c' h',Slot gA 1 D' q' (acc++[v]).length c' (u8s (acc++[v]))->Hp hB [] h' (Aa++D')->KK q' (acc++[v]).length c' h') :
  Go.Den.gE h [.int .u8 (v:Nat)] gA λr h'=>l4 h' gA 1 1 [.int .u8 0] q n c (some ⟨r,0,none⟩) 1 KK:=by
 subst hn
 refine fV H λr h H=>?_
 have H:=H.asc
 refine Slot.Ls (m:=1) (new:=u8s [v]) hs H rfl (by decide) (Hp.n9 (rest:=[]) (cs:=u8s [v]) H (fX _ (fX _ (List.mem_singleton.2 rfl))) rfl) rfl (ql _) (by omega) λD' q' c' h' hs' H=>?_
 have e1:acc.length+1=(acc++[v]).length:=by rw [fA]; rfl
 have e2:u8s acc++u8s [v]=u8s (acc++[v]):=by simp [u8s]
 rw [e1,e2] at hs'
 rw [e1]
 exact hk D' q' c' h' hs' (Hp.pre H.Lr)
set_option maxHeartbeats 16000000 in
theorem M5 {t:Reg14} {q q2:Option Addr} {c c2:Nat} {sy:List Bmp} {l:List Ins} (hv:rj hB q l) (hs:o7 hB q2 sy) (hl:l.length<=1000000) (hsl:sy.length<=1000000000000)
  (hk:∀ D qo co h',Slot gA 1 D qo (yK t sy l).length co (u8s (yK t sy l))->Hp hB [] h' D->K (.tuple #[.slice qo (yK t sy l).length co,.int .i64 (qz t sy l)]) h') :
  CP px #[t.ag q l.length c,.slice q2 sy.length c2] hB K Kp:=by
 refine ya ?_
 unfold qU
 have H:=Hp.nil hB []
 refine fV H λr10 h H=>?_
 have H:Hp hB [] h [⟨r10,true,fR,t.cs q l.length c⟩]:=H
 repeat first | with_reducible refine fz (by with_unfolding_all first | exact hpA H 0 rfl rfl | exact Hp.cell H 0 rfl rfl | exact hpB H 0 rfl rfl | exact hpC H 0 rfl rfl) ?_ | with_reducible refine fU (by with_unfolding_all first | exact hpA H 0 rfl rfl | exact Hp.cell H 0 rfl rfl | exact hpB H 0 rfl rfl | exact hpC H 0 rfl rfl) ?_ | with_reducible refine ja (by with_unfolding_all first | exact hpA H 0 rfl rfl | exact Hp.cell H 0 rfl rfl | exact hpB H 0 rfl rfl | exact hpC H 0 rfl rfl) ?_ | with_reducible refine gT (by with_unfolding_all first | exact hpA H 0 rfl rfl | exact Hp.cell H 0 rfl rfl | exact hpB H 0 rfl rfl | exact hpC H 0 rfl rfl) ?_ | with_reducible refine pj (by with_unfolding_all first | exact hpA H 0 rfl rfl | exact Hp.cell H 0 rfl rfl | exact hpB H 0 rfl rfl | exact hpC H 0 rfl rfl) ?_
 refine Kn (hv.ext H.gi) (hs.ext H.gi) hl hsl λh' e=>⟨_,rfl,?_⟩
 have H:=H.ext e
 clear e
 refine jg (λh1=>?_) λh1=>?_
 ·unfold yK at hk
  rw [if_neg h1] at hk
  exact hk [] none 0 _ (Slot.nil _ _) (H.take 0)
 obtain ⟨hf,hsl,hl,har⟩:=uE h1
 rw [h1,EZ h1] at hk
 clear h1
 have ht:=hf.2.1
 have hsz:=ht.1
 unfold jX at hsz
 have hx:=ht.2.1
 have hy:=ht.2.2.1
 have hop:=ht.2.2.2.1
 have hdf:=ht.2.2.2.2.1
 have hst:=ht.2.2.2.2.2
 have hstl:t.st.toNat<=3:=by omega
 have hstI:((t.st.toNat:Nat):Int)=t.st:=by omega
 have hTl:=xz (t:=t) hf.2.2 hsl hl har
 have hhow:=EV ht
 have hbl:=Co hf hsl hl har
 have hhd:=FW t l.length
 obtain ⟨E10,hE10⟩:∃ E10:Ent,E10=⟨r10,true,fR,t.cs q l.length c⟩:=⟨_,rfl⟩
 refine fz (hpA H 0 rfl rfl) (fz (hpA H 0 rfl rfl) ?_)
 refine fw ((16*t.df)) (by exact i64_in _ (by omega) (by omega)) ?_
 refine fw ((t.op+16*t.df)) (by exact i64_in _ (by omega) (by omega)) ?_
 refine fz (hpA H 0 rfl rfl) ?_
 refine fw ((32*t.st)) (by exact i64_in _ (by omega) (by omega)) ?_
 refine fw ((t.op+16*t.df+32*t.st)) (by exact i64_in _ (by omega) (by omega)) ?_
 refine ⟨λvs h2=>vs=[.int .i64 ((td t:Nat):Int)]/\h2=h',?_,?_⟩
 ·refine gT (hpA H 0 rfl rfl) ?_
  refine gP (λh2=>?_) λh2=>?_
  ·have e:((td t:Nat):Int)=t.op+16*t.df+32*t.st+8:=by
    unfold td
    rw [if_pos h2]
    omega
   refine fw (((td t:Nat):Int)) (by (rw [e]; exact i64_in _ (by omega) (by omega))) ?_
   exact ⟨rfl,rfl⟩
  ·have e:((td t:Nat):Int)=t.op+16*t.df+32*t.st:=by
    unfold td
    rw [if_neg (by rw [h2]; decide)]
    omega
   rw [e]
   exact ⟨rfl,rfl⟩
 rintro h u bb ⟨hxx,rfl⟩
 injection hxx with hx1 hxx
 injection hx1 with _ hx1
 subst bb
 have H:Hp hB [] h ([E10]++[]):=by rw [hE10]; exact H
 have c10:∀ {h X} {j:Nat} {v:Value},Hp hB [] h (E10::X)->(t.cs q l.length c)[j]? = some v->ic h ((⟨r10,0,none⟩:Addr).add j)=some v:=λ{h X j v} H hj=>by
  rw [hE10] at H
  exact hpA H 0 rfl (by rw [fN]; exact hj)
 have gx:=(uk t.x.toNat).2
 have gy:=(uk t.y.toNat).2
 have gw:=(uk t.w.toNat).2
 have gh:=(uk t.h.toNat).2
 have gn:=(uk l.length).2
 refine ⟨λvs h'=>∃ D q' c',vs=[.slice q' ([]++grp t.x.toNat).length c']/\Slot gA 1 D q' ([]++grp t.x.toNat).length c' (u8s ([]++grp t.x.toNat))/\Hp hB [] h' ([E10]++D),?_,?_⟩
 ·refine fz (c10 H rfl) ?_
  refine fw (((t.x.toNat:Nat):Int)) (by exact zf _ _ (by omega) (by omega) (by omega)) ?_
  exact CE (acc:=[]) (Slot.nil _ _) rfl (by decide) H (by omega) λD' q' c' h' hs' H'=>⟨D',q',c',rfl,hs',H'⟩
 clear H
 rintro h u oq on oc ⟨D,q',c',hxx,hd,H⟩
 injection hxx with hx1 hxx
 injection hx1 with hx1 hx2 hx3
 subst oq on oc
 obtain ⟨acc,hacc⟩:∃ acc,acc=[]++grp t.x.toNat:=⟨_,rfl⟩
 rw [<- hacc] at hd ⊢
 have hal:acc.length<=11:=by rw [hacc]; exact gx
 refine ⟨λvs h'=>∃ D q' c',vs=[.slice q' (acc++grp t.y.toNat).length c']/\Slot gA 1 D q' (acc++grp t.y.toNat).length c' (u8s (acc++grp t.y.toNat))/\Hp hB [] h' ([E10]++D),?_,?_⟩
 ·refine fz (c10 H rfl) ?_
  refine fw (((t.y.toNat:Nat):Int)) (by exact zf _ _ (by omega) (by omega) (by omega)) ?_
  exact CE hd rfl (by omega) H (by omega) λD' q' c' h' hs' H'=>⟨D',q',c',rfl,hs',H'⟩
 clear H hd
 rintro h u oq on oc ⟨D,q',c',hxx,hd,H⟩
 injection hxx with hx1 hxx
 injection hx1 with hx1 hx2 hx3
 subst oq on oc
 obtain ⟨acc2,hacc2⟩:∃ acc2,acc2=acc++grp t.y.toNat:=⟨_,rfl⟩
 rw [<- hacc2] at hd ⊢
 have hal2:acc2.length<=22:=by rw [hacc2,fA]; omega
 refine ⟨λvs h'=>∃ D q' c',vs=[.slice q' (acc2++grp t.w.toNat).length c']/\Slot gA 1 D q' (acc2++grp t.w.toNat).length c' (u8s (acc2++grp t.w.toNat))/\Hp hB [] h' ([E10]++D),?_,?_⟩
 ·refine fz (c10 H rfl) ?_
  refine fw (((t.w.toNat:Nat):Int)) (by exact zf _ _ (by omega) (by omega) (by omega)) ?_
  exact CE hd rfl (by omega) H (by omega) λD' q' c' h' hs' H'=>⟨D',q',c',rfl,hs',H'⟩
 clear H hd
 rintro h u oq on oc ⟨D,q',c',hxx,hd,H⟩
 injection hxx with hx1 hxx
 injection hx1 with hx1 hx2 hx3
 subst oq on oc
 obtain ⟨acc3,hacc3⟩:∃ acc3,acc3=acc2++grp t.w.toNat:=⟨_,rfl⟩
 rw [<- hacc3] at hd ⊢
 have hal3:acc3.length<=33:=by rw [hacc3,fA]; omega
 refine ⟨λvs h'=>∃ D q' c',vs=[.slice q' (acc3++grp t.h.toNat).length c']/\Slot gA 1 D q' (acc3++grp t.h.toNat).length c' (u8s (acc3++grp t.h.toNat))/\Hp hB [] h' ([E10]++D),?_,?_⟩
 ·refine fz (c10 H rfl) ?_
  refine fw (((t.h.toNat:Nat):Int)) (by exact zf _ _ (by omega) (by omega) (by omega)) ?_
  exact CE hd rfl (by omega) H (by omega) λD' q' c' h' hs' H'=>⟨D',q',c',rfl,hs',H'⟩
 clear H hd
 rintro h u oq on oc ⟨D,q',c',hxx,hd,H⟩
 injection hxx with hx1 hxx
 injection hx1 with hx1 hx2 hx3
 subst oq on oc
 obtain ⟨acc4,hacc4⟩:∃ acc4,acc4=acc3++grp t.h.toNat:=⟨_,rfl⟩
 rw [<- hacc4] at hd ⊢
 have hal4:acc4.length<=44:=by rw [hacc4,fA]; omega
 refine ⟨λvs h'=>∃ D q' c',vs=[.slice q' (acc4++[td t]).length c']/\Slot gA 1 D q' (acc4++[td t]).length c' (u8s (acc4++[td t]))/\Hp hB [] h' ([E10]++D),?_,?_⟩
 ·refine fw (((td t:Nat):Int)) (by exact wr8 _ (by omega) (by omega)) ?_
  exact Py hd rfl (by omega) H λD' q' c' h' hs' H'=>⟨D',q',c',rfl,hs',H'⟩
 clear H hd
 rintro h u oq on oc ⟨D,q',c',hxx,hd,H⟩
 injection hxx with hx1 hxx
 injection hx1 with hx1 hx2 hx3
 subst oq on oc
 obtain ⟨acc5,hacc5⟩:∃ acc5,acc5=acc4++[td t]:=⟨_,rfl⟩
 rw [<- hacc5] at hd ⊢
 have hal5:acc5.length<=45:=by rw [hacc5,fA,gJ]; omega
 refine ⟨λvs h'=>∃ D q' c',vs=[.slice q' (acc5++grp l.length).length c']/\Slot gA 1 D q' (acc5++grp l.length).length c' (u8s (acc5++grp l.length))/\Hp hB [] h' ([E10]++D),?_,?_⟩
 ·refine fU (c10 H rfl) ?_
  refine fw (((l.length:Nat):Int)) (by exact u64_in _ (by omega) (by omega)) ?_
  exact CE hd rfl (by omega) H (by omega) λD' q' c' h' hs' H'=>⟨D',q',c',rfl,hs',H'⟩
 clear H hd
 rintro h u oq on oc ⟨D,qd,cd,hxx,hd,H⟩
 injection hxx with hx1 hxx
 injection hx1 with hx1 hx2 hx3
 subst oq on oc
 have hhead:acc5++grp l.length=pH t l.length:=by
  rw [hacc5,hacc4,hacc3,hacc2,hacc]
  unfold pH
  simp only [gd,fC]
 rw [hhead] at hd ⊢
 have hhl:=w7 t l.length
 clear hacc hacc2 hacc3 hacc4 hacc5 hal hal2 hal3 hal4 hal5 gx gy gw gh gn
 refine ⟨λvs h'=>∃ A r rest,vs=[.pointer (at0 A.p)]/\Hp hB [] h' (jI A r (cdL 14337 []) rest++([E10]++D)),?_,?_⟩
 ·refine Go.Ar.Qm (n:=14337) (by omega) λA r0 h' H'=>?_
  have H:=(H.join H' xO).rot
  exact ⟨_,rfl,A,r0,[],rfl,H⟩
 clear H
 rintro h u pc ⟨A,r,rest,hxx,H⟩
 injection hxx with hx1 hxx
 injection hx1 with hx1
 subst pc
 refine ⟨λvs h'=>∃ R q' c',vs=[.slice q' l.length c']/\ma R q' c' (rX t.st.toNat l)/\Hp hB [] h' (jI A r (cdL 14337 []) rest++(([E10]++D)++R)),?_,?_⟩
 ·have H1:Hp hB [] h (E10::D):=Hp.suf H
  refine fz (c10 H1 rfl) (fz (c10 H1 rfl) (fz (c10 H1 rfl) (fz (c10 H1 rfl) (fz (c10 H1 rfl) (gT (c10 H1 rfl) (fz (c10 H1 rfl) (fz (c10 H1 rfl) (fU (c10 H1 rfl) ?_))))))))
  refine Bz (t:=t) (hv.ext H.gi) (by omega) (λi hi=>iL (hf.2.2 i hi).ws (by decide)) λR q' c' h' hL H'=>?_
  rw [zq hst] at hL
  exact ⟨_,_,_,rfl,R,q',c',rfl,hL,(H.join H' hL.w).asc⟩
 clear H
 rintro h u lq ln lc ⟨R,q',c',hxx,hL,H⟩
 injection hxx with hx1 hxx
 injection hx1 with hx1 hx2 hx3
 subst lq ln lc
 have hRw:=hL.w
 obtain ⟨O,E,h1,hOS,h3,rfl⟩:=hL
 obtain ⟨S,hS⟩:∃ S,S=rX t.st.toNat l:=⟨_,rfl⟩
 rw [<- hS] at hOS h3
 have hSl:S.length=l.length:=by rw [hS]; exact qI _ _
 have hSok:∀ i∈S,mC t.rf sy i:=λi hi=>hf.2.2 i (s8.1 (hS ▸ hi))
 obtain ⟨T,hT⟩:∃ T,T=yv t sy l:=⟨_,rfl⟩
 have hT0:m7 t sy S 0 0 0 false=T:=by rw [hT,hS]; rfl
 rw [<- hT] at hTl
 obtain ⟨Y,hY⟩:∃ Y,Y=([E10]++D)++(dsI O++E):=⟨_,rfl⟩
 rw [<- hY] at H
 have rdS:∀ {h Z},Hp hB [] h (Z++Y)->rdO h q' (S.length*7) (csI O):=λ{h Z} H=>Slot.vt h3 H λe he=>by
  rw [hY]
  exact fX _ (fX _ (fX _ he))
 have rdV:∀ {o:OwI} {h Z},o∈O->Hp hB [] h (Z++Y)->o.Vw h:=λ{o h Z} ho H=>⟨Slot.vt (h1 o ho).s H λe he=>by
  rw [hY]
  exact fX _ (fX _ (gV _ (CL ho e he))),(h1 o ho).w,(h1 o ho).l⟩
 have c10:∀ {h X} {j:Nat} {v:Value},Hp hB [] h (X++Y)->(t.cs q l.length c)[j]? = some v->ic h ((⟨r10,0,none⟩:Addr).add j)=some v:=λ{h X j v} H hj=>by
  have H:=Hp.suf H
  rw [hY] at H
  exact c10 (X:=D++(dsI O++E)) H hj
 have hOl:O.length=S.length:=by rw [<- hOS,iu]
 refine ⟨λvs h'=>vs=[.int .i64 0]/\Hp hB [] h' (jI A r (cdL 14337 []) rest++Y),⟨rfl,H⟩,?_⟩
 clear H
 rintro h u sx ⟨hxx,H⟩
 injection hxx with hx1 hxx
 injection hx1 with _ hx1
 subst sx
 refine ⟨λvs h'=>vs=[.int .i64 0]/\Hp hB [] h' (jI A r (cdL 14337 []) rest++Y),⟨rfl,H⟩,?_⟩
 clear H
 rintro h u sx ⟨hxx,H⟩
 injection hxx with hx1 hxx
 injection hx1 with _ hx1
 subst sx
 refine ⟨λm vs h'=>∃ (k:Nat) (ah fi x:Int) (B:List (Nat × Nat)) (r:Nat) (rest:List Value),k+m=S.length/\vs=[.int .i64 ah,.int .i64 fi,.int .i64 (k:Nat)]/\(-1048576<=ah/\ah<=1048576)/\(-1048576<=fi/\fi<=1048576)/\B++m7 t sy (S.drop k) ah fi x false=T /\
   Hp hB [] h' (jI A r (cdL 14337 B) rest++Y),⟨S.length,0,0,0,0,[],r,rest,by omega,rfl,by omega,by omega,hT0,H⟩,?_⟩
 clear H hT0
 rintro m h u xa xf xk ⟨k,ah,fi,x,B,r,rest,hkm,hxx,hah,hfi,hB',H⟩
 injection hxx with hx1 hxx
 injection hxx with hx2 hxx
 injection hxx with hx3 hxx
 injection hx1 with _ hx1
 injection hx2 with _ hx2
 injection hx3 with _ hx3
 subst xa xf xk
 have hBT:B.length<=T.length:=by rw [<- hB',fA]; omega
 refine ⟨λvs h2=>k<S.length/\h2=h,?_,?_⟩
 ·refine fL (λh5=>⟨by omega,rfl⟩) λh5=>?_
  obtain rfl:k=S.length:=by omega
  rw [Bc] at hB'
  unfold m7 at hB'
  rw [if_neg (by decide),fT] at hB'
  subst hB'
  have hco:=sb (m:=14337) (L:=B) (by omega)
  obtain ⟨Z,hZ⟩:∃ Z,Z=cdL 14337 B:=⟨_,rfl⟩
  rw [<- hZ] at H hco
  have H:=H.rot
  refine Go.Ar.MX (Hp.mv H) hco.wf hco.done λr3 rest3 o orest h' H'=>?_
  replace H:=(Hp.pg H xO H' (by rw [pP,xO]; rfl)).rot
  clear H'
  refine ⟨_,_,_,_,rfl,?_⟩
  rw [<- hT,<- hZ] at hbl
  rw [hY] at H
  have H:Hp hB [] h' (((jI A r3 (iE Z) rest3++[⟨o,true,gA,u8s (iX (iE Z))++orest⟩])++[E10])++(D++(dsI O++E))):=H.as (by simp only [fC])
  refine Slot.Ls (m:=(iX (iE Z)).length) (new:=u8s (iX (iE Z))) hd H rfl (by decide) (Hp.n9 (rest:=orest) H (gV _ (gV _ (fX _ (List.mem_singleton.2 rfl)))) (by rw [gO,gu])) (by rw [gO,gu]) (ql _) (by omega) λD3 q5 c5 h' hs3 H=>?_
  have e1:(pH t l.length).length+(iX (iE Z)).length=(s7 t sy l).length:=by
   unfold s7
   rw [<- hT,<- hZ,fA]
  have e2:u8s (pH t l.length)++u8s (iX (iE Z))=u8s (s7 t sy l):=by
   unfold s7
   rw [<- hT,<- hZ]
   simp [u8s]
  rw [e1,e2] at hs3
  rw [e1]
  exact hk D3 q5 c5 h' hs3 (Hp.pre (Hp.suf H))
 rintro h2 u ⟨hkl,rfl⟩
 obtain ⟨o,ho⟩:∃ o,O[k]? = some o:=⟨_,fP (by omega)⟩
 have hoS:S[k]? = some o.i:=by rw [<- hOS,gL,ho]; rfl
 have hio:=hSok _ (fS hoS)
 have hfl:=IL hstl hio.2.2.1
 have hxb:=hio.2.1
 rw [th hoS] at hB'
 unfold m7 at hB'
 rw [if_neg (λhh=>by cases hh.1),if_neg (by decide),gd] at hB'
 unfold Lq at hB'
 obtain ⟨s,hs'⟩:∃ s,s=flo o.i.y t.st.toNat:=⟨_,rfl⟩
 rw [<- hs'] at hB' hfl
 refine ⟨λvs h3=>vs=[.int .i64 s]/\h3=h2,?_,?_⟩
 ·obtain ⟨a,ha,cell⟩:=l3 (rdS H) ho
  refine fH (by omega) (iJ ha ?_)
  rw [fD]
  refine fz (cell 1 _ rfl) (fz (c10 H rfl) ?_)
  rw [<- hstI]
  exact CH hstl ⟨_,rfl,by rw [hs'],rfl⟩
 rintro h3 u sv ⟨hxx,rfl⟩
 injection hxx with hx1 hxx
 injection hx1 with _ hx1
 subst sv
 have hw1:=ow 14337 0 (s-ah) false
 have hw2:=ow 14337 512 (o.i.x-fi) false
 refine ⟨λvs h'=>∃ r rest,Hp hB [] h' (jI A r (cdL 14337 (B++nY 14337 0 (s-ah) false)) rest++Y),?_,?_⟩
 ·refine fw ((s-ah)) (by exact i64_in _ (by omega) (by omega)) ?_
  refine vG λh e=>⟨_,_,rfl,?_⟩
  have H:=H.ext e
  exact uT H (by omega) (by omega) (.inr (by omega)) λr' rest' h' H=>⟨_,rfl,r',rest',H⟩
 clear H
 rintro h u ⟨r,rest,H⟩
 refine ⟨λvs h'=>vs=[.int .i64 s]/\h'=h,⟨rfl,rfl⟩,?_⟩
 rintro h2 u sv ⟨hxx,rfl⟩
 injection hxx with hx1 hxx
 injection hx1 with _ hx1
 subst sv
 refine ⟨λvs h'=>vs=[.int .i64 fi]/\h'=h2,⟨rfl,rfl⟩,?_⟩
 rintro h u sv ⟨hxx,rfl⟩
 injection hxx with hx1 hxx
 injection hx1 with _ hx1
 subst sv
 refine ⟨λm' vs h'=>∃ (j:Nat) (fx x:Int) (B:List (Nat × Nat)) (r:Nat) (rest:List Value),k+j+m'=S.length/\vs=[.int .i64 fx,.int .i64 ((k+j:Nat):Int),.int .i64 x,.int .i64 (j:Nat)]/\(-1048576<=fx/\fx<=1048576)/\(-1048576<=x/\x<=1048576) /\
   (j=0->fx=fi/\B++(nY 14337 512 (o.i.x-fi) false++(rL t sy o.i++m7 t sy (S.drop (k+1)) s o.i.x o.i.x true))=T)/\(j≠0->B++m7 t sy (S.drop (k+j)) s fx x true=T) /\
   Hp hB [] h' (jI A r (cdL 14337 B) rest++Y),⟨S.length-k,0,fi,fi,_,r,rest,by omega,rfl,by omega,by omega,λ_=>⟨rfl,by rw [<- hB']; simp only [fC]⟩,λhh=>absurd rfl hh,H⟩,?_⟩
 clear H hB' hw1 hBT
 rintro m' h u xf xk xx xn ⟨j,fx,x,B,r,rest,hkm',hxx,hfx,hx',hj0,hj1,H⟩
 injection hxx with hx1 hxx
 injection hxx with hx2 hxx
 injection hxx with hx3 hxx
 injection hxx with hx4 hxx
 injection hx1 with _ hx1
 injection hx2 with _ hx2
 injection hx3 with _ hx3
 injection hx4 with _ hx4
 subst xf xk xx xn
 have hBT:B.length<=T.length:=by
  by_cases hj:j=0
  ·rw [<- (hj0 hj).2,fA]
   omega
  ·rw [<- hj1 hj,fA]
   omega
 have fin:∀ {h:Heap},j≠0->(∀ i,(S.drop (k+j))[0]? = some i->flo i.y t.st.toNat≠s)->Hp hB [] h (jI A r (cdL 14337 B) rest++Y)->CP jZ #[.pointer (at0 A.p),.int .i64 1024,.agg #[.int .i64 0,.bool true]] h (λv_196 h_197 =>
   ∃ (r_198:Int),v_196 = .int .i64 r_198/\(
   ∃ m_133,m_133<m/\∃ (k':Nat) (ah fi x:Int) (B:List (Nat × Nat)) (r:Nat) (rest:List Value),k'+m_133=S.length/\[Value.int .i64 s,.int .i64 fx,.int .i64 ((k+j:Nat):Int)]=[Value.int .i64 ah,.int .i64 fi,.int .i64 (k':Nat)]/\(-1048576<=ah/\ah<=1048576)/\(-1048576<=fi/\fi<=1048576)/\B++m7 t sy (S.drop k') ah fi x false=T /\
    Hp hB [] h_197 (jI A r (cdL 14337 B) rest++Y))) Kp:=λ{h} hj hcl H=>by
  have hq:=hj1 hj
  refine uT H (by omega) (by omega) (.inl rfl) λr' rest' h' H=>⟨_,rfl,S.length-(k+j),by omega,k+j,s,fx,x,_,r',rest',by omega,rfl,by omega,by omega,?_,H⟩
  rw [By hcl,<- fC] at hq
  exact hq
 refine ⟨λvs h2=>h2=h/\k+j<S.length/\∀ i,S[k+j]? = some i->flo i.y t.st.toNat=s,?_,?_⟩
 ·refine fL (λh5=>?_) λh5=>?_
  rotate_left
  ·refine fin (by omega) (λi hh=>?_) H
   rw [yH (by omega)] at hh
   cases hh
  obtain ⟨o',ho'⟩:∃ o,O[k+j]? = some o:=⟨_,fP (by omega)⟩
  have hoS':S[k+j]? = some o'.i:=by rw [<- hOS,gL,ho']; rfl
  obtain ⟨a,ha,cell⟩:=l3 (rdS H) ho'
  refine fH (by omega) (iJ ha ?_)
  rw [fD]
  refine fz (cell 1 _ rfl) (fz (c10 H rfl) ?_)
  rw [<- hstI]
  refine CH hstl ⟨_,rfl,?_⟩
  refine iA (λh6=>?_) λh6=>?_
  ·refine ⟨rfl,by omega,λi hi=>?_⟩
   rw [hoS'] at hi
   injection hi with hi
   subst hi
   exact h6
  ·refine fin (λhj=>?_) (λi hh=>?_) H
   ·subst hj
    rw [gr,hoS] at hoS'
    injection hoS' with hoS'
    rw [<- hoS'] at h6
    exact h6 hs'.symm
   ·rw [th hoS'] at hh
    injection hh with hh
    subst hh
    exact h6
 clear fin
 rintro h2 u ⟨rfl,hkj,hflo⟩
 obtain ⟨o',ho'⟩:∃ o,O[k+j]? = some o:=⟨_,fP (by omega)⟩
 have hoS':S[k+j]? = some o'.i:=by rw [<- hOS,gL,ho']; rfl
 have hflo:=hflo _ hoS'
 have hio':=hSok _ (fS hoS')
 have hxb':=hio'.2.1
 have hdr:=th hoS'
 refine ⟨λvs h'=>∃ (fx':Int) (B:List (Nat × Nat)) (r:Nat) (rest:List Value),vs=[.int .i64 fx',.int .i64 ((k+j+1:Nat):Int),.int .i64 o'.i.x]/\(-1048576<=fx'/\fx'<=1048576)/\B++m7 t sy (S.drop (k+j+1)) s fx' o'.i.x true=T/\Hp hB [] h' (jI A r (cdL 14337 B) rest++Y),?_,?_⟩
 ·refine ⟨λvs h'=>∃ (fx':Int) (B:List (Nat × Nat)) (r:Nat) (rest:List Value),vs=[.int .i64 fx']/\(-1048576<=fx'/\fx'<=1048576)/\B++(rL t sy o'.i++m7 t sy (S.drop (k+j+1)) s fx' o'.i.x true)=T/\Hp hB [] h' (jI A r (cdL 14337 B) rest++Y),?_,?_⟩
  ·refine ⟨λvs h3=>vs=[.bool (((j:Nat):Int) == 0)]/\h3=h2,⟨rfl,rfl⟩,?_⟩
   rintro h3 u bb ⟨hxx,rfl⟩
   injection hxx with hx1 hxx
   injection hx1 with hx1
   subst bb
   refine iA (λh6=>?_) λh6=>?_
   ·obtain rfl:j=0:=by omega
    obtain ⟨rfl,hq⟩:=hj0 rfl
    have hoo:o'=o:=by
     rw [gr,ho] at ho'
     injection ho' with ho'
     exact ho'.symm
    subst hoo
    obtain ⟨a,ha,cell⟩:=l3 (rdS H) ho'
    refine fH (by omega) (iJ ha ?_)
    rw [fD]
    refine fz (cell 0 _ rfl) ?_
    refine fw ((o'.i.x-fx)) (by exact i64_in _ (by omega) (by omega)) ?_
    refine vG λh e=>⟨_,_,rfl,?_⟩
    have H:=H.ext e
    refine uT H (by omega) (by omega) (.inr (by omega)) λr' rest' h' H=>⟨_,rfl,?_⟩
    obtain ⟨a,ha,cell⟩:=l3 (rdS H) ho'
    refine fH (by omega) (iJ ha ?_)
    refine fz (cell 0 _ rfl) ?_
    exact ⟨o'.i.x,_,r',rest',rfl,by omega,by rw [<- hq]; simp only [fC,gr],H⟩
   ·have hq:=hj1 (by omega)
    rw [hdr] at hq
    unfold m7 at hq
    rw [if_pos ⟨rfl,hflo⟩] at hq
    obtain ⟨a,ha,cell⟩:=l3 (rdS H) ho'
    refine fH (by omega) (iJ ha ?_)
    rw [fD]
    refine fz (cell 0 _ rfl) ?_
    refine fw ((o'.i.x-x)) (by exact i64_in _ (by omega) (by omega)) ?_
    refine vG λh e=>⟨_,_,rfl,?_⟩
    have H:=H.ext e
    refine uT H (by omega) (by omega) (.inr (by omega)) λr' rest' h' H=>⟨_,rfl,?_⟩
    exact ⟨fx,_,r',rest',rfl,by omega,by rw [<- hq]; simp only [fC],H⟩
  clear H hj0 hj1 hBT
  rintro h u xf ⟨fx',B,r,rest,hxx,hfx',hq,H⟩
  injection hxx with hx1 hxx
  injection hx1 with _ hx1
  subst xf
  have hBl:B.length+(rL t sy o'.i).length<=T.length:=by rw [<- hq,fA,fA]; omega
  have hpx:o'.i.b.w.toNat*o'.i.b.h.toNat<=1048576:=by
   obtain ⟨W,XX,e1,e2,hWX⟩:=hio'.nat
   rw [e1,e2,fD,fD]
   exact hWX
  obtain ⟨a,ha,cell⟩:=l3 (rdS H) ho'
  refine fH (by omega) (iJ ha ?_)
  rw [fD]
  refine fz (cell 0 _ rfl) (fH (by omega) (iJ ha ?_))
  refine fz (c10 H rfl) (fz (c10 H rfl) (fz (c10 H rfl) (fz (c10 H rfl) (fz (c10 H rfl) (gT (c10 H rfl) (fz (c10 H rfl) (fz (c10 H rfl) (fU (c10 H rfl) ?_))))))))
  refine Nf cell ?_
  rw [<- hflo]
  refine MU H hs hf.1 hsl hst hio' (λH=>rdV (fS ho') H) (by omega) λr rest h H=>?_
  refine fw (((k+j+1:Nat):Int)) (by exact fO _ _ (by omega) (by omega) (by omega)) ?_
  exact ⟨fx',_,r,rest,rfl,hfx',by rw [<- hq]; simp only [fC,hflo],H⟩
 clear H hj0 hj1 hBT
 rintro h u xf xk xx ⟨fx',B,r,rest,hxx,hfx',hq,H⟩
 injection hxx with hx1 hxx
 injection hxx with hx2 hxx
 injection hxx with hx3 hxx
 injection hx1 with _ hx1
 injection hx2 with _ hx2
 injection hx3 with _ hx3
 subst xf xk xx
 refine fw (((j+1:Nat):Int)) (by exact fO _ _ (by omega) (by omega) (by omega)) ?_
 exact ⟨m'-1,by omega,j+1,fx',o'.i.x,B,r,rest,by omega,rfl,hfx',by omega,λhh=>by omega,λ_=>hq,H⟩
end
section
variable {hB:Heap} {K:VK} {Kp:PK}
set_option maxHeartbeats 2000000 in
theorem F4 {a b:Option Addr} {ac bc n:Nat} {l:List Ins} (hn:l.length=n) (hn2:n<=1000000) (ha:rj hB a l) (hb:rj hB b l) (hk:∀ h',gi hB h'->K (.bool true) h'):CP j8 #[.slice a n ac,.slice b n bc] hB K Kp:=by
 subst hn
 refine u4 ?_
 unfold n7
 obtain ⟨O,hO,hro,hvw⟩:=ha
 obtain ⟨O',hO',hro',hvw'⟩:=hb
 have hOl:O.length=l.length:=by rw [<- hO,iu]
 have hOl':O'.length=l.length:=by rw [<- hO',iu]
 refine jg (λhh=>absurd rfl hh) λ_=>?_
 refine ⟨λm vs h'=>∃ i:Nat,i+m=l.length/\vs=[.int .i64 (i:Nat)]/\gi hB h',⟨l.length,0,by omega,rfl,gi.refl _⟩,?_⟩
 rintro m h u xi ⟨i,him,hxx,e⟩
 injection hxx with hx1 hxx
 injection hx1 with _ hx1
 subst xi
 refine fL (λh1=>?_) λh1=>hk _ e
 obtain ⟨o,ho⟩:∃ o,O[i]? = some o:=⟨_,fP (by omega)⟩
 obtain ⟨o',ho'⟩:∃ o,O'[i]? = some o:=⟨_,fP (by omega)⟩
 have hoo:o'.i=o.i:=by
  have h1:l[i]? = some o.i:=by rw [<- hO,gL,ho]; rfl
  have h2:l[i]? = some o'.i:=by rw [<- hO',gL,ho']; rfl
  rw [h1] at h2
  injection h2 with h2
  exact h2.symm
 obtain ⟨p,hp,cell⟩:=l3 (oa e hro) ho
 obtain ⟨p',hp',cell'⟩:=l3 (oa e hro') ho'
 have hnk:0<=((i:Nat):Int)/\((i:Nat):Int)<((l.length:Nat):Int):=by omega
 refine fH hnk (iJ hp (fH hnk (iJ hp' ?_)))
 rw [fD]
 refine fz (cell 0 _ rfl) (fz (cell' 0 _ rfl) ?_)
 rw [hoo]
 refine jg (λhh=>absurd rfl hh) λ_=>?_
 refine fH hnk (iJ hp (fH hnk (iJ hp' ?_)))
 refine fz (cell 1 _ rfl) (fz (cell' 1 _ rfl) ?_)
 rw [hoo]
 refine jg (λhh=>absurd rfl hh) λ_=>?_
 refine fH hnk (iJ hp (fH hnk (iJ hp' ?_)))
 refine fz (cell 2 _ rfl) (fz (cell' 2 _ rfl) ?_)
 rw [hoo]
 refine jg (λhh=>absurd rfl hh) λ_=>?_
 refine fH hnk (iJ hp (fH hnk (iJ hp' ?_)))
 refine gT (cell 3 _ rfl) (gT (cell' 3 _ rfl) ?_)
 rw [hoo]
 refine fZ (by simp) ?_
 refine fH hnk (iJ hp (fH hnk (iJ hp' ?_)))
 rw [add_zero',add_zero',tm _ 4 1,tm _ 4 1,tm _ 4 2,tm _ 4 2]
 refine fz (cell 4 _ rfl) (fz (cell 5 _ rfl) (fU (cell 6 _ rfl) ?_))
 refine fz (cell' 4 _ rfl) (fz (cell' 5 _ rfl) (fU (cell' 6 _ rfl) ?_))
 have w1:=(hvw o (fS ho)).ext e
 have w2:=(hvw' o' (fS ho')).ext e
 refine F5 (xs:=o.i.b.ws) (ys:=o'.i.b.ws) w1.r w2.r w1.l λh' e'=>⟨_,rfl,?_⟩
 rw [hoo]
 refine fZ (by simp) ?_
 refine fw (((i+1:Nat):Int)) (by exact fO _ _ (by omega) (by omega) (by omega)) ?_
 exact ⟨m-1,by omega,i+1,by omega,rfl,e.trans e'⟩
theorem Np {t:Reg14} {a b:Option Addr} {ac bc n:Nat} {l:List Ins} (hn:l.length=n) (hn2:n<=1000000) (ha:rj hB a l) (hb:rj hB b l) (hk:∀ h',gi hB h'->K (.bool true) h'):CP mD #[t.ag a n ac,t.ag b n bc] hB K Kp:=by
 refine yS ?_
 unfold sm
 have H:=Hp.nil hB []
 refine fV H λr19 h H=>?_
 refine fV H λr21 h H=>?_
 have H:Hp hB [] h [⟨r19,true,fR,t.cs a n ac⟩,⟨r21,true,fR,t.cs b n bc⟩]:=H
 refine fz (hpA H 0 rfl rfl) (fz (hpA H 1 rfl rfl) (iA (λ_=>?_) λhh=>absurd rfl hh))
 refine fz (hpA H 0 rfl rfl) (fz (hpA H 1 rfl rfl) (iA (λ_=>?_) λhh=>absurd rfl hh))
 refine fz (hpA H 0 rfl rfl) (fz (hpA H 1 rfl rfl) (iA (λ_=>?_) λhh=>absurd rfl hh))
 refine fz (hpA H 0 rfl rfl) (fz (hpA H 1 rfl rfl) (iA (λ_=>?_) λhh=>absurd rfl hh))
 refine fz (hpA H 0 rfl rfl) (fz (hpA H 1 rfl rfl) (iA (λ_=>?_) λhh=>absurd rfl hh))
 refine gT (hpA H 0 rfl rfl) (gT (hpA H 1 rfl rfl) (gN (by simp) ?_))
 refine fz (hpA H 0 rfl rfl) (fz (hpA H 1 rfl rfl) (iA (λ_=>?_) λhh=>absurd rfl hh))
 refine fz (hpA H 0 rfl rfl) (fz (hpA H 1 rfl rfl) (iA (λ_=>?_) λhh=>absurd rfl hh))
 refine fU (hpA H 0 rfl rfl) (fU (hpA H 1 rfl rfl) ?_)
 exact F4 hn hn2 (ha.ext H.gi) (hb.ext H.gi) λh' e=>⟨_,rfl,hk _ (H.gi.trans e)⟩
end
end Go.Bm
namespace Go.Den.YtbknfejmdekhpaaGreat
open Go Go.Den
def nB (C:gl) (l:Option Addr) (ln lc:Nat) (h:Heap) (K:VK) (Kp:PK):Prop :=
∃ aa:Nat->List Value->Heap->Prop,(∃ R,aa R [.int .i64 0] h)/\∀ (R:Nat) (w:Heap) (fu:Nat->Value) (a:Int),aa R [.int .i64 a] w->(
fI (decide (a<(ln:Int))) (
fI (decide (a<(4:Int))) (
fW (0<=a/\a<(ln:Int))<|
ptr l λH=>
ldI w ((H.add (a.toNat*10)).add 0) .i64 λfo=>
ldI w ((H.add (a.toNat*10)).add 1) .i64 λfp=>
ldI w ((H.add (a.toNat*10)).add 2) .i64 λep=>
ldI w ((H.add (a.toNat*10)).add 3) .i64 λeq=>
ldI w ((H.add (a.toNat*10)).add 4) .i64 λer=>
ldB w ((H.add (a.toNat*10)).add 5) λes=>
ldI w ((H.add (a.toNat*10)).add 6) .i64 λet=>
ldI w ((H.add (a.toNat*10)).add 7) .i64 λeu=>
ldS w ((H.add (a.toNat*10)).add 8) λev b2 b3=>
ldS w ((H.add (a.toNat*10)).add 9) λew b4 b5=>
C qf #[.agg #[.int .i64 fo,.int .i64 fp,.int .i64 ep,.int .i64 eq,.int .i64 er,.bool es,.int .i64 et,.int .i64 eu,.slice ev b2 b3,.slice ew b4 b5]] w (λex u=>
∃ (bh:Bool),ex = .bool bh/\(
fI (!bh) (
fG (IntKind.i64.wrap (a+(1:Int))) λey=>
∃ L,L<R/\aa L [.int .i64 ey] u)<|
fW (0<=a/\a<(ln:Int))<|
ptr l λz=>
ldI u (((z.add (a.toNat*10)).add 0).add 0) .i64 λez=>
ldI u (((z.add (a.toNat*10)).add 0).add 1) .i64 λeA=>
ldI u (((z.add (a.toNat*10)).add 0).add 2) .i64 λeB=>
ldI u (((z.add (a.toNat*10)).add 0).add 3) .i64 λeC=>
ldI u (((z.add (a.toNat*10)).add 0).add 4) .i64 λeD=>
ldB u (((z.add (a.toNat*10)).add 0).add 5) λeE=>
ldI u (((z.add (a.toNat*10)).add 0).add 6) .i64 λeF=>
ldI u (((z.add (a.toNat*10)).add 0).add 7) .i64 λeG=>
ldS u (((z.add (a.toNat*10)).add 0).add 8) λeH b6 b7=>
C mS #[.agg #[.int .i64 ez,.int .i64 eA,.int .i64 eB,.int .i64 eC,.int .i64 eD,.bool eE,.int .i64 eF,.int .i64 eG,.slice eH b6 b7]] u (λeI eJ=>
∃ (bi bj bk bl bm:Int) (bn:Bool) (bo bp:Int) (bq:Option Addr) (aw ax:Nat),eI = .agg #[.int .i64 bi,.int .i64 bj,.int .i64 bk,.int .i64 bl,.int .i64 bm,.bool bn,.int .i64 bo,.int .i64 bp,.slice bq aw ax]/\(
gE eJ [.int .i64 0,.int .i64 0,.int .i64 0,.int .i64 0,.int .i64 0,.bool false,.int .i64 0,.int .i64 0,.slice none 0 0] fR λb eK=>
qH eK (⟨b,0,none⟩:Addr) 0 [.int .i64 bi,.int .i64 bj,.int .i64 bk,.int .i64 bl,.int .i64 bm,.bool bn,.int .i64 bo,.int .i64 bp,.slice bq aw ax] λbr=>
fW (0<=a/\a<(ln:Int))<|
ptr l λeL=>
ldS br ((eL.add (a.toNat*10)).add 9) λeM b8 b9=>
C nf #[.slice eM b8 b9] br (λeN x=>
∃ (Q:Option Addr) (I J:Nat),eN = .slice Q I J/\(
ldI x (.add ⟨b,0,none⟩ 0) .i64 λeO=>
ldI x (.add ⟨b,0,none⟩ 1) .i64 λeP=>
ldI x (.add ⟨b,0,none⟩ 2) .i64 λeQ=>
ldI x (.add ⟨b,0,none⟩ 3) .i64 λeR=>
ldI x (.add ⟨b,0,none⟩ 4) .i64 λeS=>
ldB x (.add ⟨b,0,none⟩ 5) λeT=>
ldI x (.add ⟨b,0,none⟩ 6) .i64 λeU=>
ldI x (.add ⟨b,0,none⟩ 7) .i64 λeV=>
ldS x (.add ⟨b,0,none⟩ 8) λeW ca cb=>
C s3 #[.agg #[.int .i64 eO,.int .i64 eP,.int .i64 eQ,.int .i64 eR,.int .i64 eS,.bool eT,.int .i64 eU,.int .i64 eV,.slice eW ca cb],.slice Q I J] x (λeX v=>
∃ (ap:Option Addr) (S T:Nat),∃ (aq:Int),eX = .tuple #[.slice ap S T,.int .i64 aq]/\(
fW (0<=a/\a<(ln:Int))<|
ptr l λA=>
fW (0<=a/\a<(ln:Int))<|
ptr l λeY=>
ldI v (((A.add (a.toNat*10)).add 0).add 0) .i64 λeZ=>
ldI v (((A.add (a.toNat*10)).add 0).add 1) .i64 λe0=>
ldI v (((A.add (a.toNat*10)).add 0).add 2) .i64 λe1=>
ldI v (((A.add (a.toNat*10)).add 0).add 3) .i64 λe2=>
ldI v (((A.add (a.toNat*10)).add 0).add 4) .i64 λe3=>
ldB v (((A.add (a.toNat*10)).add 0).add 5) λe4=>
ldI v (((A.add (a.toNat*10)).add 0).add 6) .i64 λe5=>
ldI v (((A.add (a.toNat*10)).add 0).add 7) .i64 λe6=>
ldS v (((A.add (a.toNat*10)).add 0).add 8) λe7 cc cd=>
ldS v ((eY.add (a.toNat*10)).add 9) λe8 ce cf=>
C px #[.agg #[.int .i64 eZ,.int .i64 e0,.int .i64 e1,.int .i64 e2,.int .i64 e3,.bool e4,.int .i64 e5,.int .i64 e6,.slice e7 cc cd],.slice e8 ce cf] v (λe9 y=>
∃ (ar:Option Addr) (U V:Nat),∃ (au:Int),e9 = .tuple #[.slice ar U V,.int .i64 au]/\(
ldI y (.add ⟨b,0,none⟩ 0) .i64 λfa=>
ldI y (.add ⟨b,0,none⟩ 1) .i64 λfb=>
ldI y (.add ⟨b,0,none⟩ 2) .i64 λfc=>
ldI y (.add ⟨b,0,none⟩ 3) .i64 λfd=>
ldI y (.add ⟨b,0,none⟩ 4) .i64 λfe=>
ldB y (.add ⟨b,0,none⟩ 5) λff=>
ldI y (.add ⟨b,0,none⟩ 6) .i64 λfg=>
ldI y (.add ⟨b,0,none⟩ 7) .i64 λfh=>
ldS y (.add ⟨b,0,none⟩ 8) λfi cg ch=>
C tp #[.agg #[.int .i64 fa,.int .i64 fb,.int .i64 fc,.int .i64 fd,.int .i64 fe,.bool ff,.int .i64 fg,.int .i64 fh,.slice fi cg ch],.slice Q I J] y (λfj fk=>
∃ (bs bt:Int) (bu:Option Addr) (ay az:Nat),∃ (av:Int),fj = .tuple #[.agg #[.int .i64 bs,.int .i64 bt,.slice bu ay az],.int .i64 av]/\(
gE fk [.int .i64 0,.int .i64 0,.slice none 0 0] fK λB fl=>
stV fl (.add ⟨B,0,none⟩ 0) (.int .i64 bs) λfm=>
stV fm (.add ⟨B,0,none⟩ 1) (.int .i64 bt) λfn=>
stV fn (.add ⟨B,0,none⟩ 2) (.slice bu ay az) λg=>
fW (0<=a/\a<(ln:Int))<|
ptr l λk=>
fW (0<=a/\a<(ln:Int))<|
ptr l λci=>
ldI g (((k.add (a.toNat*10)).add 0).add 0) .i64 λaA=>
ldI g (((k.add (a.toNat*10)).add 0).add 1) .i64 λaB=>
ldI g (((k.add (a.toNat*10)).add 0).add 2) .i64 λaC=>
ldI g (((k.add (a.toNat*10)).add 0).add 3) .i64 λaD=>
ldI g (((k.add (a.toNat*10)).add 0).add 4) .i64 λaE=>
ldB g (((k.add (a.toNat*10)).add 0).add 5) λaF=>
ldI g (((k.add (a.toNat*10)).add 0).add 6) .i64 λaG=>
ldI g (((k.add (a.toNat*10)).add 0).add 7) .i64 λaH=>
ldS g (((k.add (a.toNat*10)).add 0).add 8) λaI ab ac=>
ldS g ((ci.add (a.toNat*10)).add 9) λaJ ad ae=>
(
C mR #[.agg #[.int .i64 aA,.int .i64 aB,.int .i64 aC,.int .i64 aD,.int .i64 aE,.bool aF,.int .i64 aG,.int .i64 aH,.slice aI ab ac],.slice aJ ad ae] g (λcj aK=>
∃ (aL aM:Int) (aN:Option Addr) (af ag:Nat),∃ (aO:Int),cj = .tuple #[.agg #[.int .i64 aL,.int .i64 aM,.slice aN af ag],.int .i64 aO]/\(
gi g aK/\(
gE aK [.int .i64 0,.int .i64 0,.slice none 0 0] fK λF ck=>
stV ck (.add ⟨F,0,none⟩ 0) (.int .i64 aL) λcl=>
stV cl (.add ⟨F,0,none⟩ 1) (.int .i64 aM) λcm=>
stV cm (.add ⟨F,0,none⟩ 2) (.slice aN af ag) λi=>
ldI i (.add ⟨b,0,none⟩ 0) .i64 λcn=>
ldI i (.add ⟨b,0,none⟩ 1) .i64 λco=>
ldI i (.add ⟨b,0,none⟩ 2) .i64 λcp=>
ldI i (.add ⟨b,0,none⟩ 3) .i64 λcq=>
ldI i (.add ⟨b,0,none⟩ 4) .i64 λcr=>
ldB i (.add ⟨b,0,none⟩ 5) λcs=>
ldI i (.add ⟨b,0,none⟩ 6) .i64 λct=>
ldI i (.add ⟨b,0,none⟩ 7) .i64 λcu=>
ldS i (.add ⟨b,0,none⟩ 8) λcv bv bw=>
C ml #[.agg #[.int .i64 cn,.int .i64 co,.int .i64 cp,.int .i64 cq,.int .i64 cr,.bool cs,.int .i64 ct,.int .i64 cu,.slice cv bv bw]] i (λcw aP=>
∃ (M:Option Addr) (D ah:Nat),cw = .slice M D ah/\(
fI (aq != au) (
K (.bool false) aP)<|
C oM #[.slice ap S T,.slice ar U V] aP (λcx m=>
∃ (aQ:Bool),cx = .bool aQ/\(
fI (!aQ) (
K (.bool false) m)<|
fI (av != aO) (
K (.bool false) m)<|
ldI m (.add ⟨B,0,none⟩ 0) .i64 λcy=>
ldI m (.add ⟨B,0,none⟩ 1) .i64 λcz=>
ldS m (.add ⟨B,0,none⟩ 2) λcA bx bz=>
ldI m (.add ⟨F,0,none⟩ 0) .i64 λcB=>
ldI m (.add ⟨F,0,none⟩ 1) .i64 λcC=>
ldS m (.add ⟨F,0,none⟩ 2) λcD bA bB=>
C jy #[.agg #[.int .i64 cy,.int .i64 cz,.slice cA bx bz],.agg #[.int .i64 cB,.int .i64 cC,.slice cD bA bB]] m (λcE e=>
∃ (aR:Bool),cE = .bool aR/\(
fI (!aR) (
K (.bool false) e)<|
fW (0<=a/\a<(ln:Int))<|
ptr l λn=>
ldI e (((n.add (a.toNat*10)).add 0).add 0) .i64 λcF=>
ldI e (((n.add (a.toNat*10)).add 0).add 1) .i64 λcG=>
ldI e (((n.add (a.toNat*10)).add 0).add 2) .i64 λcH=>
ldI e (((n.add (a.toNat*10)).add 0).add 3) .i64 λcI=>
ldI e (((n.add (a.toNat*10)).add 0).add 4) .i64 λcJ=>
ldB e (((n.add (a.toNat*10)).add 0).add 5) λcK=>
ldI e (((n.add (a.toNat*10)).add 0).add 6) .i64 λcL=>
ldI e (((n.add (a.toNat*10)).add 0).add 7) .i64 λcM=>
ldS e (((n.add (a.toNat*10)).add 0).add 8) λcN bC bD=>
C kF #[.agg #[.int .i64 cF,.int .i64 cG,.int .i64 cH,.int .i64 cI,.int .i64 cJ,.bool cK,.int .i64 cL,.int .i64 cM,.slice cN bC bD]] e (λcO cP=>
∃ (aS:Option Addr) (ai aj:Nat),cO = .slice aS ai aj/\(
C j8 #[.slice M D ah,.slice aS ai aj] cP (λcQ aT=>
∃ (aU:Bool),cQ = .bool aU/\(
fI (!aU) (
K (.bool false) aT)<|
∃ W:Nat->List Value->Heap->Prop,(∃ N,W N [.int .i64 0] aT)/\∀ (N:Nat) (c:Heap) (fq:Nat->Value) (o:Int),W N [.int .i64 o] c->(
fI (decide (o<(D:Int))) (
fW (0<=o/\o<(D:Int))<|
ptr M λcR=>
ldS c (((cR.add (o.toNat*7)).add 4).add 2) λcS bE bF=>
C lW #[.slice cS bE bF] c (λfr cT=>
fW (0<=o/\o<(D:Int))<|
ptr M λcU=>
stV cT ((cU.add (o.toNat*7)).add 0) (.int .i64 (-7)) λcV=>
fG (IntKind.i64.wrap (o+(1:Int))) λcW=>
∃ aV,aV<N/\W aV [.int .i64 cW] cV) (Kp))<|
fW (0<=a/\a<(ln:Int))<|
ptr l λp=>
ldI c (.add ⟨b,0,none⟩ 0) .i64 λcX=>
ldI c (.add ⟨b,0,none⟩ 1) .i64 λcY=>
ldI c (.add ⟨b,0,none⟩ 2) .i64 λcZ=>
ldI c (.add ⟨b,0,none⟩ 3) .i64 λc0=>
ldI c (.add ⟨b,0,none⟩ 4) .i64 λc1=>
ldB c (.add ⟨b,0,none⟩ 5) λc2=>
ldI c (.add ⟨b,0,none⟩ 6) .i64 λc3=>
ldI c (.add ⟨b,0,none⟩ 7) .i64 λc4=>
ldS c (.add ⟨b,0,none⟩ 8) λc5 bG bH=>
ldI c (((p.add (a.toNat*10)).add 0).add 0) .i64 λc6=>
ldI c (((p.add (a.toNat*10)).add 0).add 1) .i64 λc7=>
ldI c (((p.add (a.toNat*10)).add 0).add 2) .i64 λc8=>
ldI c (((p.add (a.toNat*10)).add 0).add 3) .i64 λc9=>
ldI c (((p.add (a.toNat*10)).add 0).add 4) .i64 λda=>
ldB c (((p.add (a.toNat*10)).add 0).add 5) λdb=>
ldI c (((p.add (a.toNat*10)).add 0).add 6) .i64 λdc=>
ldI c (((p.add (a.toNat*10)).add 0).add 7) .i64 λdd=>
ldS c (((p.add (a.toNat*10)).add 0).add 8) λde bI bJ=>
C mD #[.agg #[.int .i64 cX,.int .i64 cY,.int .i64 cZ,.int .i64 c0,.int .i64 c1,.bool c2,.int .i64 c3,.int .i64 c4,.slice c5 bG bH],.agg #[.int .i64 c6,.int .i64 c7,.int .i64 c8,.int .i64 c9,.int .i64 da,.bool db,.int .i64 dc,.int .i64 dd,.slice de bI bJ]] c (λdf X=>
∃ (aW:Bool),df = .bool aW/\(
fI (!aW) (
K (.bool false) X)<|
fW (0<=a/\a<(ln:Int))<|
ptr l λdg=>
ldS X ((dg.add (a.toNat*10)).add 9) λdh bK bL=>
C lN #[.slice Q I J,.slice dh bK bL] X (λdi aX=>
∃ (aY:Bool),di = .bool aY/\(
fI (!aY) (
K (.bool false) aX)<|
fG (IntKind.i64.wrap (a+(1:Int))) λdj=>
∃ L,L<R/\aa L [.int .i64 dj] aX)) (Kp))) (Kp)))) (Kp))) (Kp))) (Kp))) (Kp))) (Kp)))) (Kp))/\(
gE g [.int .i64 0,.int .i64 0,.slice none 0 0] fK λG aZ=>
C mR #[.agg #[.int .i64 aA,.int .i64 aB,.int .i64 aC,.int .i64 aD,.int .i64 aE,.bool aF,.int .i64 aG,.int .i64 aH,.slice aI ab ac],.slice aJ ad ae] aZ (λdk a0=>
∃ (a1 a2:Int) (a3:Option Addr) (ak al:Nat),∃ (a4:Int),dk = .tuple #[.agg #[.int .i64 a1,.int .i64 a2,.slice a3 ak al],.int .i64 a4]/\(
gi aZ a0/\(
stV a0 (.add ⟨G,0,none⟩ 0) (.int .i64 a1) λdl=>
stV dl (.add ⟨G,0,none⟩ 1) (.int .i64 a2) λdm=>
stV dm (.add ⟨G,0,none⟩ 2) (.slice a3 ak al) λj=>
ldI j (.add ⟨b,0,none⟩ 0) .i64 λdn=>
ldI j (.add ⟨b,0,none⟩ 1) .i64 λdp=>
ldI j (.add ⟨b,0,none⟩ 2) .i64 λdq=>
ldI j (.add ⟨b,0,none⟩ 3) .i64 λdr=>
ldI j (.add ⟨b,0,none⟩ 4) .i64 λds=>
ldB j (.add ⟨b,0,none⟩ 5) λdt=>
ldI j (.add ⟨b,0,none⟩ 6) .i64 λdu=>
ldI j (.add ⟨b,0,none⟩ 7) .i64 λdv=>
ldS j (.add ⟨b,0,none⟩ 8) λdw bM bN=>
C ml #[.agg #[.int .i64 dn,.int .i64 dp,.int .i64 dq,.int .i64 dr,.int .i64 ds,.bool dt,.int .i64 du,.int .i64 dv,.slice dw bM bN]] j (λdx a5=>
∃ (O:Option Addr) (E am:Nat),dx = .slice O E am/\(
fI (aq != au) (
K (.bool false) a5)<|
C oM #[.slice ap S T,.slice ar U V] a5 (λdy q=>
∃ (a6:Bool),dy = .bool a6/\(
fI (!a6) (
K (.bool false) q)<|
fI (av != a4) (
K (.bool false) q)<|
ldI q (.add ⟨B,0,none⟩ 0) .i64 λdz=>
ldI q (.add ⟨B,0,none⟩ 1) .i64 λdA=>
ldS q (.add ⟨B,0,none⟩ 2) λdB bO bP=>
ldI q (.add ⟨G,0,none⟩ 0) .i64 λdC=>
ldI q (.add ⟨G,0,none⟩ 1) .i64 λdD=>
ldS q (.add ⟨G,0,none⟩ 2) λdE bQ bR=>
C jy #[.agg #[.int .i64 dz,.int .i64 dA,.slice dB bO bP],.agg #[.int .i64 dC,.int .i64 dD,.slice dE bQ bR]] q (λdF f=>
∃ (a7:Bool),dF = .bool a7/\(
fI (!a7) (
K (.bool false) f)<|
fW (0<=a/\a<(ln:Int))<|
ptr l λr=>
ldI f (((r.add (a.toNat*10)).add 0).add 0) .i64 λdG=>
ldI f (((r.add (a.toNat*10)).add 0).add 1) .i64 λdH=>
ldI f (((r.add (a.toNat*10)).add 0).add 2) .i64 λdI=>
ldI f (((r.add (a.toNat*10)).add 0).add 3) .i64 λdJ=>
ldI f (((r.add (a.toNat*10)).add 0).add 4) .i64 λdK=>
ldB f (((r.add (a.toNat*10)).add 0).add 5) λdL=>
ldI f (((r.add (a.toNat*10)).add 0).add 6) .i64 λdM=>
ldI f (((r.add (a.toNat*10)).add 0).add 7) .i64 λdN=>
ldS f (((r.add (a.toNat*10)).add 0).add 8) λdO bS bT=>
C kF #[.agg #[.int .i64 dG,.int .i64 dH,.int .i64 dI,.int .i64 dJ,.int .i64 dK,.bool dL,.int .i64 dM,.int .i64 dN,.slice dO bS bT]] f (λdP dQ=>
∃ (a8:Option Addr) (an ao:Nat),dP = .slice a8 an ao/\(
C j8 #[.slice O E am,.slice a8 an ao] dQ (λdR a9=>
∃ (ba:Bool),dR = .bool ba/\(
fI (!ba) (
K (.bool false) a9)<|
∃ Y:Nat->List Value->Heap->Prop,(∃ P,Y P [.int .i64 0] a9)/\∀ (P:Nat) (d:Heap) (fs:Nat->Value) (s:Int),Y P [.int .i64 s] d->(
fI (decide (s<(E:Int))) (
fW (0<=s/\s<(E:Int))<|
ptr O λdS=>
ldS d (((dS.add (s.toNat*7)).add 4).add 2) λdT bU bV=>
C lW #[.slice dT bU bV] d (λft dU=>
fW (0<=s/\s<(E:Int))<|
ptr O λdV=>
stV dU ((dV.add (s.toNat*7)).add 0) (.int .i64 (-7)) λdW=>
fG (IntKind.i64.wrap (s+(1:Int))) λdX=>
∃ bb,bb<P/\Y bb [.int .i64 dX] dW) (Kp))<|
fW (0<=a/\a<(ln:Int))<|
ptr l λt=>
ldI d (.add ⟨b,0,none⟩ 0) .i64 λdY=>
ldI d (.add ⟨b,0,none⟩ 1) .i64 λdZ=>
ldI d (.add ⟨b,0,none⟩ 2) .i64 λd0=>
ldI d (.add ⟨b,0,none⟩ 3) .i64 λd1=>
ldI d (.add ⟨b,0,none⟩ 4) .i64 λd2=>
ldB d (.add ⟨b,0,none⟩ 5) λd3=>
ldI d (.add ⟨b,0,none⟩ 6) .i64 λd4=>
ldI d (.add ⟨b,0,none⟩ 7) .i64 λd5=>
ldS d (.add ⟨b,0,none⟩ 8) λd6 bW bX=>
ldI d (((t.add (a.toNat*10)).add 0).add 0) .i64 λd7=>
ldI d (((t.add (a.toNat*10)).add 0).add 1) .i64 λd8=>
ldI d (((t.add (a.toNat*10)).add 0).add 2) .i64 λd9=>
ldI d (((t.add (a.toNat*10)).add 0).add 3) .i64 λea=>
ldI d (((t.add (a.toNat*10)).add 0).add 4) .i64 λeb=>
ldB d (((t.add (a.toNat*10)).add 0).add 5) λec=>
ldI d (((t.add (a.toNat*10)).add 0).add 6) .i64 λed=>
ldI d (((t.add (a.toNat*10)).add 0).add 7) .i64 λee=>
ldS d (((t.add (a.toNat*10)).add 0).add 8) λef bY bZ=>
C mD #[.agg #[.int .i64 dY,.int .i64 dZ,.int .i64 d0,.int .i64 d1,.int .i64 d2,.bool d3,.int .i64 d4,.int .i64 d5,.slice d6 bW bX],.agg #[.int .i64 d7,.int .i64 d8,.int .i64 d9,.int .i64 ea,.int .i64 eb,.bool ec,.int .i64 ed,.int .i64 ee,.slice ef bY bZ]] d (λeg Z=>
∃ (bc:Bool),eg = .bool bc/\(
fI (!bc) (
K (.bool false) Z)<|
fW (0<=a/\a<(ln:Int))<|
ptr l λeh=>
ldS Z ((eh.add (a.toNat*10)).add 9) λei b0 b1=>
C lN #[.slice Q I J,.slice ei b0 b1] Z (λej bd=>
∃ (be:Bool),ej = .bool be/\(
fI (!be) (
K (.bool false) bd)<|
fG (IntKind.i64.wrap (a+(1:Int))) λek=>
∃ L,L<R/\aa L [.int .i64 ek] bd)) (Kp))) (Kp)))) (Kp))) (Kp))) (Kp))) (Kp))) (Kp)))) (Kp)))) (Kp))) (Kp))) (Kp))) (Kp))) (Kp))) (Kp))<|
C nE #[] w (λel em=>
∃ (bf:Bool),el = .bool bf/\(
K (.bool bf) em)) (Kp))<|
C nE #[] w (λen eo=>
∃ (bg:Bool),en = .bool bg/\(
K (.bool bg) eo)) (Kp))
theorem ur {l:Option Addr} {ln lc:Nat} {h:Heap} {K:VK} {Kp:PK} (H:nB QP l ln lc h K Kp):QP pK #[.slice l ln lc] h K Kp :=
 fJ (Hints.mk (λi=>bif Nat.beq i 8 then some ([10],.take 0 <| .take 1 <| .take 2 <| .take 3 <| .take 5 <| .take 6 <| .take 7 <| .take 8 <| .take 4 <| .take 9 <| .bar 10 [] <| .take 11 <| .take 12 <| .take 13 <| .take 14 <| .take 15 <| .done) else (bif Nat.beq i 10 then some ([15],.take 0 <| .take 1 <| .take 2 <| .take 3 <| .take 5 <| .take 6 <| .take 7 <| .take 8 <| .take 4 <| .take 9 <| .alt 10 (.take 11 <| .take 12 <| .take 13 <| .go 14 <| .bar 15 [] <| .take 16 <| .done) <| .go 14 <| .go 10 <| .take 11 <| .take 12 <| .take 13 <| .bar 15 [] <| .take 16 <| .done) else (bif Nat.beq i 19 then some ([6,15],.take 1 <| .take 2 <| .take 3 <| .take 4 <| .take 0 <| .take 5 <| .bar 6 [15] <| .take 7 <| .take 8 <| .take 9 <| .take 10 <| .take 11 <| .take 12 <| .take 13 <| .take 14 <| .bar 15 [] <| .take 16 <| .take 17 <| .done) else (none)))) (λi=>bif Nat.beq i 2 then some ([(3,.int .i64)],5708990770823839524233143877797980545530986492) else (bif Nat.beq i 15 then some ([(15,.int .i64)],21777905329440588547171861899750630522880) else (none))) (λi=>none) []) (by kernel_rfl) Go.Proofs.Tryz.func3 (by kernel_rfl) (λC=>nB C l ln lc h K Kp) (λC=>by kernel_rfl) H
end Go.Den.YtbknfejmdekhpaaGreat
namespace Go.Bm
open Go Go.Den Go.Den.YtbknfejmdekhpaaGreat
open Go.Ar (u8s)
theorem GI {h:Heap} {A:Addr} {t:Reg14} {q:Option Addr} {n c:Nat} (cell:∀ j v,(t.cs q n c)[j]? = some v->ic h (A.add j)=some v) {K:Int->Int->Int->Int->Int->Bool->Int->Int->Option Addr->Nat->Nat->Prop}
  (hk:K t.x t.y t.w t.h t.op t.rf t.df t.st q n c) :
  ldI h (A.add 0) .i64 λx0=>ldI h (A.add 1) .i64 λx1=>ldI h (A.add 2) .i64 λx2=>ldI h (A.add 3) .i64 λx3=>ldI h (A.add 4) .i64 λx4=>ldB h (A.add 5) λx5=>ldI h (A.add 6) .i64 λx6=>ldI h (A.add 7) .i64 λx7=>ldS h (A.add 8) λq n c=>K x0 x1 x2 x3 x4 x5 x6 x7 q n c :=
 fz (cell 0 _ rfl) (fz (cell 1 _ rfl) (fz (cell 2 _ rfl) (fz (cell 3 _ rfl) (fz (cell 4 _ rfl) (gT (cell 5 _ rfl) (fz (cell 6 _ rfl) (fz (cell 7 _ rfl) (fU (cell 8 _ rfl) hk))))))))
def Lz (t:Reg14) (sy:List Bmp) (l:List Ins) (w x:Int) (ws:List Nat):Prop :=
 (qz t sy l≠0/\w=0/\x=0/\ws=[])\/(qz t sy l=0/\w=t.w/\x=t.h/\Cf t.w.toNat t.h.toNat (zG t sy (rX t.st.toNat l)) ws)
theorem Lz.eq {t:Reg14} {sy:List Bmp} {l:List Ins} {w x w' x':Int} {ws ws':List Nat} (h:Lz t sy l w x ws) (h':Lz t sy l w' x' ws'):w'=w/\x'=x/\ws'=ws:=by
 rcases h with ⟨a,rfl,rfl,rfl⟩ | ⟨a,rfl,rfl,b⟩
 ·rcases h' with ⟨_,rfl,rfl,rfl⟩ | ⟨a',_⟩
  ·exact ⟨rfl,rfl,rfl⟩
  ·exact absurd a' a
 ·rcases h' with ⟨a',_⟩ | ⟨_,rfl,rfl,b'⟩
  ·exact absurd a a'
  ·exact ⟨rfl,rfl,b'.eq b⟩
theorem Lz.len {t:Reg14} {sy:List Bmp} {l:List Ins} {w x:Int} {ws:List Nat} (h:Lz t sy l w x ws):ws.length<=1048576:=by
 rcases h with ⟨_,_,_,rfl⟩ | ⟨a,_,_,b⟩
 ·exact km _
 ·obtain ⟨W,X,e1,e2,hW1,hW2,hX1,hX2,hWX⟩:=jf (uE a).1.2.1.1
  rw [b.1,e1,e2,fD,fD]
  exact rR hW1 hWX
theorem Ph {t:Reg14} {sy:List Bmp} {l:List Ins}:(yK t sy l).length<=100000000:=by
 by_cases h:qz t sy l=0
 ·rw [EZ h]
  obtain ⟨hf,h1,h2,h3⟩:=uE h
  have:=Co hf h1 h2 h3
  have:=w7 t l.length
  unfold s7
  rw [fA]
  omega
 ·rw [J9 h]
  exact km _
section
variable {hB:Heap} {K:VK} {Kp:PK} {t:Reg14} {q q2:Option Addr} {c c2:Nat} {sy:List Bmp} {l:List Ins}
theorem MI (hv:rj hB q l) (hs:o7 hB q2 sy) (hl:l.length<=1000000) (hsl:sy.length<=1000000000000)
  (hk:∀ w x ws D qo co h',Lz t sy l w x ws->Slot gj 1 D qo ws.length co (il ws)->Hp hB [] h' D->K (.tuple #[.agg #[.int .i64 w,.int .i64 x,.slice qo ws.length co],.int .i64 (qz t sy l)]) h') :
  CP tp #[t.ag q l.length c,.slice q2 sy.length c2] hB K Kp :=
 Jd hv hs hl hsl (λh' h1 e=>hk 0 0 [] [] none 0 h' (.inl ⟨h1,rfl,rfl,rfl⟩) (Slot.nil _ _) ((Hp.nil hB []).ext e)) λR D qo co h' h1 hp hs H=>by
  have:=hk t.w t.h R D qo co h' (.inr ⟨h1,rfl,rfl,hp⟩) hs H
  rwa [h1] at this
theorem He (hv:rj hB q l) (hs:o7 hB q2 sy) (hl:l.length<=1000000) (hsl:sy.length<=1000000000000)
  (hk:∀ w x ws D qo co h',Lz t sy l w x ws->Slot gj 1 D qo ws.length co (il ws)->Hp hB [] h' D->K (.tuple #[.agg #[.int .i64 w,.int .i64 x,.slice qo ws.length co],.int .i64 (qz t sy l)]) h') :
  CP mR #[t.ag q l.length c,.slice q2 sy.length c2] hB K Kp :=
 KP hv hs hl hsl (λh' h1 e=>hk 0 0 [] [] none 0 h' (.inl ⟨h1,rfl,rfl,rfl⟩) (Slot.nil _ _) ((Hp.nil hB []).ext e)) λR D qo co h' h1 hp hs H=>by
  have:=hk t.w t.h R D qo co h' (.inr ⟨h1,rfl,rfl,hp⟩) hs H
  rwa [h1] at this
set_option maxHeartbeats 8000000 in
theorem G1 {h:Heap} {a:Addr} {sq:Option Addr} {i slen n r43 r95 rP:Nat} {J:Nat->List Value->Heap->Prop} {p1 p2 qe1 qe2 q5 q6:Option Addr} {d1 d2 ce1 ce2 c5 c6:Nat} {R1 R2 D1 D2 P1 P2 V:List Ent} {w x:Int} {ws:List Nat}
  (hsq:sq=some a) (hi:i<slen) (hi4:i<4) (cl:∀ {h L} j v,Hp hB [] h L->(t.cs q l.length c++[Value.slice q2 sy.length c2])[j]? = some v->ic h ((a.add (i*10)).add j)=some v)
  (hv:rj hB q l) (hs:o7 hB q2 sy) (hlt:Light14 t sy l) (hL1:ma R1 p1 d1 l) (hL2:vR R2 p2 d2 sy)
  (hE1:Slot gA 1 D1 qe1 (yK t sy l).length ce1 (u8s (yK t sy l))) (hE2:Slot gA 1 D2 qe2 (yK t sy l).length ce2 (u8s (yK t sy l)))
  (hP1:Slot gj 1 P1 q5 ws.length c5 (il ws)) (hP2:Slot gj 1 P2 q6 ws.length c6 (il ws)) (hwl:ws.length<=1048576)
  (mR1:∀ e∈R1,e∈V) (mR2:∀ e∈R2,e∈V) (mD1:∀ e∈D1,e∈V) (mD2:∀ e∈D2,e∈V) (mP1:∀ e∈P1,e∈V) (mP2:∀ e∈P2,e∈V)
  (H:Hp hB [] h (⟨rP,true,fK,[.int .i64 w,.int .i64 x,.slice q6 ws.length c6]⟩::⟨r95,true,fK,[.int .i64 w,.int .i64 x,.slice q5 ws.length c5]⟩::⟨r43,true,fR,t.cs p1 l.length d1⟩::V))
  (hfin:∀ h' L,Hp hB [] h' L->∃ m_2,m_2<n/\J m_2 [.int .i64 ((i+1:Nat):Int)] h') :
   ldI h ((⟨r43,0,none⟩:Addr).add 0) .i64 λx_123 =>
   ldI h ((⟨r43,0,none⟩:Addr).add 1) .i64 λx_124 =>
   ldI h ((⟨r43,0,none⟩:Addr).add 2) .i64 λx_125 =>
   ldI h ((⟨r43,0,none⟩:Addr).add 3) .i64 λx_126 =>
   ldI h ((⟨r43,0,none⟩:Addr).add 4) .i64 λx_127 =>
   ldB h ((⟨r43,0,none⟩:Addr).add 5) λx_128 =>
   ldI h ((⟨r43,0,none⟩:Addr).add 6) .i64 λx_129 =>
   ldI h ((⟨r43,0,none⟩:Addr).add 7) .i64 λx_130 =>
   ldS h ((⟨r43,0,none⟩:Addr).add 8) λx_131 x_131n x_131c =>
   CP ml #[.agg #[.int .i64 x_123,.int .i64 x_124,.int .i64 x_125,.int .i64 x_126,.int .i64 x_127,.bool x_128,.int .i64 x_129,.int .i64 x_130,.slice x_131 x_131n x_131c]] h (λv_132 h_133 =>
   ∃ (r_134:Option Addr) (r_134n:Nat) (r_134c:Nat),v_132 = .slice r_134 r_134n r_134c/\(
   fI ((qz t sy l) != (qz t sy l)) (
   K (.bool false) h_133) <|
   CP oM #[.slice qe1 (yK t sy l).length ce1,.slice qe2 (yK t sy l).length ce2] h_133 (λv_135 h_136 =>
   ∃ (r_137:Bool),v_135 = .bool r_137/\(
   fI (!r_137) (
   K (.bool false) h_136) <|
   fI ((qz t sy l) != (qz t sy l)) (
   K (.bool false) h_136) <|
   ldI h_136 ((⟨r95,0,none⟩:Addr).add 0) .i64 λx_138 =>
   ldI h_136 ((⟨r95,0,none⟩:Addr).add 1) .i64 λx_139 =>
   ldS h_136 ((⟨r95,0,none⟩:Addr).add 2) λx_140 x_140n x_140c =>
   ldI h_136 ((⟨rP,0,none⟩:Addr).add 0) .i64 λx_141 =>
   ldI h_136 ((⟨rP,0,none⟩:Addr).add 1) .i64 λx_142 =>
   ldS h_136 ((⟨rP,0,none⟩:Addr).add 2) λx_143 x_143n x_143c =>
   CP jy #[.agg #[.int .i64 x_138,.int .i64 x_139,.slice x_140 x_140n x_140c],.agg #[.int .i64 x_141,.int .i64 x_142,.slice x_143 x_143n x_143c]] h_136 (λv_144 h_145 =>
   ∃ (r_146:Bool),v_144 = .bool r_146/\(
   fI (!r_146) (
   K (.bool false) h_145) <|
   fW (0<=((i:Nat):Int)/\((i:Nat):Int)<(slen:Int)) <|
   ptr sq λa_147 =>
   ldI h_145 (((a_147.add (((i:Nat):Int).toNat*10)).add 0).add 0) .i64 λx_148 =>
   ldI h_145 (((a_147.add (((i:Nat):Int).toNat*10)).add 0).add 1) .i64 λx_149 =>
   ldI h_145 (((a_147.add (((i:Nat):Int).toNat*10)).add 0).add 2) .i64 λx_150 =>
   ldI h_145 (((a_147.add (((i:Nat):Int).toNat*10)).add 0).add 3) .i64 λx_151 =>
   ldI h_145 (((a_147.add (((i:Nat):Int).toNat*10)).add 0).add 4) .i64 λx_152 =>
   ldB h_145 (((a_147.add (((i:Nat):Int).toNat*10)).add 0).add 5) λx_153 =>
   ldI h_145 (((a_147.add (((i:Nat):Int).toNat*10)).add 0).add 6) .i64 λx_154 =>
   ldI h_145 (((a_147.add (((i:Nat):Int).toNat*10)).add 0).add 7) .i64 λx_155 =>
   ldS h_145 (((a_147.add (((i:Nat):Int).toNat*10)).add 0).add 8) λx_156 x_156n x_156c =>
   CP kF #[.agg #[.int .i64 x_148,.int .i64 x_149,.int .i64 x_150,.int .i64 x_151,.int .i64 x_152,.bool x_153,.int .i64 x_154,.int .i64 x_155,.slice x_156 x_156n x_156c]] h_145 (λv_157 h_158 =>
   ∃ (r_159:Option Addr) (r_159n:Nat) (r_159c:Nat),v_157 = .slice r_159 r_159n r_159c/\(
   CP j8 #[.slice r_134 r_134n r_134c,.slice r_159 r_159n r_159c] h_158 (λv_160 h_161 =>
   ∃ (r_162:Bool),v_160 = .bool r_162/\(
   fI (!r_162) (
   K (.bool false) h_161) <|
   ∃ J_163:Nat->List Value->Heap->Prop,(∃ n_165,J_163 n_165 [.int .i64 0] h_161)/\∀ (n_165:Nat) (h_166:Heap) (u_167:Nat->Value) (n_168:Int),J_163 n_165 [.int .i64 n_168] h_166->(
   fI (decide (n_168<(r_134n:Int))) (
   fW (0<=n_168/\n_168<(r_134n:Int)) <|
   ptr r_134 λa_169 =>
   ldS h_166 (((a_169.add (n_168.toNat*7)).add 4).add 2) λx_170 x_170n x_170c =>
   CP lW #[.slice x_170 x_170n x_170c] h_166 (λv_171 h_172 =>
   fW (0<=n_168/\n_168<(r_134n:Int)) <|
   ptr r_134 λa_173 =>
   stV h_172 ((a_173.add (n_168.toNat*7)).add 0) (.int .i64 (-7)) λh_174 =>
   fG (IntKind.i64.wrap (n_168+(1:Int))) λz_175 =>
   ∃ m_164,m_164<n_165/\J_163 m_164 [.int .i64 z_175] h_174) (Kp)) <|
   fW (0<=((i:Nat):Int)/\((i:Nat):Int)<(slen:Int)) <|
   ptr sq λa_176 =>
   ldI h_166 ((⟨r43,0,none⟩:Addr).add 0) .i64 λx_177 =>
   ldI h_166 ((⟨r43,0,none⟩:Addr).add 1) .i64 λx_178 =>
   ldI h_166 ((⟨r43,0,none⟩:Addr).add 2) .i64 λx_179 =>
   ldI h_166 ((⟨r43,0,none⟩:Addr).add 3) .i64 λx_180 =>
   ldI h_166 ((⟨r43,0,none⟩:Addr).add 4) .i64 λx_181 =>
   ldB h_166 ((⟨r43,0,none⟩:Addr).add 5) λx_182 =>
   ldI h_166 ((⟨r43,0,none⟩:Addr).add 6) .i64 λx_183 =>
   ldI h_166 ((⟨r43,0,none⟩:Addr).add 7) .i64 λx_184 =>
   ldS h_166 ((⟨r43,0,none⟩:Addr).add 8) λx_185 x_185n x_185c =>
   ldI h_166 (((a_176.add (((i:Nat):Int).toNat*10)).add 0).add 0) .i64 λx_186 =>
   ldI h_166 (((a_176.add (((i:Nat):Int).toNat*10)).add 0).add 1) .i64 λx_187 =>
   ldI h_166 (((a_176.add (((i:Nat):Int).toNat*10)).add 0).add 2) .i64 λx_188 =>
   ldI h_166 (((a_176.add (((i:Nat):Int).toNat*10)).add 0).add 3) .i64 λx_189 =>
   ldI h_166 (((a_176.add (((i:Nat):Int).toNat*10)).add 0).add 4) .i64 λx_190 =>
   ldB h_166 (((a_176.add (((i:Nat):Int).toNat*10)).add 0).add 5) λx_191 =>
   ldI h_166 (((a_176.add (((i:Nat):Int).toNat*10)).add 0).add 6) .i64 λx_192 =>
   ldI h_166 (((a_176.add (((i:Nat):Int).toNat*10)).add 0).add 7) .i64 λx_193 =>
   ldS h_166 (((a_176.add (((i:Nat):Int).toNat*10)).add 0).add 8) λx_194 x_194n x_194c =>
   CP mD #[.agg #[.int .i64 x_177,.int .i64 x_178,.int .i64 x_179,.int .i64 x_180,.int .i64 x_181,.bool x_182,.int .i64 x_183,.int .i64 x_184,.slice x_185 x_185n x_185c],.agg #[.int .i64 x_186,.int .i64 x_187,.int .i64 x_188,.int .i64 x_189,.int .i64 x_190,.bool x_191,.int .i64 x_192,.int .i64 x_193,.slice x_194 x_194n x_194c]] h_166 (λv_195 h_196 =>
   ∃ (r_197:Bool),v_195 = .bool r_197/\(
   fI (!r_197) (
   K (.bool false) h_196) <|
   fW (0<=((i:Nat):Int)/\((i:Nat):Int)<(slen:Int)) <|
   ptr sq λa_198 =>
   ldS h_196 ((a_198.add (((i:Nat):Int).toNat*10)).add 9) λx_199 x_199n x_199c =>
   CP lN #[.slice p2 sy.length d2,.slice x_199 x_199n x_199c] h_196 (λv_200 h_201 =>
   ∃ (r_202:Bool),v_200 = .bool r_202/\(
   fI (!r_202) (
   K (.bool false) h_201) <|
   fG (IntKind.i64.wrap (((i:Nat):Int)+(1:Int))) λz_203 =>
   ∃ m_2,m_2<n/\J m_2 [.int .i64 z_203] h_201)) (Kp))) (Kp)))) (Kp))) (Kp))) (Kp))) (Kp))) (Kp)
 := by
 have hnd:0<=((i:Nat):Int)/\((i:Nat):Int)<((slen:Nat):Int):=by omega
 have e0:(a.add (i*10)).add 0=a.add (i*10):=by unfold Addr.add; rw [if_pos rfl]
 have cl9:∀ {h L},Hp hB [] h L->∀ j v,(t.cs q l.length c)[j]? = some v->ic h (((a.add (i*10)).add 0).add j)=some v:=λ{h L} H j v hj=>by
  rw [e0]
  exact cl j v H (by rw [gk (List.getElem?_eq_some_iff.1 hj).1]; exact hj)
 have cls:∀ {h L},Hp hB [] h L->ic h ((a.add (i*10)).add 9)=some (.slice q2 sy.length c2):=λ{h L} H=>cl 9 _ H rfl
 have n1:=hlt.n1
 have n2:=hlt.n2
 have hel:=@Ph t sy l
 have lw:∀ x∈l,x.b.ws.length<=1000000000000:=λx hx=>iL (hlt.w1 x hx) (by decide)
 refine GI (t:=t) (λj v hj=>hpA H 2 rfl (by rw [fN]; exact hj)) ?_
 refine xM (t:=t) (hL1.view H λe he=>by simp [mR1 e he]) (by omega) lw λRS qS cS h hLS H'=>⟨_,_,_,rfl,?_⟩
 replace H:=H.join H' hLS.w
 clear H'
 refine jg (λhh=>absurd rfl hh) λ_=>?_
 refine Go.Ar.SU (xs:=yK t sy l) (ys:=yK t sy l) (Slot.vt hE1 H λe he=>by simp [mD1 e he]) (Slot.vt hE2 H λe he=>by simp [mD2 e he]) (by omega) ⟨_,rfl,?_⟩
 refine iM (λhh=>by simp at hh) λ_=>?_
 refine jg (λhh=>absurd rfl hh) λ_=>?_
 refine fz (hpA H 1 rfl rfl) (fz (hpA H 1 rfl rfl) (fU (hpA H 1 rfl rfl) ?_))
 refine fz (hpA H 0 rfl rfl) (fz (hpA H 0 rfl rfl) (fU (hpA H 0 rfl rfl) ?_))
 refine F5 (xs:=ws) (ys:=ws) (Slot.vt hP1 H λe he=>by simp [mP1 e he]) (Slot.vt hP2 H λe he=>by simp [mP2 e he]) (by omega) λh e=>⟨_,rfl,?_⟩
 have H:=H.ext e
 clear e
 refine iM (λhh=>by simp at hh) λ_=>?_
 refine fH hnd (iJ hsq ?_)
 rw [fD]
 refine GI (t:=t) (cl9 H) ?_
 refine Bz (t:=t) (hv.ext H.gi) (by omega) lw λRT qT cT h hLT H'=>⟨_,_,_,rfl,?_⟩
 replace H:=H.join H' hLT.w
 clear H'
 refine F4 (l:=rX (pZ t.st) l) (qI _ _) (by omega) (hLS.view H λe he=>by simp [he]) (hLT.view H λe he=>by simp [he]) λh e=>⟨_,rfl,?_⟩
 have H:=(Hp.pre H).ext e
 clear e hLT
 refine iM (λhh=>by cases hh) λ_=>?_
 obtain ⟨O,E,hO,hOS,hSl,rfl⟩:=hLS
 obtain ⟨U,hU⟩:∃ U:List Ent,U=⟨rP,true,fK,[.int .i64 w,.int .i64 x,.slice q6 ws.length c6]⟩::⟨r95,true,fK,[.int .i64 w,.int .i64 x,.slice q5 ws.length c5]⟩::⟨r43,true,fR,t.cs p1 l.length d1⟩::V:=⟨_,rfl⟩
 rw [<- hU] at H
 have hOl:O.length=l.length:=by rw [<- qI (pZ t.st) l,<- hOS,iu]
 rw [qI] at hSl
 have hOw:∀ o∈O,o.i.b.ws.length<=6000:=λo ho=>hlt.w1 _ (s8.1 (by rw [<- hOS]; exact List.mem_map.2 ⟨o,ho,rfl⟩))
 refine ⟨λm vs h'=>∃ (j:Nat) (O':List OwI) (E':List Ent),j+m=l.length/\vs=[.int .i64 (j:Nat)]/\O'.length=l.length/\(∀ k,j<=k->O'[k]? = O[k]?)/\Slot fM 7 E' qS l.length cS (csI O')/\Hp hB [] h' (U++(dsI (O.drop j)++E')),⟨l.length,0,O,E,by omega,rfl,hOl,λ_ _=>rfl,hSl,H⟩,?_⟩
 clear H hSl
 rintro m h u xj ⟨j,O',E',hjm,hxx,hO'l,hO',hSl,H⟩
 injection hxx with hx1 hxx
 injection hx1 with _ hx1
 subst xj
 refine fL (λh5=>?_) λh5=>?_
 ·obtain ⟨o,ho⟩:∃ o,O[j]? = some o:=⟨_,fP (by omega)⟩
  have ho':O'[j]? = some o:=(hO' j (gg _)).trans ho
  have hok:=hO o (fS ho)
  have hobl:=hOw o (fS ho)
  obtain ⟨hsl2,⟨hz,_⟩ | ⟨b,rest,rfl,rfl,hcap⟩⟩:=hSl
  ·omega
  have hd:dsI (O.drop j)=o.D++dsI (O.drop (j+1)):=by rw [th ho]; rfl
  rw [hd] at H
  have H:Hp hB [] h ((U++(dsI (O.drop (j+1))++[⟨b,true,fM,csI O'++rest⟩]))++o.D):=H.perm (by
   rw [fC U]
   refine tu U ?_
   rw [fC o.D]
   exact jB)
  have cell6:ic h (((⟨b,0,none⟩:Addr).add (j*7)).add 6)=some (.slice o.q o.i.b.ws.length o.c):=by
   obtain ⟨a',ha',cell⟩:=l3 (Hp.n9 (rest:=rest) (cs:=csI O') H (gV _ (fX _ (fX _ (List.mem_singleton.2 rfl)))) (m5 _)) ho'
   injection ha' with ha'
   subst ha'
   exact cell 6 _ rfl
  refine fH (by omega) (iJ rfl ?_)
  rw [fD,C3 _ 4 2]
  refine fU cell6 ?_
  refine Ot H hok.s (by omega) λh H=>?_
  refine fH (by omega) (iJ rfl ?_)
  have H:Hp hB [] h (⟨b,true,fM,csI O'++rest⟩::(U++dsI (O.drop (j+1)))):=by
   have H:=Hp.rot (X:=U++dsI (O.drop (j+1))) (Y:=[⟨b,true,fM,csI O'++rest⟩]) (H.as (by simp only [fC]))
   exact H
  refine stI H (o':=⟨{ o.i with x:=-7 },o.q,o.c,o.D⟩) ho' (by decide) rfl rfl λh H=>?_
  refine fw (((j+1:Nat):Int)) (by exact fO _ _ (by omega) (by omega) (by omega)) ?_
  refine ⟨m-1,by omega,j+1,O'.set j ⟨{ o.i with x:=-7 },o.q,o.c,o.D⟩,[⟨b,true,fM,csI (O'.set j ⟨{ o.i with x:=-7 },o.q,o.c,o.D⟩)++rest⟩],by omega,rfl,by rw [gB]; exact hO'l,λk hk=>?_,?_,?_⟩
  ·rw [j3 (by omega)]
   exact hO' k (by omega)
  ·refine ⟨by rw [m5,gB,hO'l], .inr ⟨b,rest,rfl,rfl,?_⟩⟩
   rw [fA,m5] at hcap ⊢
   rw [gB]
   exact hcap
  ·have H:=Hp.rot (X:=[⟨b,true,fM,csI (O'.set j ⟨{ o.i with x:=-7 },o.q,o.c,o.D⟩)++rest⟩]) H
   exact H.asc
 have H:=Hp.pre H
 rw [hU] at H
 clear hSl
 refine fH hnd (iJ hsq ?_)
 refine GI (t:=t) (λj v hj=>hpA H 2 rfl (by rw [fN]; exact hj)) ?_
 refine GI (t:=t) (cl9 H) ?_
 refine Np (t:=t) (l:=l) rfl (by omega) (hL1.view H λe he=>by simp [mR1 e he]) (hv.ext H.gi) λh e=>⟨_,rfl,?_⟩
 have H:=H.ext e
 clear e
 refine iM (λhh=>by cases hh) λ_=>?_
 refine fH hnd (iJ hsq ?_)
 refine fU (cls H) ?_
 refine QL (hL2.view H λe he=>by simp [mR2 e he]) (hs.ext H.gi) (by omega) λh e=>⟨_,rfl,?_⟩
 have H:=H.ext e
 refine iM (λhh=>by cases hh) λ_=>?_
 refine fw (((i+1:Nat):Int)) (by exact fO _ _ (by omega) (by omega) (by omega)) ?_
 exact hfin _ _ H
def Rs (h:Heap) (sq:Option Addr) (slen:Nat):Prop:=∀ i,i<slen->∃ (a:Addr) (t:Reg14) (q:Option Addr) (c:Nat) (l:List Ins) (q2:Option Addr) (c2:Nat) (sy:List Bmp),sq=some a /\
 (∀ j v,(t.cs q l.length c++[Value.slice q2 sy.length c2])[j]? = some v->ic h ((a.add (i*10)).add j)=some v)/\rj h q l/\l.length<=4000000000000/\o7 h q2 sy/\sy.length<=4000000000000
theorem Nv {h:Heap} {cs:List Value} (H:WDx TP h Ce cs):∃ q len cap,cs=[.slice q len cap]/\Rs h q len:=by
 obtain ⟨q,len,cap,rfl,_,_,_,h4⟩:=Cm Go.Proofs.Tryz.underlying22 H
 refine ⟨q,len,cap,rfl,λi hi=>?_⟩
 obtain ⟨a,cs',ha,hr,hd⟩:=h4 i hi
 have k:TP.cellsOf mn=10:=by kernel_rfl
 rw [k] at hr
 obtain ⟨t,q',c,l,q2,c2,sy,rfl,g1,g2,g3,g4⟩:=NK hd
 exact ⟨a,t,q',c,l,q2,c2,sy,ha,λj v hj=>hr.2 j v hj,g1,g2,g3,g4⟩
set_option maxHeartbeats 8000000 in
theorem Ih {sq:Option Addr} {slen scap:Nat} (hv:Rs hB sq slen) (hk:∀ h',gi hB h'->K (.bool true) h') :
  CP pK #[.slice sq slen scap] hB K Kp:=by
 refine ur ?_
 unfold nB
 obtain ⟨J,hJ⟩:∃ J:Nat->List Value->Heap->Prop,J=λn vs h'=>∃ i:Nat,i+n=4/\vs=[.int .i64 (i:Nat)]/\Hp hB [] h' []:=⟨_,rfl⟩
 refine ⟨J,⟨4,by rw [hJ]; exact ⟨0,rfl,rfl,Hp.nil hB []⟩⟩,?_⟩
 intro n h u xx hJJ
 rw [hJ] at hJJ
 obtain ⟨i,hin,hxx,H⟩:=hJJ
 injection hxx with hxx
 injection hxx with _ hxx
 subst hxx
 refine fL (λh3=>?_) λh3=>Fb λh' e=>⟨_,rfl,hk _ (H.gi.trans e)⟩
 refine fL (λh4=>?_) λh4=>Fb λh' e=>⟨_,rfl,hk _ (H.gi.trans e)⟩
 have hi:i<slen:=by omega
 have hi4:i<4:=by omega
 obtain ⟨a,t,q,c,l,q2,c2,sy,hsq,clB,hvl,hll,hvs,hsl⟩:=hv i hi
 have cl:∀ {h L} j v,Hp hB [] h L->(t.cs q l.length c++[Value.slice q2 sy.length c2])[j]? = some v->ic h ((a.add (i*10)).add j)=some v:=λj v H hj=>H.fr.cell (by simp) (clB j v hj)
 have hnd:0<=((i:Nat):Int)/\((i:Nat):Int)<((slen:Nat):Int):=by omega
 have e0:(a.add (i*10)).add 0=a.add (i*10):=by unfold Addr.add; rw [if_pos rfl]
 have cl1:∀ {h L},Hp hB [] h L->∀ j v,(t.cs q l.length c)[j]? = some v->ic h ((a.add (i*10)).add j)=some v:=λ{h L} H j v hj=>cl j v H (by rw [gk (List.getElem?_eq_some_iff.1 hj).1]; exact hj)
 have cl9:∀ {h L},Hp hB [] h L->∀ j v,(t.cs q l.length c)[j]? = some v->ic h (((a.add (i*10)).add 0).add j)=some v:=λ{h L} H j v hj=>by
  rw [e0]
  exact cl1 H j v hj
 have cls:∀ {h L},Hp hB [] h L->ic h ((a.add (i*10)).add 9)=some (.slice q2 sy.length c2):=λ{h L} H=>cl 9 _ H rfl
 have hfin:∀ h' L,Hp hB [] h' L->∃ m_2,m_2<n/\J m_2 [.int .i64 ((i+1:Nat):Int)] h':=λh' L H=>⟨n-1,by omega,by rw [hJ]; exact ⟨i+1,by omega,rfl,H.take 0⟩⟩
 refine fH hnd (iJ hsq ?_)
 rw [fD]
 refine GI (t:=t) (cl1 H) ?_
 refine fU (cls H) ?_
 refine K0 (t:=t) (hvl.ext H.gi) (hvs.ext H.gi) hll hsl λr h' hr e=>⟨_,rfl,?_⟩
 have H:=H.ext e
 clear e
 refine iM (λh5=>?_) λh5=>?_
 ·refine fw (((i+1:Nat):Int)) (by exact fO _ _ (by omega) (by omega) (by omega)) ?_
  exact hfin _ _ H
 have hlt:=hr h5
 have n1:=hlt.n1
 have n2:=hlt.n2
 have lw:∀ x∈l,x.b.ws.length<=1000000000000:=λx hx=>iL (hlt.w1 x hx) (by decide)
 have sw:∀ b∈sy,b.ws.length<=1000000000000:=λx hx=>iL (hlt.w2 x hx) (by decide)
 refine fH hnd (iJ hsq ?_)
 refine GI (t:=t) (cl9 H) ?_
 refine HN (t:=t) (hvl.ext H.gi) (by omega) lw λR1 p1 d1 h hL1 H'=>?_
 replace H:=H.join H' hL1.w
 clear H'
 refine ⟨_,_,_,_,_,_,_,_,_,_,_,rfl,?_⟩
 refine fV H λr43 h H=>?_
 have H:=H.rot
 refine Eb H 0 rfl rfl rfl λh H=>?_
 refine fH hnd (iJ hsq ?_)
 refine fU (cls H) ?_
 refine QU (hvs.ext H.gi) (by omega) sw λR2 p2 d2 h hL2 H'=>⟨_,_,_,rfl,?_⟩
 replace H:=H.join H' hL2.w
 clear H'
 have H:Hp hB [] h ([⟨r43,true,fR,t.cs p1 l.length d1⟩]++(R1++R2)):=H.as (by simp only [fC,gm,gd,List.set])
 have c43:∀ {h X},Hp hB [] h ([⟨r43,true,fR,t.cs p1 l.length d1⟩]++X)->∀ j v,(t.cs p1 l.length d1)[j]? = some v->ic h ((⟨r43,0,none⟩:Addr).add j)=some v:=λ{h X} H j v hj=>hpA H 0 rfl (by rw [fN]; exact hj)
 refine GI (t:=t) (c43 H) ?_
 refine LL (t:=t) (hL1.view H λe he=>by simp [he]) (hL2.view H λe he=>by simp [he]) (by omega) (by omega) λD1 qe1 ce1 h hE1 H'=>⟨_,_,_,_,rfl,?_⟩
 replace H:=H.join H' hE1.w
 clear H'
 refine fH hnd (iJ hsq (fH hnd (iJ hsq ?_)))
 refine GI (t:=t) (cl9 H) ?_
 refine fU (cls H) ?_
 refine M5 (t:=t) (hvl.ext H.gi) (hvs.ext H.gi) (by omega) (by omega) λD2 qe2 ce2 h hE2 H'=>⟨_,_,_,_,rfl,?_⟩
 replace H:=H.join H' hE2.w
 clear H'
 have H:Hp hB [] h ([⟨r43,true,fR,t.cs p1 l.length d1⟩]++(R1++R2++D1++D2)):=H.as (by simp only [fC])
 refine GI (t:=t) (c43 H) ?_
 refine MI (t:=t) (hL1.view H λe he=>by simp [he]) (hL2.view H λe he=>by simp [he]) (by omega) (by omega) λw x ws P1 q5 c5 h hd1 hP1 H'=>⟨_,_,_,_,_,_,rfl,?_⟩
 replace H:=H.join H' hP1.w
 clear H'
 have hwl:=hd1.len
 refine fV H λr95 h H=>?_
 have H:=H.rot
 refine stA H 0 rfl rfl rfl λh H=>?_
 refine stA H 0 rfl rfl rfl λh H=>?_
 refine stA H 0 rfl rfl rfl λh H=>?_
 have H:Hp hB [] h ([⟨r95,true,fK,[.int .i64 w,.int .i64 x,.slice q5 ws.length c5]⟩,⟨r43,true,fR,t.cs p1 l.length d1⟩]++(R1++R2++D1++D2++P1)):=H.as (by simp only [fC,gm,gd,List.set])
 refine fH hnd (iJ hsq (fH hnd (iJ hsq ?_)))
 refine GI (t:=t) (cl9 H) ?_
 refine fU (cls H) ?_
 refine ⟨?_,?_⟩
 ·refine He (t:=t) (hvl.ext H.gi) (hvs.ext H.gi) (by omega) (by omega) λw' x' ws' P2 q6 c6 h hd2 hP2 H'=>⟨_,_,_,_,_,_,rfl,H'.gi,?_⟩
  obtain ⟨rfl,rfl,rfl⟩:=hd1.eq hd2
  replace H:=H.join H' hP2.w
  clear H'
  refine fV H λrP h H=>?_
  have H:=H.rot
  refine stA H 0 rfl rfl rfl λh H=>?_
  refine stA H 0 rfl rfl rfl λh H=>?_
  refine stA H 0 rfl rfl rfl λh H=>?_
  exact G1 (V:=R1++R2++D1++D2++P1++P2) hsq hi hi4 cl hvl hvs hlt hL1 hL2 hE1 hE2 hP1 hP2 hwl (λe he=>by simp [he]) (λe he=>by simp [he]) (λe he=>by simp [he]) (λe he=>by simp [he]) (λe he=>by simp [he]) (λe he=>by simp [he]) H hfin
 ·refine fV H λrP h H=>?_
  have H:=H.rot
  refine He (t:=t) (hvl.ext H.gi) (hvs.ext H.gi) (by omega) (by omega) λw' x' ws' P2 q6 c6 h hd2 hP2 H'=>⟨_,_,_,_,_,_,rfl,H'.gi,?_⟩
  obtain ⟨rfl,rfl,rfl⟩:=hd1.eq hd2
  replace H:=H.join H' hP2.w
  clear H'
  refine stA H 0 rfl rfl rfl λh H=>?_
  refine stA H 0 rfl rfl rfl λh H=>?_
  refine stA H 0 rfl rfl rfl λh H=>?_
  exact G1 (V:=R1++R2++D1++D2++P1++P2) hsq hi hi4 cl hvl hvs hlt hL1 hL2 hE1 hE2 hP1 hP2 hwl (λe he=>by simp [he]) (λe he=>by simp [he]) (λe he=>by simp [he]) (λe he=>by simp [he]) (λe he=>by simp [he]) (λe he=>by simp [he]) H hfin
end
end Go.Bm
namespace Go.Proofs.YtbknfejmdekhpaaGreat
open Go.ChangeShapes Go.WideShapes Go.ChangeAt Go.RowKit
theorem own:ownKnob Tryz.prog.godebug=none:=by kernel_rfl
theorem laidOut:laidOutB Tryz.prog=true:=by kernel_rfl
theorem PE {W W':World} (hk:Go.Den.keeps W W') (h:Go.Den.gi W.heap W'.heap):Below W.heap.size W W' :=
 ⟨hk.1,hk.2.1,hk.2.2,h.1,λk hlt=>h.2 k hlt⟩
theorem H8 {f:FuncId} {args:Array Value} {W:World}
  (h:Calls Tryz.prog f args W λe w'=>Go.Den.keeps W w'/\match e with
   | .returned v=>v = .bool true/\Go.Den.gi W.heap w'.heap
   | .panicked c=>False
   | .outgrown=>False):Calls Tryz.prog f args W λe W'=>e = .returned (.bool true)/\Below W.heap.size W W':=by
 refine h.mono λe W' he=>?_
 obtain ⟨hk,he⟩:=he
 cases e with
 | returned v=>exact ⟨by rw [he.1],PE hk he.2⟩
 | panicked c=>exact he.elim
 | outgrown=>exact he.elim
theorem Dh (W:World) {v:Value} (hw:Go.Den.WDx Tryz.prog W.heap 22 [v]):Calls Tryz.prog 3 #[v] W λe W'=>e = .returned (.bool true)/\Below W.heap.size W W':=by
 obtain ⟨q,len,cap,e,ha⟩:=Go.Bm.Nv hw
 obtain rfl:v = .slice q len cap:=by simpa using e
 exact H8 ((Go.Bm.Ih (hB:=W.heap) (K:=λv h'=>v = .bool true/\Go.Den.gi W.heap h') (Kp:=λ_ _=>False) ha λh' e=>⟨rfl,e⟩).2 W rfl)
theorem Bw (os:Os) (started:os.Started) (H:Type) (enc:TypeId × Value->H) :
  ReturnsInHanded {} Tryz.checked os 3 .any (Rows.textEncodesSpec.pre6 enc Tryz.prog Tryz.f3 Rows.textEncodesRow.domain false) (Rows.textEncodesSpec.post enc Tryz.prog Tryz.f3 false true false false):=by
 refine returnsInHanded_of_change_sized (C:=Tryz.checked) own started (by kernel_rfl) Tryz.func3
  (ChangeSpec.witness6 (enc:=enc) (C:=Tryz.checked) false ⟨#[],#[.slice none 0 0],[]⟩ 8 (by kernel_rfl) (by kernel_rfl) (by kernel_rfl) (by kernel_rfl)) ?_
 intro W base args ds gs before hval0 hW hcnd hz _
 have hval:∀ (j:Nat) t v,Tryz.f3.params[j]? = some t->args[j]? = some v->Value.okWide Tryz.prog W .any base t v:=hval0
 have hz:∀ n∈DataW.weightsEach Tryz.prog (Tryz.f3.params.toList++Rows.textEncodesSpec.plain.varTypes Tryz.prog) (ds++gs),n<=reachBytes:=λn hn=>by simpa using List.all_eq_true.1 hz n hn
 have hW':=hW
 obtain ⟨p,q,hA0,hV,rfl,hfz,hnd⟩:=hW
 have hA:DataW.TrodAll enc Tryz.prog W 0 (λ_=>true) true Tryz.f3.params.toList args.toList ds p:=hA0
 rw [Tryz.params3] at hA hval hz
 obtain ⟨v0,vs0,d0,ds0,p0,q0,hargs,rfl,rfl,h0,r0⟩:=trodAll_cons hA
 obtain ⟨rfl,rfl,rfl⟩:=trodAll_nil r0
 obtain rfl:args=#[v0]:=by cases args; simp_all
 obtain ⟨rfl,rfl⟩:=trodVars_none hV
 obtain ⟨q,len,cap,rfl,_⟩:=okWide_slice Tryz.underlying22 (hval 0 22 v0 rfl rfl)
 have hwd:Go.Den.WDx Tryz.prog W.heap 22 [.slice q len cap]:=by
  obtain ⟨f,hf⟩:=h0
  exact ⟨f,Go.Den.LF hf λn hn=>hz n (DataW.weights_mem_each (j:=0) rfl rfl n hn)⟩
 clear hA0 hval0
 simp only [fT] at hW'
 refine (Dh W hwd).mono λe W' ⟨he,hb⟩=>?_
 subst he
 refine ⟨_,rfl,[d0],[],_,[],p0,[],hW',?_,?_,?_,hb.frame _,λh=>Bool.noConfusion h⟩
 ·exact trodAll_cons_mk (shut_bool Go.Proofs.Tryz.underlying4 _) trodAll_mk0
 ·exact ⟨p0,[],Below.trod laidOut (by kernel_rfl) (of_decide_eq_true (by kernel_rfl)) h0 hb (λx hx=>by simpa using hW'.lt x hx),rfl,(fT p0).symm⟩
 ·rfl
theorem Di:Rows.textEncodesRow.holds Tryz.pinned (OpenSpec.ofChange Rows.textEncodesSpec) :=
 OpenClaim.holds_of_wide 3 Tryz.f3 rfl rfl rfl rfl rfl rfl rfl ⟨rfl,rfl,rfl,rfl,rfl⟩ rfl rfl rfl rfl rfl (by kernel_rfl) Tryz.func3 (by kernel_rfl)
  (of_decide_eq_true (by kernel_rfl)) (by unfold Func.isWrapper; first | (rw [if_pos (by decide +kernel)]; kernel_rfl) | (rw [if_neg (by decide +kernel)]; exact ⟨rfl,rfl⟩))
  (λos started H enc _=>Bw os started H enc)
theorem textEncodes_proved:Rows.TextEncodesSaid:=Di
#print axioms textEncodes_proved
end Go.Proofs.YtbknfejmdekhpaaGreat
