/- W3: put together by wip/tools/bundle.py: BmC BmD BmE RfA Au TxA Mrefine Brefine RfB RfC RfD ArA Marith Barith. -/
import Derived.Test.YtbknfejmdekhpaaGreatW1
import Derived.Test.YtbknfejmdekhpaaGreatW2
import Derived.Test.YtbknfejmdekhpaaGreatProg
set_option linter.unusedVariables false
set_option linter.unusedSimpArgs false
set_option maxRecDepth 100000
namespace Go.Bm
open Go Go.Den Go.Den.YtbknfejmdekhpaaGreat
def ph (p q w h n c:Nat):Ent:=⟨p,true,yw,[.int .i64 (w:Nat),.int .i64 (h:Nat),.int .i64 (wds w:Nat),.slice (at0 q) n c]⟩
def oV (p q w h:Nat) (ws:List Nat) (rest:List Value):List Ent:=[ph p q w h ws.length (ws.length+rest.length),⟨q,true,gj,il ws++rest⟩]
theorem Iq {h0 h:Heap} {F:List Nat} {L:List Ent} (H:Hp h0 F h L) (k:Nat) {b:Nat} {w:Bool} {t:TypeId} {xs:List Nat} {rest:List Value} (he:L[k]? = some ⟨b,w,t,il xs++rest⟩):rdO h (at0 b) (xs.length*1) (il xs):=by
 have h2:=pf H k (o:=0) (n:=xs.length*1) he (by rw [fA,iO]; omega)
 rw [vp,jr (by rw [iO]; omega),gz (by rw [iO]; omega)] at h2
 exact h2
theorem ob {R T:List Value} {i:Nat} {v:Value} (h:R[i]? = some v):(R++T)[i]? = some v:=by
 rw [gk (List.getElem?_eq_some_iff.1 h).1]; exact h
theorem uD (ws:List Nat) (rest:List Value) (i v:Nat) (h:i<ws.length):(il ws++rest).set i (.int .u64 (v:Int))=il (ws.set i v)++rest:=by
 rw [mc _ _ (by rw [iO]; exact h),<- NO]
theorem Kj {hB:Heap} {q:Option Addr} {c:Nat} {ws:List Nat} (hr:rdO hB q (ws.length*1) (il ws)) (h1:1<=ws.length) (hl:ws.length<1048577) {K:VK} {Kp:PK}
  (hk:∀ o rest h,Hp hB [] h [⟨o,true,gj,il ws++rest⟩]->K (.slice (at0 o) ws.length (ws.length+rest.length)) h):CP jv #[.slice q ws.length c] hB K Kp:=by
 refine mZ ?_
 unfold lr
 have H:=Hp.nil hB []
 obtain ⟨a,ha,_⟩:=m9 hr (lp (lU (l:=ws) (i:=0) h1))
 subst ha
 refine fZ (by rfl) ?_
 refine fV H fun r h H=>?_
 refine Ai H 0 (xs:=[]) (rest:=[]) rfl rfl rfl (H.rdO hr) (iO ws) (xH ws) (by show (0+ws.length)*8<=_; omega) fun o rest h H=>?_
 rw [gd,fA,iO,iZ,fN]
 exact hk o rest h (H.as (by simp))
theorem IA {hB:Heap} {w h':Int} {K:VK} {Kp:PK}
  (hg:∀ (W X:Nat) p q h,w=(W:Nat)->h'=(X:Nat)->jX w h'->Hp hB [] h (oV p q W X (List.replicate (X*wds W) 0) [])->K (.tuple #[.pointer (at0 p),.int .i64 0]) h)
  (hbad:¬ jX w h'->K (.tuple #[.pointer none,.int .i64 20]) hB):CP rF #[.int .i64 w,.int .i64 h'] hB K Kp:=by
 refine EL ?_
 unfold Ca
 have H:=Hp.nil hB []
 refine Jj fun b hb=>?_
 refine ⟨_,rfl,?_⟩
 refine iM (fun h1=>?_) fun h1=>?_
 ·exact hbad fun hs=>by rw [hb.2 hs] at h1; cases h1
 obtain ⟨W,X,rfl,rfl,hW1,hW2,hX1,hX2,hWX⟩:=jf (hb.1 h1)
 have hhw:=rR hW1 hWX
 refine fw (((W+63:Nat):Int)) (by exact fO _ _ (by omega) (by omega) (by omega)) ?_
 refine fw (((wds W:Nat):Int)) (by exact fO _ _ (mL (W+63) 64) (by unfold wds; omega) (by unfold wds; omega)) ?_
 obtain ⟨N,hN⟩:∃ N,N=X*wds W:=⟨_,rfl⟩
 refine fw (((N:Nat):Int)) (by exact fO _ _ (by rw [hN,nT]) (by omega) (by omega)) ?_
 refine fH (by simp; omega) ?_
 simp only [fD,Dc]
 refine fV H fun q h H=>?_
 refine fV H fun p h H=>?_
 refine hg W X p q _ rfl rfl (hb.1 h1) (H.pick [1,0] (by decide) ?_)
 rw [hN]
 simp [oV,ph,il]
theorem CG {hB:Heap} {w h':Int} {q:Option Addr} {c:Nat} {ws:List Nat} (hr:rdO hB q (ws.length*1) (il ws)) (hw:W64 ws) (hl:ws.length<140737488351300) {K:VK} {Kp:PK}
  (hg:∀ (W X:Nat) p q rest h,w=(W:Nat)->h'=(X:Nat)->sE w h' ws->Hp hB [] h (oV p q W X ws rest)->K (.tuple #[.pointer (at0 p),.int .i64 0]) h)
  (hbad:∀ h,¬ sE w h' ws->gi hB h->K (.tuple #[.pointer none,.int .i64 21]) h):CP nW #[.agg #[.int .i64 w,.int .i64 h',.slice q ws.length c]] hB K Kp:=by
 refine DY ?_
 unfold Ag
 have H:=Hp.nil hB []
 refine fV H fun r h H=>?_
 try simp only [ga,gC,fN,gr]
 refine fz (H.cell 0 rfl rfl) ?_
 refine fz (H.cell 0 rfl rfl) ?_
 refine fU (H.cell 0 rfl rfl) ?_
 refine w9 (H.rdO hr) hw hl fun b h2 hb e=>?_
 have H:=H.ext e
 refine ⟨_,rfl,?_⟩
 refine iM (fun h1=>?_) fun h1=>?_
 ·exact hbad _ (fun hs=>by rw [hb.2 hs] at h1; cases h1) H.gi
 have hm:=hb.1 h1
 obtain ⟨W,X,rfl,rfl,hW1,hW2,hX1,hX2,hWX⟩:=jf hm.1
 have hhw:=rR hW1 hWX
 have hlen:ws.length=X*wds W:=hm.2.1
 have hw1:=Ap hW1
 have hpos:1<=X*wds W:=GP hX1 hw1
 refine fz (H.cell 0 rfl rfl) ?_
 refine fz (H.cell 0 rfl rfl) ?_
 refine fz (H.cell 0 rfl rfl) ?_
 refine fw (((W+63:Nat):Int)) (by exact fO _ _ (by omega) (by omega) (by omega)) ?_
 refine fw (((wds W:Nat):Int)) (by exact fO _ _ (mL (W+63) 64) (by unfold wds; omega) (by unfold wds; omega)) ?_
 refine fU (H.cell 0 rfl rfl) ?_
 refine Kj (H.rdO hr) (by omega) (by omega) fun o rest h' H'=>?_
 refine ⟨_,_,_,rfl,H'.gi,?_⟩
 replace H:=H.join H' rfl
 refine fV H fun p h H=>?_
 exact hg W X p o rest _ rfl rfl hm (H.pick [2,1] (by decide) rfl)
theorem Jw {h0 h:Heap} {F:List Nat} {L:List Ent} (H:Hp h0 F h L) (kp kq:Nat) {p q W X:Nat} {w:Bool} {ws:List Nat} {rest:List Value} (hp:L[kp]? = some (ph p q W X ws.length (ws.length+rest.length))) (hq:L[kq]? = some ⟨q,w,gj,il ws++rest⟩)
  (h1:1<=ws.length) (hl:ws.length<1048577) {K:VK} {Kp:PK}
  (hk:∀ o orest h',Hp h0 F h' (L++[⟨o,true,gj,il ws++orest⟩])->K (.agg #[.int .i64 (W:Nat),.int .i64 (X:Nat),.slice (at0 o) ws.length (ws.length+orest.length)]) h') :
  CP nK #[.pointer (at0 p)] h K Kp:=by
 refine yY ?_
 unfold sB
 have hkp:kp<L.length:=(List.getElem?_eq_some_iff.1 hp).1
 have hkq:kq<L.length:=(List.getElem?_eq_some_iff.1 hq).1
 refine fV H fun r h H=>?_
 have hp2:(L++[(⟨r,true,fK,[.int .i64 0,.int .i64 0,.slice none 0 0]⟩:Ent)])[kp]? = some (ph p q W X ws.length (ws.length+rest.length)):=by rw [gk hkp]; exact hp
 have hq2:(L++[(⟨r,true,fK,[.int .i64 0,.int .i64 0,.slice none 0 0]⟩:Ent)])[kq]? = some ⟨q,w,gj,il ws++rest⟩:=by rw [gk hkq]; exact hq
 try simp only [ga,gC,fN,gr]
 refine fz (H.cell kp hp2 (i:=0) rfl) ?_
 refine fz (H.cell kp hp2 (i:=1) rfl) ?_
 refine fU (H.cell kp hp2 (i:=3) rfl) ?_
 refine Kj (Iq H kq hq2) h1 hl fun o orest h' H'=>?_
 refine ⟨_,_,_,rfl,H'.gi,?_⟩
 have H:=((H.join H' rfl).swap).rot
 refine gq H 0 rfl (by first | exact fB rfl | simp) rfl fun h hsz H=>?_
 refine gq H 0 rfl (by first | exact fB rfl | simp) rfl fun h hsz H=>?_
 refine gq H 0 rfl (by first | exact fB rfl | simp) rfl fun h hsz H=>?_
 refine fz (H.cell 0 rfl rfl) ?_
 refine fz (H.cell 0 rfl rfl) ?_
 refine fU (H.cell 0 rfl rfl) ?_
 exact hk o orest _ (H.suf (X:=[⟨r,true,fK,[.int .i64 (W:Nat),.int .i64 (X:Nat),.slice (at0 o) ws.length (ws.length+orest.length)]⟩]))
def Inv (X wd:Nat) (F old:Nat->Nat->Bool) (D:Nat->Bool) (j i:Nat) (R:List Nat):Prop :=
 R.length=X*wd/\W64 R/\∀ y,y<X->∀ x,x<64*wd->pix R wd x y=if D y=true\/y=j/\x / 64<i then F x y else old x y
section
variable {X wd:Nat} {F old:Nat->Nat->Bool} {D:Nat->Bool} {j i:Nat} {R:List Nat}
theorem Inv.word (h:Inv X wd F old D j i R) (hD:D j=false) (hj:j<X) (hi:i<wd) {b:Nat} (hb:b<64):(R.getD (j*wd+i) 0).testBit b=old (64*i+(63-b)) j:=by
 have:=h.2.2 j hj (64*i+(63-b)) (by omega)
 rw [if_neg (by rw [hD]; simp; omega)] at this
 unfold pix at this
 rw [show (64*i+(63-b)) / 64=i by omega,show 63-(64*i+(63-b)) % 64=b by omega] at this
 exact this
theorem Inv.step (h:Inv X wd F old D j i R) (hj:j<X) (hi:i<wd) {v:Nat} (hv:v<M64) (hb:∀ b,b<64->v.testBit b=F (64*i+(63-b)) j):Inv X wd F old D j (i+1) (R.set (j*wd+i) v):=by
 obtain ⟨h1,h2,h3⟩:=h
 refine ⟨by rw [gB]; exact h1,h2.set hv,fun y hy x hx=>?_⟩
 rw [Iu h1 hi hj hx]
 by_cases h4:y=j/\x / 64=i
 ·rw [if_pos h4,if_pos (.inr ⟨h4.1,by omega⟩),hb _ (by omega),h4.1]
  congr 1
  omega
 ·rw [if_neg h4,h3 y hy x hx]
  have:(D y=true\/y=j/\x / 64<i)↔(D y=true\/y=j/\x / 64<i+1):=by
   constructor
   ·rintro (h5 | ⟨h5,h6⟩)
    ·exact .inl h5
    ·exact .inr ⟨h5,by omega⟩
   ·rintro (h5 | ⟨h5,h6⟩)
    ·exact .inl h5
    ·exact .inr ⟨h5,by
      have:x / 64≠i:=fun e=>h4 ⟨h5,e⟩
      omega⟩
  simp only [this]
theorem Inv.row (h:Inv X wd F old D j i R) (he:∀ x,64*i<=x->x<64*wd->F x j=old x j) {D':Nat->Bool} (hD:∀ y,D' y=true↔D y=true\/y=j) {j' i':Nat} (hs:∀ x,x<64*i'->x<64*wd->F x j'=old x j'):Inv X wd F old D' j' i' R:=by
 obtain ⟨h1,h2,h3⟩:=h
 refine ⟨h1,h2,fun y hy x hx=>?_⟩
 rw [h3 y hy x hx]
 by_cases h4:D y=true
 ·rw [if_pos (.inl h4),if_pos (.inl ((hD y).2 (.inl h4)))]
 by_cases h5:y=j
 ·rw [if_pos (.inl ((hD y).2 (.inr h5)):D' y=true\/_)]
  by_cases h6:x / 64<i
  ·rw [if_pos (.inr ⟨h5,h6⟩)]
  ·rw [if_neg (by rintro (h7 | h7); exact h4 h7; exact h6 h7.2),h5]
   exact (he x (by omega) hx).symm
 ·rw [if_neg (by rintro (h7 | h7); exact h4 h7; exact h5 h7.1)]
  by_cases h6:y=j'/\x / 64<i'
  ·rw [if_pos (.inr h6),h6.1]
   exact (hs x (by omega) hx).symm
  ·rw [if_neg]
   rintro (h7 | h7)
   ·rcases (hD y).1 h7 with h8 | h8
    ·exact h4 h8
    ·exact h5 h8
   ·exact h6 h7
end
theorem qL {a b:Nat}:((a:Int)*(b:Int))=((a*b:Nat):Int):=(nT a b).symm
theorem QK {h0 h:Heap} {FF:List Nat} {p q W X:Nat} {ws:List Nat} {rest:List Value} (H:Hp h0 FF h (oV p q W X ws rest)) (hs:jX (W:Int) (X:Int)) (hl:ws.length=X*wds W) (hw:W64 ws) {x y w g bit:Int} (hx:InI x) (hy:InI y) (hwi:InI w) (hgi:InI g)
  (hw0:0<=w) (hg0:0<=g) (hbit:bit=0\/bit=1) {K:VK} {Kp:PK}
  (hk:∀ R h',R.length=X*wds W->W64 R->(∀ Y,Y<X->∀ x',x'<64*wds W->pix R (wds W) x' Y=if x<=x'/\(x':Int)<x+w/\x'<W/\y<=Y/\(Y:Int)<y+g then decide (bit=1) else pix ws (wds W) x' Y)->Hp h0 FF h' (oV p q W X R rest)->K (.int .i64 0) h') :
  CP rH #[.pointer (at0 p),.int .i64 x,.int .i64 y,.int .i64 w,.int .i64 g,.int .i64 bit] h K Kp:=by
 refine zZ ?_
 unfold tQ
 obtain ⟨W',X',e1,e2,hW1,hW2,hX1,hX2,hWX⟩:=jf hs
 obtain rfl:W=W':=by omega
 obtain rfl:X=X':=by omega
 clear e1 e2
 have hhw:=rR hW1 hWX
 have hwl:=vY hW1
 refine ⟨fun vs h'=>h'=h,?_,?_⟩
 ·refine fL (fun h1=>by omega) fun h1=>?_
  refine fL (fun h2=>by omega) fun h2=>?_
  refine jg (fun h3=>?_) fun h3=>rfl
  refine jg (fun h4=>by omega) fun h4=>rfl
 ·rintro h' u rfl
  try simp only [ga,gC,fN,gr]
  refine fz (H.cell 0 rfl rfl) ?_
  refine IU hx hwi (by omega) fun s1 l1 c1=>?_
  refine ⟨_,_,rfl,?_⟩
  unfold InI at hx hy hwi hgi
  refine fw ((x+s1)) (by exact i64_in _ (by omega) (by omega)) ?_
  refine fz (H.cell 0 rfl rfl) ?_
  refine IU ⟨by omega,by omega⟩ ⟨by omega,by omega⟩ (by omega) fun s2 l2 c2=>?_
  refine ⟨_,_,rfl,?_⟩
  refine fw ((y+s2)) (by exact i64_in _ (by omega) (by omega)) ?_
  refine iA (fun h3=>?_) fun h3=>?_
  ·refine hk ws _ hl hw (fun Y hY x' hx'=>?_) H
   rw [if_neg (by omega)]
  refine iA (fun h4=>?_) fun h4=>?_
  ·refine hk ws _ hl hw (fun Y hY x' hx'=>?_) H
   rw [if_neg (by omega)]
  have c1:=c1.resolve_left (by omega)
  have c2:=c2.resolve_left (by omega)
  obtain ⟨tx,htx⟩:∃ tx:Nat,x+s1=(tx:Nat):=⟨(x+s1).toNat,by omega⟩
  obtain ⟨ty,hty⟩:∃ ty:Nat,y+s2=(ty:Nat):=⟨(y+s2).toNat,by omega⟩
  obtain ⟨wide,rfl⟩:∃ n:Nat,l1=(n:Nat):=⟨l1.toNat,by omega⟩
  obtain ⟨high,rfl⟩:∃ n:Nat,l2=(n:Nat):=⟨l2.toNat,by omega⟩
  rw [htx,hty]
  have hwide:1<=wide/\tx+wide<=W:=by omega
  have hhigh:1<=high/\ty+high<=X:=by omega
  let FF':Nat->Nat->Bool:=fun x' Y=>if tx<=x'/\x'<tx+wide/\ty<=Y/\Y<ty+high then decide (bit=1) else pix ws (wds W) x' Y
  have hF:∀ x' Y,FF' x' Y=if tx<=x'/\x'<tx+wide/\ty<=Y/\Y<ty+high then decide (bit=1) else pix ws (wds W) x' Y:=fun _ _=>rfl
  have hlast:(tx+wide-1) / 64<wds W:=by unfold wds; omega
  refine ⟨fun n vs h=>∃ (j:Nat) (R:List Nat),j+n=ty+high/\ty<=j/\vs=[.int .i64 (j:Int)]/\Inv X (wds W) FF' (pix ws (wds W)) (fun Y=>decide (Y<j)) j (tx / 64) R/\Hp h0 FF h (oV p q W X R rest),
   ⟨high,ty,ws,by omega,gg _,rfl,⟨hl,hw,fun Y hY x' hx'=>?_⟩,H⟩,?_⟩
  ·simp only [hF,decide_eq_true_eq]
   split
   ·rw [if_neg (by omega)]
   ·rfl
  clear H
  rintro n h u xx ⟨j,R,hjn,hj,hxx,hI,H⟩
  injection hxx with hxx
  injection hxx with _ hxx
  subst hxx
  refine fw (((ty+high:Nat):Int)) (by exact fO _ _ (by omega) (by omega) (by omega)) ?_
  refine fL (fun h5=>?_) fun h5=>?_
  ·have h5:j<ty+high:=by omega
   have hjX:j<X:=by omega
   refine fw (((tx / 64:Nat):Int)) (by exact fO _ _ (mL tx 64) (by omega) (by omega)) ?_
   refine ⟨fun n vs h=>∃ (i:Nat) (R:List Nat),i+n=(tx+wide-1) / 64+1/\tx / 64<=i/\vs=[.int .i64 (i:Int)]/\Inv X (wds W) FF' (pix ws (wds W)) (fun Y=>decide (Y<j)) j i R/\Hp h0 FF h (oV p q W X R rest),
    ⟨(tx+wide-1) / 64+1-tx / 64,tx / 64,R,by omega,gg _,rfl,hI,H⟩,?_⟩
   clear H hI
   rintro n2 h u2 xx ⟨i,R,hin,hi,hxx,hI,H⟩
   injection hxx with hxx
   injection hxx with _ hxx
   subst hxx
   refine fw (((tx+wide:Nat):Int)) (by exact fO _ _ (by omega) (by omega) (by omega)) ?_
   refine fw (((tx+wide-1:Nat):Int)) (by exact fO _ _ (by omega) (by omega) (by omega)) ?_
   refine fw ((((tx+wide-1) / 64:Nat):Int)) (by exact fO _ _ (mL (tx+wide-1) 64) (by omega) (by omega)) ?_
   refine fL (fun h6=>?_) fun h6=>?_
   ·have h6:i<=(tx+wide-1) / 64:=by omega
    have hiw:i<wds W:=by omega
    have hidx:=rZ hiw hjX
    have hjw:j*wds W<=X*wds W:=gD _ (by omega)
    refine fU (H.cell 0 rfl rfl) ?_
    refine fz (H.cell 0 rfl rfl) ?_
    refine fw (((j*wds W:Nat):Int)) (by exact fO _ _ qL (by omega) (by omega)) ?_
    refine fw (((j*wds W+i:Nat):Int)) (by exact fO _ _ (by omega) (by omega) (by omega)) ?_
    have hRl:=hI.1
    refine fH (by omega) ?_
    try simp only [ga,gC,fN,fD,gu]
    refine fz (H.cell 1 rfl (ob (lp (lU (l:=R) (i:=j*wds W+i) (by omega))))) ?_
    refine IC (by omega) (by omega) fun M hM hMb=>?_
    refine ⟨_,rfl,gi.refl _,?_⟩
    have hv:=hI.2.1.get (j*wds W+i)
    refine fw _ (xv _ _ hv hM) ?_
    refine fH (by omega) ?_
    try simp only [ga,gC,fN,fD,gu]
    refine gq H 1 rfl (by rw [fA,iO]; omega) rfl fun h hsz H=>?_
    rw [uD _ _ _ _ (by omega)] at H
    have hwb:=fun b (hb:b<64)=>hI.word (by simp) hjX hiw hb
    have hmb:∀ b,b<64->FF' (64*i+(63-b)) j=if M.testBit b=true then decide (bit=1) else (R.getD (j*wds W+i) 0).testBit b:=fun b hb=>by
     rw [hF,hMb b hb,hwb b hb]
     simp only [decide_eq_true_eq]
     by_cases h7:tx<=64*i+(63-b)/\64*i+(63-b)<tx+wide
     ·rw [if_pos ⟨h7.1,h7.2,by omega,by omega⟩,if_pos h7]
     ·rw [if_neg (fun h8=>h7 ⟨h8.1,h8.2.1⟩),if_neg h7]
    have fin:∀ (h:Heap) (v:Nat),v<M64->(∀ b,b<64->v.testBit b=FF' (64*i+(63-b)) j)->Hp h0 FF h (oV p q W X (R.set (j*wds W+i) v) rest)->∃ m,m<n2/\∃ (i:Nat) (R:List Nat),i+m=(tx+wide-1) / 64+1/\tx / 64<=i/\[Value.int .i64 (((i:Nat):Int))]=[.int .i64 (i:Int)]/\True:=fun _ _ _ _ _=>⟨0,by omega,(tx+wide-1) / 64+1,R,by omega,by omega,rfl,trivial⟩
    clear fin
    rcases hbit with hbit | hbit
    ·subst hbit
     refine fZ (by rfl) ?_
     refine fw (((i+1:Nat):Int)) (by exact fO _ _ (by omega) (by omega) (by omega)) ?_
     refine ⟨n2-1,by omega,i+1,_,by omega,by omega,rfl,hI.step hjX hiw (v:=R.getD (j*wds W+i) 0 &&& y5 M) (ri hv) (fun b hb=>?_),H.as (by simp [oV,ph])⟩
     rw [hmb b hb,mU,s6 hM hb]
     cases M.testBit b <;> simp
    ·subst hbit
     refine gN (by rfl) ?_
     have H:Hp h0 FF h (oV p q W X (R.set (j*wds W+i) (R.getD (j*wds W+i) 0 &&& y5 M)) rest):=H.as (by simp [oV,ph])
     refine fU (H.cell 0 rfl rfl) ?_
     refine fz (H.cell 0 rfl rfl) ?_
     refine fw (((j*wds W:Nat):Int)) (by exact fO _ _ qL (by omega) (by omega)) ?_
     refine fw (((j*wds W+i:Nat):Int)) (by exact fO _ _ (by omega) (by omega) (by omega)) ?_
     refine fH (by rw [gB]; omega) ?_
     try simp only [ga,gC,fN,fD,gu]
     have hg:(R.set (j*wds W+i) (R.getD (j*wds W+i) 0 &&& y5 M))[j*wds W+i]? = some (R.getD (j*wds W+i) 0 &&& y5 M):=iD (by omega)
     refine fz (H.cell 1 rfl (ob (lp hg))) ?_
     refine IC (by omega) (by omega) fun M' hM' hMb'=>?_
     have hMM:M'=M:=I5 hM' hM fun b hb=>by rw [hMb b hb,hMb' b hb]
     subst hMM
     refine ⟨_,rfl,gi.refl _,?_⟩
     refine fw _ (Jz _ _ (ri hv) hM) ?_
     refine fH (by rw [gB]; omega) ?_
     try simp only [ga,gC,fN,fD,gu]
     refine gq H 1 rfl (by rw [fA,iO,gB]; omega) rfl fun h hsz H=>?_
     rw [uD _ _ _ _ (by rw [gB]; omega),List.set_set] at H
     refine fw (((i+1:Nat):Int)) (by exact fO _ _ (by omega) (by omega) (by omega)) ?_
     refine ⟨n2-1,by omega,i+1,_,by omega,by omega,rfl,hI.step hjX hiw (v:=R.getD (j*wds W+i) 0 &&& y5 M' ||| M') (Hg (ri hv) hM) (fun b hb=>?_),H.as (by simp [oV,ph])⟩
     rw [hmb b hb,o8,mU,s6 hM hb]
     cases M'.testBit b <;> simp
   ·have h6:(tx+wide-1) / 64<i:=by omega
    refine fw (((j+1:Nat):Int)) (by exact fO _ _ (by omega) (by omega) (by omega)) ?_
    refine ⟨n-1,by omega,j+1,R,by omega,by omega,rfl,hI.row (fun x' h7 h8=>?_) (fun Y=>by simp; omega) (fun x' h7 h8=>?_),H⟩
    ·rw [hF,if_neg (by omega)]
    ·rw [hF,if_neg (by omega)]
  ·have h5:j=ty+high:=by omega
   refine hk R _ hI.1 hI.2.1 (fun Y hY x' hx'=>?_) H
   rw [hI.2.2 Y hY x' hx']
   simp only [hF,decide_eq_true_eq]
   by_cases h6:tx<=x'/\x'<tx+wide/\ty<=Y/\Y<ty+high
   ·rw [if_pos (.inl (by omega)),if_pos h6,if_pos (by omega)]
   ·rw [if_neg (show ¬ (x<=x'/\(x':Int)<x+w/\x'<W/\y<=Y/\(Y:Int)<y+g) by omega),if_neg h6]
    split <;> rfl
def opsV:List Value:=[.func (.func nJ) #[] #[], .func (.func nI) #[] #[], .func (.func nH) #[] #[], .func (.func nG) #[] #[], .func (.func nF) #[] #[]]
theorem GD {hB:Heap} {K:VK} {Kp:PK} (hk:∀ o h,Hp hB [] h [⟨o,true,jD,opsV⟩]->K (.slice (at0 o) 5 5) h):CP pC #[] hB K Kp:=by
 refine yf ?_
 unfold qY
 have H:=Hp.nil hB []
 refine fV H fun o h H=>?_
 exact hk o _ H
theorem QQ {h:Heap} {op d s:Nat} (hop:op<5) (hd:d<M64) (hs:s<M64) {f:Value} (hf:opsV[op]? = some f) {K:VK} {Kp:PK}
  (hk:∀ v:Nat,v<M64->(∀ b,b<64->v.testBit b=opB op (d.testBit b) (s.testBit b))->K (.int .u64 (v:Nat)) h):oy CP Kp f [.int .u64 (d:Nat),.int .u64 (s:Nat)] h K:=by
 match op,hop with
 | 0,_ =>
  obtain rfl:_=f:=ig hf
  refine vC ?_
  unfold oH
  refine fw _ (Jz _ _ hd hs) (hk _ (Hg hd hs) fun b hb=>?_)
  rw [o8]; rfl
 | 1,_ =>
  obtain rfl:_=f:=ig hf
  refine vB ?_
  unfold oG
  refine fw _ (Ku _ _ hd hs) (hk _ (ri hd) fun b hb=>?_)
  rw [mU]; rfl
 | 2,_ =>
  obtain rfl:_=f:=ig hf
  refine vA ?_
  unfold oF
  refine fw _ (NA _ _ hd hs) (hk _ (HZ hd hs) fun b hb=>?_)
  rw [Nat.testBit_xor]; rfl
 | 3,_ =>
  obtain rfl:_=f:=ig hf
  refine vz ?_
  unfold oE
  refine fw _ (NA _ _ hd hs) ?_
  have hm:IntKind.u64.max=((18446744073709551615:Nat):Int):=by decide
  rw [hm]
  refine fw _ (NA _ _ (by decide) (HZ hd hs)) (hk _ (HZ (by decide) (HZ hd hs)) fun b hb=>?_)
  rw [Nat.testBit_xor,Nat.testBit_xor,show 18446744073709551615=2 ^ 64-1 from rfl,tq,decide_eq_true hb]
  show (true ^^ (d.testBit b ^^ s.testBit b)) = !(d.testBit b != s.testBit b)
  cases d.testBit b <;> cases s.testBit b <;> rfl
 | 4,_ =>
  obtain rfl:_=f:=ig hf
  refine vy ?_
  unfold oD
  exact hk _ hs fun b hb=>rfl
theorem Oy {o op:Nat} {h:Heap} {FF:List Nat} {h0:Heap} {L:List Ent} (H:Hp h0 FF h L) (k:Nat) {w:Bool} (hk:L[k]? = some ⟨o,w,jD,opsV⟩) (hop:op<5):∃ f,opsV[op]? = some f/\ic h ⟨o,op,none⟩=some f:=by
 have:op<opsV.length:=hop
 exact ⟨opsV[op],fP this,H.cell k hk (fP this)⟩
def Ir (S:List Nat) (swd r:Nat):List Nat:=(S.drop (r*swd)).take swd
theorem Oe {S:List Nat} {swd r SX:Nat} (hl:S.length=SX*swd) (hr:r<SX):(Ir S swd r).length=swd:=by
 unfold Ir
 rw [iC,kA,hl]
 have:(r+1)*swd<=SX*swd:=gD _ hr
 rw [gZ,kn] at this
 omega
theorem RA {S:List Nat} (hw:W64 S) (swd r:Nat):W64 (Ir S swd r):=fun v hv=>hw v (Bn (List.mem_of_mem_take hv))
theorem Od {S:List Nat} {swd r x:Nat} (hx:x<64*swd):KL (Ir S swd r) (x:Int)=pix S swd x r:=by
 unfold KL pix Ir
 rw [decide_eq_true (by omega),jm,fD]
 congr 1
 rw [fY,fY,vU (by omega),kS]
set_option maxHeartbeats 1000000 in
theorem QY {h0 h:Heap} {FF:List Nat} {p q W X p2 q2 W2 X2:Nat} {ws ws2:List Nat} {rest rest2:List Value} (H:Hp h0 FF h (oV p q W X ws rest++oV p2 q2 W2 X2 ws2 rest2)) (hs:jX (W:Int) (X:Int)) (hl:ws.length=X*wds W) (hw:W64 ws)
  (hs2:jX (W2:Int) (X2:Int)) (hl2:ws2.length=X2*wds W2) (hw2:W64 ws2) {sx sy w g dx dy:Int} {op:Nat} (hsx:InI sx) (hsy:InI sy) (hwi:InI w) (hgi:InI g) (hdx:InI dx) (hdy:InI dy) (hw0:0<=w) (hg0:0<=g) (hop:op<5)
  {K:VK} {Kp:PK}
  (hk:∀ R h',R.length=X*wds W->W64 R->(∀ Y,Y<X->∀ x',x'<64*wds W->pix R (wds W) x' Y =
    if dx<=x'/\(x':Int)<dx+w/\x'<W/\dy<=Y/\(Y:Int)<dy+g/\0<=sx+(x'-dx)/\sx+(x'-dx)<W2/\0<=sy+(Y-dy)/\sy+(Y-dy)<X2 then opB op (pix ws (wds W) x' Y) (pix ws2 (wds W2) (sx+(x'-dx)).toNat (sy+(Y-dy)).toNat) else pix ws (wds W) x' Y) ->
   Hp h0 FF h' (oV p q W X R rest++oV p2 q2 W2 X2 ws2 rest2)->K (.int .i64 0) h') :
  CP rI #[.pointer (at0 p),.pointer (at0 p2),.int .i64 sx,.int .i64 sy,.int .i64 w,.int .i64 g,.int .i64 dx,.int .i64 dy,.int .i64 (op:Nat)] h K Kp:=by
 refine z4 ?_
 unfold tR
 obtain ⟨W',X',e1,e2,hW1,hW2,hX1,hX2,hWX⟩:=jf hs
 obtain rfl:W=W':=by omega
 obtain rfl:X=X':=by omega
 obtain ⟨W',X',e3,e4,hV1,hV2,hY1,hY2,hVY⟩:=jf hs2
 obtain rfl:W2=W':=by omega
 obtain rfl:X2=X':=by omega
 clear e1 e2 e3 e4
 have hhw:=rR hW1 hWX
 have hwl:=vY hW1
 have hhw2:=rR hV1 hVY
 have hwl2:=vY hV1
 have hwp2:=Ap hV1
 refine fZ (by rfl) ?_
 refine fL (fun h1=>by omega) fun h1=>?_
 refine fL (fun h2=>by omega) fun h2=>?_
 refine fL (fun h3=>by omega) fun h3=>?_
 refine fL (fun h4=>by omega) fun h4=>?_
 clear h1 h2 h3 h4
 try simp only [ga,gC,fN,gr]
 refine fz (H.cell 2 rfl (i:=0) rfl) ?_
 refine fz (H.cell 0 rfl rfl) ?_
 refine Mt hsx hdx hwi (by omega) (by omega) fun f1 t1 l1 c1=>?_
 refine ⟨_,_,_,rfl,?_⟩
 refine fz (H.cell 2 rfl (i:=1) rfl) ?_
 refine fz (H.cell 0 rfl rfl) ?_
 refine Mt hsy hdy hgi (by omega) (by omega) fun f2 t2 l2 c2=>?_
 refine ⟨_,_,_,rfl,?_⟩
 have none:(l1=0\/l2=0)->K (.int .i64 0) h:=fun hz=>by
  refine hk ws _ hl hw (fun Y hY x' hx'=>?_) H
  rw [if_neg]
  rintro ⟨g1,g2,g3,g4,g5,g6,g7,g8,g9⟩
  rcases hz with hz | hz
  ·rcases c1 with ⟨_,c1⟩ | c1
   ·exact c1 (x'-dx) (by omega) (by omega) (by omega) (by omega) (by omega) (by omega)
   ·omega
  ·rcases c2 with ⟨_,c2⟩ | c2
   ·exact c2 (Y-dy) (by omega) (by omega) (by omega) (by omega) (by omega) (by omega)
   ·omega
 refine iA (fun h3=>none (.inl h3)) fun h3=>?_
 refine iA (fun h4=>none (.inr h4)) fun h4=>?_
 clear none
 obtain ⟨a1,a2,a3,a4,a5,a6,a7,a8,a9⟩:=c1.resolve_left (fun h=>h3 h.1)
 obtain ⟨b1,b2,b3,b4,b5,b6,b7,b8,b9⟩:=c2.resolve_left (fun h=>h4 h.1)
 clear c1 c2 h3 h4
 obtain ⟨fx,rfl⟩:∃ n:Nat,f1=(n:Nat):=⟨f1.toNat,by omega⟩
 obtain ⟨tx,rfl⟩:∃ n:Nat,t1=(n:Nat):=⟨t1.toNat,by omega⟩
 obtain ⟨wide,rfl⟩:∃ n:Nat,l1=(n:Nat):=⟨l1.toNat,by omega⟩
 obtain ⟨fy,rfl⟩:∃ n:Nat,f2=(n:Nat):=⟨f2.toNat,by omega⟩
 obtain ⟨ty,rfl⟩:∃ n:Nat,t2=(n:Nat):=⟨t2.toNat,by omega⟩
 obtain ⟨high,rfl⟩:∃ n:Nat,l2=(n:Nat):=⟨l2.toNat,by omega⟩
 refine GD fun o h' H'=>?_
 replace H:=H.join H' rfl
 clear H'
 refine ⟨_,_,_,rfl,?_⟩
 refine fH (by omega) ?_
 obtain ⟨fv,hfv,hfc⟩:=Oy H 4 rfl hop
 simp only [ga,gC,fN,fD,gu]
 refine RU hfc ?_
 refine fz (H.cell 2 rfl (i:=2) rfl) ?_
 refine fH (by simp; omega) ?_
 simp only [fD,Dc]
 refine fV H fun rw h H=>?_
 let G:Nat->Nat->Bool:=fun x' Y=>if tx<=x'/\x'<tx+wide/\ty<=Y/\Y<ty+high then opB op (pix ws (wds W) x' Y) (pix ws2 (wds W2) (fx+(x'-tx)) (fy+(Y-ty))) else pix ws (wds W) x' Y
 have hG:∀ x' Y,G x' Y=if tx<=x'/\x'<tx+wide/\ty<=Y/\Y<ty+high then opB op (pix ws (wds W) x' Y) (pix ws2 (wds W2) (fx+(x'-tx)) (fy+(Y-ty))) else pix ws (wds W) x' Y:=fun _ _=>rfl
 have hlast:(tx+wide-1) / 64<wds W:=by unfold wds; omega
 have hsrc:W2<=64*wds W2:=by unfold wds; omega
 let D:Nat->Nat->Bool:=fun n Y=>if fy<ty then decide (ty+(high-n)<=Y/\Y<ty+high) else decide (ty<=Y/\Y<ty+n)
 have hD:∀ n Y,D n Y=true↔(fy<ty/\ty+(high-n)<=Y/\Y<ty+high)\/(¬ fy<ty/\ty<=Y/\Y<ty+n):=fun n Y=>by
  show (if fy<ty then _ else _)=true↔_
  by_cases h1:fy<ty
  ·rw [if_pos h1,decide_eq_true_eq]; omega
  ·rw [if_neg h1,decide_eq_true_eq]; omega
 have hrw0:W64 (List.replicate (wds W2) 0):=W64.zero _
 refine ⟨fun n vs h=>∃ (j J0:Nat) (R rs:List Nat),j+n=high/\vs=[.int .i64 (j:Int)]/\rs.length=wds W2/\Inv X (wds W) G (pix ws (wds W)) (D j) J0 (tx / 64) R/\J0<X /\
   Hp h0 FF h (oV p q W X R rest++oV p2 q2 W2 X2 ws2 rest2++[⟨o,true,jD,opsV⟩]++[⟨rw,true,gj,il rs⟩]),
  ⟨high,0,0,ws,List.replicate (wds W2) 0,by omega,rfl,by simp,⟨hl,hw,fun Y hY x' hx'=>?_⟩,by omega,H⟩,?_⟩
 ·by_cases h5:D 0 Y=true\/Y=0/\x' / 64<tx / 64
  ·rw [if_pos h5,hG,if_neg]
   rcases h5 with h5 | h5
   ·have:=(hD 0 Y).1 h5; omega
   ·omega
  ·rw [if_neg h5]
 clear H hrw0
 rintro n h u xx ⟨j,J0,R,rs,hjn,hxx,hrs,hI,hJ0,H⟩
 injection hxx with hxx
 injection hxx with _ hxx
 subst hxx
 refine fL (fun h5=>?_) fun h5=>?_
 ·have h5:j<high:=by omega
  obtain ⟨jj,hjj⟩:∃ jj:Nat,jj=if fy<ty then high-1-j else j:=⟨_,rfl⟩
  have hjj2:fy<ty/\jj+j+1=high\/¬ fy<ty/\jj=j:=by
   by_cases h1:fy<ty
   ·rw [if_pos h1] at hjj; left; omega
   ·rw [if_neg h1] at hjj; right; exact ⟨h1,hjj⟩
  refine ⟨fun vs h'=>h'=h/\vs=[.int .i64 (jj:Int)],?_,?_⟩
  ·refine fL (fun h6=>?_) fun h6=>?_
   ·refine fw (((high-1:Nat):Int)) (by exact fO _ _ (by omega) (by omega) (by omega)) ?_
    refine fw (((jj:Nat):Int)) (by exact fO _ _ (by omega) (by omega) (by omega)) ?_
    exact ⟨by first | rfl | trivial,rfl⟩
   ·have:jj=j:=by omega
    rw [this]
    exact ⟨by first | rfl | trivial,rfl⟩
  ·rintro h' u' x39 ⟨rfl,hx39⟩
   injection hx39 with hx39
   injection hx39 with _ hx39
   subst hx39
   have hjh:jj<high:=by omega
   have hsrow:fy+jj<X2:=by omega
   have hdrow:ty+jj<X:=by omega
   have hrow2:(fy+jj+1)*wds W2<=X2*wds W2:=gD _ (by omega)
   have hrow2':(fy+jj+1)*wds W2=(fy+jj)*wds W2+wds W2:=by rw [gZ,kn]
   refine fw (((fy+jj:Nat):Int)) (by exact fO _ _ (by omega) (by omega) (by omega)) ?_
   try simp only [ga,gC,fN,gr]
   refine fz (H.cell 2 rfl (i:=2) rfl) ?_
   refine fw ((((fy+jj)*wds W2:Nat):Int)) (by exact fO _ _ qL (by omega) (by omega)) ?_
   generalize hat:(fy+jj)*wds W2=at_ at hrow2 hrow2' ⊢
   refine fU (H.cell 2 rfl (i:=3) rfl) ?_
   refine fz (H.cell 2 rfl (i:=2) rfl) ?_
   refine fw (((at_+wds W2:Nat):Int)) (by exact fO _ _ (by omega) (by omega) (by omega)) ?_
   refine fz (H.cell 2 rfl (i:=2) rfl) ?_
   refine fw (((at_+wds W2:Nat):Int)) (by exact fO _ _ (by omega) (by omega) (by omega)) ?_
   refine fH (by omega) ?_
   refine fH (by omega) ?_
   refine fH (by omega) ?_
   simp only [fD]
   have hsub:we (at0 q2) (at_+wds W2) at_ 1=some ⟨q2,at_,none⟩:=by
    unfold we
    rw [if_neg (by omega)]
    show some ((⟨q2,0,none⟩:Addr).add (at_*1))=_
    rw [gC]; simp
   rw [hsub]
   have hmin:Nat.min (at_+wds W2-at_) (wds W2)=wds W2:=by
    show min (at_+wds W2-at_) (wds W2)=_
    omega
   have hnew:((il ws2++rest2).drop at_).take (wds W2*1)=il (Ir ws2 (wds W2) (fy+jj)):=by
    unfold Ir
    rw [hat,gu,m4 (by rw [iO]; omega),jr (by rw [kA,iO]; omega)]
    unfold il
    rw [GR,Ch]
   have hrd:=pf H 3 (o:=at_) (n:=wds W2*1) rfl (by rw [fA,iO]; omega)
   rw [hnew] at hrd
   have hrl:=Oe hl2 hsrow
   refine ⟨_,by rw [hmin]; exact hrd,?_⟩
   refine wV H 5 rfl (by rw [iO,iO,hrl,hrs]) (xH _) fun h' hsz H=>?_
   have H:Hp h0 FF h' (oV p q W X R rest++oV p2 q2 W2 X2 ws2 rest2++[⟨o,true,jD,opsV⟩]++[⟨rw,true,gj,il (Ir ws2 (wds W2) (fy+jj))⟩]):=H
   have hrwp:=fun x (hx:x<64*wds W2)=>Od (S:=ws2) (swd:=wds W2) (r:=fy+jj) hx
   have hrww:=RA hw2 (wds W2) (fy+jj)
   generalize Ir ws2 (wds W2) (fy+jj)=rw2 at H hrl hrwp hrww
   have hDj:D j (ty+jj)=false:=by
    rw [<- Bool.not_eq_true,hD]; omega
   have hI2:Inv X (wds W) G (pix ws (wds W)) (D j) (ty+jj) (tx / 64) R:=by
    refine ⟨hI.1,hI.2.1,fun Y hY x' hx'=>?_⟩
    rw [hI.2.2 Y hY x' hx']
    have e:∀ Y,x' / 64<tx / 64->G x' Y=pix ws (wds W) x' Y:=fun Y h6=>by rw [hG,if_neg (by omega)]
    by_cases h6:D j Y=true
    ·rw [if_pos (.inl h6),if_pos (.inl h6)]
    ·by_cases h7:x' / 64<tx / 64
     ·have:=e Y h7
      split <;> split <;> first | rfl | exact this | exact this.symm
     ·rw [if_neg (by rintro (h8 | h8); exact h6 h8; exact h7 h8.2),if_neg (by rintro (h8 | h8); exact h6 h8; exact h7 h8.2)]
   clear hI
   refine fw (((tx / 64:Nat):Int)) (by exact fO _ _ (mL tx 64) (by omega) (by omega)) ?_
   refine ⟨fun n vs h=>∃ (i:Nat) (R:List Nat),i+n=(tx+wide-1) / 64+1/\tx / 64<=i/\vs=[.int .i64 (i:Int)]/\Inv X (wds W) G (pix ws (wds W)) (D j) (ty+jj) i R /\
     Hp h0 FF h (oV p q W X R rest++oV p2 q2 W2 X2 ws2 rest2++[⟨o,true,jD,opsV⟩]++[⟨rw,true,gj,il rw2⟩]),
    ⟨(tx+wide-1) / 64+1-tx / 64,tx / 64,R,by omega,gg _,rfl,hI2,H⟩,?_⟩
   clear H hI2
   rintro n2 h u2 xx ⟨i,R,hin,hi,hxx,hI,H⟩
   injection hxx with hxx
   injection hxx with _ hxx
   subst hxx
   refine fw (((tx+wide:Nat):Int)) (by exact fO _ _ (by omega) (by omega) (by omega)) ?_
   refine fw (((tx+wide-1:Nat):Int)) (by exact fO _ _ (by omega) (by omega) (by omega)) ?_
   refine fw ((((tx+wide-1) / 64:Nat):Int)) (by exact fO _ _ (mL (tx+wide-1) 64) (by omega) (by omega)) ?_
   refine fL (fun h6=>?_) fun h6=>?_
   ·have h6:i<=(tx+wide-1) / 64:=by omega
    have hiw:i<wds W:=by omega
    have hidx:=rZ hiw hdrow
    have hjw:(ty+jj)*wds W<=X*wds W:=gD _ (by omega)
    have hRl:=hI.1
    refine fw (((ty+jj:Nat):Int)) (by exact fO _ _ (by omega) (by omega) (by omega)) ?_
    refine fU (H.cell 0 rfl rfl) ?_
    refine fz (H.cell 0 rfl rfl) ?_
    refine fw ((((ty+jj)*wds W:Nat):Int)) (by exact fO _ _ qL (by omega) (by omega)) ?_
    refine fw ((((ty+jj)*wds W+i:Nat):Int)) (by exact fO _ _ (by omega) (by omega) (by omega)) ?_
    refine fH (by omega) ?_
    try simp only [ga,gC,fN,fD,gu]
    refine IC (by omega) (by omega) fun M hM hMb=>?_
    refine ⟨_,rfl,?_⟩
    refine fw (((64*i:Nat):Int)) (by exact fO _ _ (by omega) (by omega) (by omega)) ?_
    refine fw (((fx+64*i:Nat):Int)) (by exact fO _ _ (by omega) (by omega) (by omega)) ?_
    refine fw ((((fx+64*i:Nat):Int)-(tx:Nat))) (by exact i64_in _ (by omega) (by omega)) ?_
    have ic:=H.cell 1 rfl (ob (lp (lU (l:=R) (i:=(ty+jj)*wds W+i) (by omega))))
    have hv:=hI.2.1.get ((ty+jj)*wds W+i)
    refine fz ic ?_
    refine fw _ (xv _ _ hv hM) ?_
    refine fz ic ?_
    have hrr:=Iq (xs:=rw2) (rest:=[]) H 5 (b:=rw) (w:=true) (t:=gj) (by rw [fT]; rfl)
    rw [<- hrl]
    refine PY hrr hrww (by omega) (by omega) fun V hV hVb=>?_
    refine ⟨_,rfl,gi.refl _,?_⟩
    refine QQ hop hv hV hfv fun v hvv hvb=>?_
    refine ⟨_,rfl,gi.refl _,?_⟩
    refine fw _ (Ku _ _ hvv hM) ?_
    refine fw _ (Jz _ _ (ri hv) (ri hvv)) ?_
    refine gq H 1 rfl (by rw [fA,iO]; omega) rfl fun h hsz H=>?_
    rw [uD _ _ _ _ (by omega)] at H
    refine fw (((i+1:Nat):Int)) (by exact fO _ _ (by omega) (by omega) (by omega)) ?_
    refine ⟨n2-1,by omega,i+1,_,by omega,by omega,rfl,hI.step hdrow hiw (v:=R.getD ((ty+jj)*wds W+i) 0 &&& y5 M ||| v &&& M) (Hg (ri hv) (ri hvv)) (fun b hb=>?_),H.as (by simp [oV,ph])⟩
    have hwb:=hI.word hDj hdrow hiw hb
    rw [o8,mU,mU,s6 hM hb,hvb b hb,hMb b hb,hVb b hb,hwb,hG]
    by_cases h7:tx<=64*i+(63-b)/\64*i+(63-b)<tx+wide
    ·rw [decide_eq_true h7,if_pos ⟨h7.1,h7.2,by omega,by omega⟩]
     have e1:((fx+64*i:Nat):Int)-(tx:Nat)+(63-(b:Int))=((fx+(64*i+(63-b)-tx):Nat):Int):=by omega
     have e2:ty+jj-ty=jj:=by omega
     rw [e1,hrwp _ (by omega),e2]
     simp
    ·rw [decide_eq_false h7,if_neg (fun h8=>h7 ⟨h8.1,h8.2.1⟩)]
     simp
   ·have h6:(tx+wide-1) / 64<i:=by omega
    refine fw (((j+1:Nat):Int)) (by exact fO _ _ (by omega) (by omega) (by omega)) ?_
    refine ⟨n-1,by omega,j+1,ty+jj,R,rw2,by omega,rfl,hrl,hI.row (fun x' h7 h8=>?_) (fun Y=>?_) (fun x' h7 h8=>?_),hdrow,H⟩
    ·rw [hG,if_neg (by omega)]
    ·rw [hD,hD]; omega
    ·rw [hG,if_neg (by omega)]
 ·have h5:j=high:=by omega
  subst h5
  refine hk R _ hI.1 hI.2.1 (fun Y hY x' hx'=>?_) (H.pre.pre)
  rw [hI.2.2 Y hY x' hx']
  have e1:(D j Y=true\/Y=J0/\x' / 64<tx / 64)->G x' Y=if tx<=x'/\x'<tx+wide/\ty<=Y/\Y<ty+j then opB op (pix ws (wds W) x' Y) (pix ws2 (wds W2) (fx+(x'-tx)) (fy+(Y-ty))) else pix ws (wds W) x' Y:=fun _=>hG x' Y
  by_cases h6:tx<=x'/\x'<tx+wide/\ty<=Y/\Y<ty+j
  ·rw [if_pos (.inl ((hD j Y).2 (by omega))),hG,if_pos h6,if_pos (by omega)]
   congr 2 <;> omega
  ·have hno:¬ (dx<=x'/\(x':Int)<dx+w/\x'<W/\dy<=Y/\(Y:Int)<dy+g/\0<=sx+(x'-dx)/\sx+(x'-dx)<W2/\0<=sy+(Y-dy)/\sy+(Y-dy)<X2):=by
    rintro ⟨g1,g2,g3,g4,g5,g6,g7,g8,g9⟩
    have k1:=a9 (x'-dx) (by omega) (by omega) (by omega) (by omega) (by omega) (by omega)
    have k2:=b9 (Y-dy) (by omega) (by omega) (by omega) (by omega) (by omega) (by omega)
    exact h6 (by omega)
   rw [if_neg hno]
   split
   ·rw [hG,if_neg h6]
   ·rfl
theorem NH {hB:Heap} {W X:Nat} (hs:jX (W:Int) (X:Int)) {K:VK} {Kp:PK}
  (hk:∀ q h,Hp hB [] h [⟨q,true,gj,il (List.replicate (X*wds W) 0)⟩]->K (.agg #[.int .i64 (W:Nat),.int .i64 (X:Nat),.slice (at0 q) (X*wds W) (X*wds W)]) h) :
  CP og #[.int .i64 (W:Nat),.int .i64 (X:Nat)] hB K Kp:=by
 refine zS ?_
 unfold tJ
 obtain ⟨W',X',e1,e2,hW1,hW2,hX1,hX2,hWX⟩:=jf hs
 obtain rfl:W=W':=by omega
 obtain rfl:X=X':=by omega
 have hhw:=rR hW1 hWX
 have H:=Hp.nil hB []
 refine fV H fun r h H=>?_
 refine y4 (by omega) ?_
 refine ⟨_,rfl,?_⟩
 obtain ⟨N,hN⟩:∃ N,N=X*wds W:=⟨_,rfl⟩
 refine fw (((N:Nat):Int)) (by exact fO _ _ (by rw [hN]; exact qL) (by omega) (by omega)) ?_
 refine fH (by simp; omega) ?_
 simp only [fD,Dc]
 refine fV H fun q h H=>?_
 try simp only [ga,gC,fN,gr]
 refine gq H 0 rfl (by first | exact fB rfl | simp) rfl fun h hsz H=>?_
 refine gq H 0 rfl (by first | exact fB rfl | simp) rfl fun h hsz H=>?_
 refine gq H 0 rfl (by first | exact fB rfl | simp) rfl fun h hsz H=>?_
 refine fz (H.cell 0 rfl rfl) ?_
 refine fz (H.cell 0 rfl rfl) ?_
 refine fU (H.cell 0 rfl rfl) ?_
 have:=hk q _ (H.pick [1] (by decide) (L':=[⟨q,true,gj,il (List.replicate (X*wds W) 0)⟩]) (by rw [<- hN]; rfl))
 rw [hN]
 exact this
def jR (ws:List Nat) (W X:Nat) (x y:Int):Bool:=decide (0<=x/\0<=y/\x<W/\y<X) && pix ws (wds W) x.toNat y.toNat
theorem xY {W x:Nat} (h:x<W):x / 64<wds W:=by unfold wds; omega
theorem wv {hB:Heap} {q:Option Addr} {c W X:Nat} {ws:List Nat} (hr:rdO hB q (ws.length*1) (il ws)) (hw:W64 ws) (hs:jX (W:Int) (X:Int)) (hl:ws.length=X*wds W) {x y:Int} {K:VK} {Kp:PK}
  (hk:∀ h,gi hB h->K (.int .i64 ((jR ws W X x y).toNat:Nat)) h):CP jJ #[.agg #[.int .i64 (W:Nat),.int .i64 (X:Nat),.slice q ws.length c],.int .i64 x,.int .i64 y] hB K Kp:=by
 refine B8 ?_
 unfold wL
 obtain ⟨W',X',e1,e2,hW1,hW2,hX1,hX2,hWX⟩:=jf hs
 obtain rfl:W=W':=by omega
 obtain rfl:X=X':=by omega
 have hhw:=rR hW1 hWX
 have hwl:=vY hW1
 have H:=Hp.nil hB []
 refine fV H fun r h H=>?_
 have no:∀ h,Hp hB [] h [⟨r,true,fK,[.int .i64 (W:Nat),.int .i64 (X:Nat),.slice q ws.length c]⟩]->¬ (0<=x/\0<=y/\x<W/\y<X)->K (.int .i64 0) h:=fun h H hno=>by
  have:=hk h H.gi
  unfold jR at this
  rw [decide_eq_false hno] at this
  exact this
 refine fL (fun h1=>no _ H (by omega)) fun h1=>?_
 refine fL (fun h2=>no _ H (by omega)) fun h2=>?_
 try simp only [ga,gC,fN,gr]
 refine fz (H.cell 0 rfl rfl) ?_
 refine fL (fun h3=>no _ H (by omega)) fun h3=>?_
 refine fz (H.cell 0 rfl rfl) ?_
 refine fL (fun h4=>no _ H (by omega)) fun h4=>?_
 obtain ⟨a,rfl⟩:∃ a:Nat,x=(a:Nat):=⟨x.toNat,by omega⟩
 obtain ⟨b,rfl⟩:∃ b:Nat,y=(b:Nat):=⟨y.toNat,by omega⟩
 have haw:=xY (show a<W by omega)
 have hidx:=rZ haw (show b<X by omega)
 have hbw:b*wds W<=X*wds W:=gD _ (by omega)
 have h64:=iP a (show 64 > 0 by decide)
 refine fw (((a / 64:Nat):Int)) (by exact fO _ _ (mL a 64) (by omega) (by omega)) ?_
 refine fw (((a % 64:Nat):Int)) (by exact kM a 64) ?_
 refine fw (((63-a % 64:Nat):Int)) (by exact fO _ _ (by omega) (by omega) (by omega)) ?_
 refine fw (((63-a % 64:Nat):Int)) (by exact u64_in _ (by omega) (by omega)) ?_
 refine fU (H.cell 0 rfl rfl) ?_
 refine fz (H.cell 0 rfl rfl) ?_
 refine y4 (by omega) ?_
 refine ⟨_,rfl,gi.refl _,?_⟩
 refine fw (((b*wds W:Nat):Int)) (by exact fO _ _ qL (by omega) (by omega)) ?_
 refine fw (((b*wds W+a / 64:Nat):Int)) (by exact fO _ _ (by omega) (by omega) (by omega)) ?_
 refine fH (by omega) ?_
 obtain ⟨ad,had,hc⟩:=m9 (H.rdO hr) (lp (lU (l:=ws) (i:=b*wds W+a / 64) (by omega)))
 subst had
 simp only [ga,fD,gu]
 refine fz hc ?_
 refine fH (by omega) ?_
 have hv:=hw.get (b*wds W+a / 64)
 have hres:=hk _ H.gi
 unfold jR pix at hres
 rw [decide_eq_true (by omega),jm,fD,fD] at hres
 generalize ws.getD (b*wds W+a / 64) 0=v at hv hres ⊢
 refine fw (((v / 2 ^ (63-a % 64):Nat):Int)) (by exact lG (by show 63-a % 64<=64; omega)) ?_
 have hlt:=ir (kz v (2 ^ (63-a % 64))) hv
 refine fw (((v / 2 ^ (63-a % 64) % 2:Nat):Int)) (by exact (Ku _ 1 hlt (by decide)).trans (by rw [kR])) ?_
 refine fw (((v / 2 ^ (63-a % 64) % 2:Nat):Int)) (by exact i64_in _ (by omega) (by omega)) ?_
 have e:v / 2 ^ (63-a % 64) % 2=(v.testBit (63-a % 64)).toNat:=(Nat.toNat_testBit v _).symm
 rw [e]
 exact hres
theorem ES {j k:Nat}:(2 ^ j).testBit k=decide (j=k):=Nat.testBit_two_pow
theorem BH {h0 h:Heap} {FF:List Nat} {L:List Ent} {q c W X:Nat} {ws:List Nat} {rest:List Value} (H:Hp h0 FF h L) (kq:Nat) (hq:L[kq]? = some ⟨q,true,gj,il ws++rest⟩) (hw:W64 ws) (hs:jX (W:Int) (X:Int)) (hl:ws.length=X*wds W) {a b:Nat} (ha:a<W) (hb:b<X) {bit:Bool}
  {K:VK} {Kp:PK}
  (hk:∀ R h',R.length=ws.length->W64 R->(∀ y,y<X->∀ x,x<64*wds W->pix R (wds W) x y=if y=b/\x=a then bit else pix ws (wds W) x y)->Hp h0 FF h' (L.set kq ⟨q,true,gj,il R++rest⟩)->K (.tuple #[]) h') :
  CP pW #[.agg #[.int .i64 (W:Nat),.int .i64 (X:Nat),.slice (at0 q) ws.length c],.int .i64 (a:Nat),.int .i64 (b:Nat),.int .i64 (bit.toNat:Nat)] h K Kp:=by
 refine B5 ?_
 unfold wH
 obtain ⟨W',X',e1,e2,hW1,hW2,hX1,hX2,hWX⟩:=jf hs
 obtain rfl:W=W':=by omega
 obtain rfl:X=X':=by omega
 have hhw:=rR hW1 hWX
 have hwl:=vY hW1
 have hkl:kq<L.length:=(List.getElem?_eq_some_iff.1 hq).1
 refine fV H fun r h H=>?_
 have H:=H.rot
 have hq1:∀ e:Ent,([e]++L)[kq+1]? = some ⟨q,true,gj,il ws++rest⟩:=fun e=>by rw [List.singleton_append,mb]; exact hq
 try simp only [ga,gC,fN,gr]
 refine fz (H.cell 0 rfl rfl) ?_
 refine y4 (by omega) ?_
 refine ⟨_,rfl,?_⟩
 have haw:=xY ha
 have hidx:=rZ haw hb
 have hbw:b*wds W<=X*wds W:=gD _ (by omega)
 have h64:=iP a (show 64 > 0 by decide)
 refine fw (((b*wds W:Nat):Int)) (by exact fO _ _ qL (by omega) (by omega)) ?_
 refine fw (((a / 64:Nat):Int)) (by exact fO _ _ (mL a 64) (by omega) (by omega)) ?_
 refine fw (((b*wds W+a / 64:Nat):Int)) (by exact fO _ _ (by omega) (by omega) (by omega)) ?_
 refine fw (((a % 64:Nat):Int)) (by exact kM a 64) ?_
 refine fw (((63-a % 64:Nat):Int)) (by exact fO _ _ (by omega) (by omega) (by omega)) ?_
 refine fw (((63-a % 64:Nat):Int)) (by exact u64_in _ (by omega) (by omega)) ?_
 refine fH (by omega) ?_
 have hp:2 ^ (63-a % 64)<M64:=by rw [C5]; exact Nat.pow_lt_pow_right (by decide) (by omega)
 refine fw (((2 ^ (63-a % 64):Nat):Int)) (by exact lP (x:=1) (by show 63-a % 64<=64; omega) (by rw [kn,Cn,jC hp])) ?_
 refine fU (H.cell 0 rfl rfl) ?_
 refine fU (H.cell 0 rfl rfl) ?_
 refine fH (by omega) ?_
 try simp only [ga,gC,fN,fD,gu]
 have hv:=hw.get (b*wds W+a / 64)
 refine fz (H.cell (kq+1) (hq1 _) (ob (lp (lU (l:=ws) (i:=b*wds W+a / 64) (by omega))))) ?_
 refine fw _ (xv _ _ hv hp) ?_
 refine fH (by omega) ?_
 try simp only [ga,gC,fN,fD,gu]
 refine gq H (kq+1) (hq1 _) (by rw [fA,iO]; omega) rfl fun h hsz H=>?_
 rw [uD _ _ _ _ (by omega),List.singleton_append,rT] at H
 have fin:∀ v:Nat,v<M64->(∀ j,j<64->v.testBit j=if j=63-a % 64 then bit else (ws.getD (b*wds W+a / 64) 0).testBit j)->∀ h',Hp h0 FF h' (⟨r,true,fK,[.int .i64 (W:Nat),.int .i64 (X:Nat),.slice (at0 q) ws.length c]⟩::L.set kq ⟨q,true,gj,il (ws.set (b*wds W+a / 64) v)++rest⟩)->K (.tuple #[]) h':=by
  intro v hvv hvb h' H
  refine hk _ h' (by rw [gB]) (hw.set hvv) (fun y hy x hx=>?_) (Hp.suf (X:=[_]) H)
  rw [Iu hl haw hb hx]
  by_cases h1:y=b/\x / 64=a / 64
  ·rw [if_pos h1,hvb _ (by omega)]
   by_cases h2:x=a
   ·subst h2
    rw [if_pos rfl,if_pos ⟨h1.1,rfl⟩]
   ·rw [if_neg (by omega),if_neg (fun h=>h2 h.2)]
    unfold pix
    rw [h1.1,h1.2]
  ·rw [if_neg h1,if_neg]
   rintro ⟨h2,h3⟩
   exact h1 ⟨h2,by rw [h3]⟩
 have hbits:∀ j,j<64->(ws.getD (b*wds W+a / 64) 0 &&& y5 (2 ^ (63-a % 64))).testBit j=if j=63-a % 64 then false else (ws.getD (b*wds W+a / 64) 0).testBit j:=fun j hj=>by
  rw [mU,s6 hp hj,ES]
  by_cases h1:j=63-a % 64
  ·rw [if_pos h1,decide_eq_true h1.symm]; simp
  ·rw [if_neg h1,decide_eq_false (fun h=>h1 h.symm)]; simp
 cases bit with
 | false =>
  refine fZ (by rfl) ?_
  exact fin _ (ri hv) hbits _ H
 | true =>
  refine gN (by rfl) ?_
  refine fU (H.cell 0 rfl rfl) ?_
  refine fU (H.cell 0 rfl rfl) ?_
  refine fH (by omega) ?_
  try simp only [ga,gC,fN,fD,gu]
  have hq3:∀ (e:Ent) (R:List Nat),(e::L.set kq ⟨q,true,gj,il R++rest⟩)[kq+1]? = some ⟨q,true,gj,il R++rest⟩:=fun e R=>by rw [mb,iD hkl]
  have hg:(ws.set (b*wds W+a / 64) (ws.getD (b*wds W+a / 64) 0 &&& y5 (2 ^ (63-a % 64))))[b*wds W+a / 64]? = some (ws.getD (b*wds W+a / 64) 0 &&& y5 (2 ^ (63-a % 64))):=iD (by omega)
  refine fz (H.cell (kq+1) (hq3 _ _) (ob (lp hg))) ?_
  refine fw _ (Jz _ _ (ri hv) hp) ?_
  refine fH (by omega) ?_
  try simp only [ga,gC,fN,fD,gu]
  refine gq H (kq+1) (hq3 _ _) (by rw [fA,iO,gB]; omega) rfl fun h hsz H=>?_
  rw [uD _ _ _ _ (by rw [gB]; omega),List.set_set,rT,List.set_set] at H
  refine fin _ (Hg (ri hv) hp) (fun j hj=>?_) _ H
  rw [o8,hbits j hj,ES]
  by_cases h1:j=63-a % 64
  ·rw [if_pos h1,if_pos h1,decide_eq_true h1.symm]; simp
  ·rw [if_neg h1,if_neg h1,decide_eq_false (fun h=>h1 h.symm)]; simp
theorem SY {h:Heap} {op:Nat} (hop:op<5) {d s:Bool} {K:VK} {Kp:PK} (hk:K (.int .i64 ((opB op d s).toNat:Nat)) h):CP vo #[.int .i64 (op:Nat),.int .i64 (d.toNat:Nat),.int .i64 (s.toNat:Nat)] h K Kp:=by
 refine CU ?_
 unfold ym
 have key:∀ (x:Int) (b:Bool),x=((b.toNat:Nat):Int)->b=opB op d s->K (.int .i64 x) h:=fun x b hx hb=>by subst hb; rw [hx]; exact hk
 match op,hop with
 | 0,_ =>
  refine gN (by rfl) ?_
  refine nU fun z e=>?_
  subst e
  refine key _ (d || s) ?_ rfl
  cases d <;> cases s <;> decide
 | 1,_ =>
  refine fZ (by rfl) ?_
  refine gN (by rfl) ?_
  refine nU fun z e=>?_
  subst e
  refine key _ (d && s) ?_ rfl
  cases d <;> cases s <;> decide
 | 2,_ =>
  refine fZ (by rfl) ?_
  refine fZ (by rfl) ?_
  refine gN (by rfl) ?_
  refine nU fun z e=>?_
  subst e
  refine key _ (d != s) ?_ rfl
  cases d <;> cases s <;> decide
 | 3,_ =>
  refine fZ (by rfl) ?_
  refine fZ (by rfl) ?_
  refine fZ (by rfl) ?_
  refine gN (by rfl) ?_
  refine nU fun z e=>?_
  subst e
  refine nU fun z e=>?_
  subst e
  refine key _ (!(d != s)) ?_ rfl
  cases d <;> cases s <;> decide
 | 4,_ =>
  refine fZ (by rfl) ?_
  refine fZ (by rfl) ?_
  refine fZ (by rfl) ?_
  refine fZ (by rfl) ?_
  exact key _ s rfl rfl
theorem R9 {h:Heap} {a b:Option Addr} {ac bc:Nat} {xs ys:List Nat} (ha:rdO h a (xs.length*1) (il xs)) (hb:rdO h b (ys.length*1) (il ys)) (hlen:xs.length<140737488351300)
  {K:VK} {Kp:PK} (hk:K (.bool (decide (xs=ys))) h):CP pz #[.slice a xs.length ac,.slice b ys.length bc] h K Kp:=by
 refine yb ?_
 unfold qV
 refine jg (fun h1=>?_) fun h1=>?_
 ·rw [decide_eq_false (fun e=>h1 (by rw [e]))] at hk
  exact hk
 have h1:xs.length=ys.length:=by omega
 refine ⟨fun n vs h'=>∃ i:Nat,i+n=xs.length/\vs=[.int .i64 (i:Int)]/\h'=h/\∀ j,j<i->xs[j]? = ys[j]?,⟨xs.length,0,by omega,rfl,rfl,fun j hj=>by omega⟩,?_⟩
 rintro n h' u x ⟨i,hin,hx,rfl,he⟩
 injection hx with hx
 injection hx with _ hx
 subst hx
 refine fL (fun h2=>?_) fun h2=>?_
 ·have h2:i<xs.length:=by omega
  refine fH (by omega) ?_
  obtain ⟨p,hp,hc⟩:=m9 ha (lp (lU h2))
  obtain ⟨p2,hp2,hc2⟩:=m9 hb (lp (lU (show i<ys.length by omega)))
  subst hp hp2
  simp only [ga,fD,gu]
  refine fH (by omega) ?_
  refine fz hc ?_
  refine fz hc2 ?_
  refine jg (fun h3=>?_) fun h3=>?_
  ·rw [decide_eq_false (fun e=>h3 (by rw [e]))] at hk
   exact hk
  ·refine fw (((i+1:Nat):Int)) (by exact fO _ _ (by omega) (by omega) (by omega)) ?_
   refine ⟨n-1,by omega,i+1,by omega,rfl,by first | rfl | trivial,fun j hj=>?_⟩
   rcases gI j i with h4 | h4
   ·exact he j h4
   ·have:j=i:=by omega
    subst this
    rw [lU h2,lU (show j<ys.length by omega)]
    congr 1
    omega
 ·have:xs=ys:=by
   apply pO
   intro j
   rcases gI j i with h4 | h4
   ·exact he j h4
   ·rw [iq (by omega),iq (by omega)]
  rw [decide_eq_true this] at hk
  exact hk
theorem F5 {hB:Heap} {a b:Option Addr} {ac bc:Nat} {w g w' g':Int} {xs ys:List Nat} (ha:rdO hB a (xs.length*1) (il xs)) (hb:rdO hB b (ys.length*1) (il ys)) (hlen:xs.length<140737488351300)
  {K:VK} {Kp:PK} (hk:∀ h,gi hB h->K (.bool (decide (w=w'/\g=g'/\xs=ys))) h):CP jy #[.agg #[.int .i64 w,.int .i64 g,.slice a xs.length ac],.agg #[.int .i64 w',.int .i64 g',.slice b ys.length bc]] hB K Kp:=by
 refine xe ?_
 unfold p6
 have H:=Hp.nil hB []
 refine fV H fun r h H=>?_
 refine fV H fun r2 h H=>?_
 try simp only [ga,gC,fN,gr]
 refine fz (H.cell 0 rfl rfl) ?_
 refine fz (H.cell 1 rfl rfl) ?_
 have hk:=hk _ H.gi
 refine iA (fun h1=>?_) fun h1=>?_
 ·refine fz (H.cell 0 rfl rfl) ?_
  refine fz (H.cell 1 rfl rfl) ?_
  refine iA (fun h2=>?_) fun h2=>?_
  ·refine fU (H.cell 0 rfl rfl) ?_
   refine fU (H.cell 1 rfl rfl) ?_
   refine R9 (H.rdO ha) (H.rdO hb) hlen ?_
   refine ⟨_,rfl,?_⟩
   have e:decide (xs=ys)=decide (w=w'/\g=g'/\xs=ys):=by rw [decide_eq_decide]; simp [h1,h2]
   rw [e]
   exact hk
  ·rw [decide_eq_false (fun e=>h2 e.2.1)] at hk
   exact hk
 ·rw [decide_eq_false (fun e=>h1 e.1)] at hk
  exact hk
set_option maxHeartbeats 1000000 in
theorem RV {h0 h:Heap} {FF:List Nat} {L:List Ent} {q c W X:Nat} {ws:List Nat} {rest:List Value} (H:Hp h0 FF h L) (kq:Nat) (hq:L[kq]? = some ⟨q,true,gj,il ws++rest⟩) (hs:jX (W:Int) (X:Int)) (hl:ws.length=X*wds W) (hw:W64 ws)
  {q2:Option Addr} {c2 W2 X2:Nat} {ws2:List Nat} (hr2:∀ h' R,Hp h0 FF h' (L.set kq ⟨q,true,gj,il R++rest⟩)->rdO h' q2 (ws2.length*1) (il ws2)) (hs2:jX (W2:Int) (X2:Int)) (hl2:ws2.length=X2*wds W2) (hw2:W64 ws2)
  {x y:Int} (hx:InI x) (hy:InI y) {op:Nat} (hop:op<5) {K:VK} {Kp:PK}
  (hk:∀ R h',R.length=X*wds W->W64 R->(∀ Y,Y<X->∀ x',x'<64*wds W->pix R (wds W) x' Y =
    if x<=x'/\(x':Int)<x+W2/\x'<W/\y<=Y/\(Y:Int)<y+X2 then opB op (pix ws (wds W) x' Y) (pix ws2 (wds W2) (x'-x).toNat (Y-y).toNat) else pix ws (wds W) x' Y) ->
   Hp h0 FF h' (L.set kq ⟨q,true,gj,il R++rest⟩)->K (.tuple #[]) h') :
  CP tY #[.agg #[.int .i64 (W:Nat),.int .i64 (X:Nat),.slice (at0 q) ws.length c],.int .i64 x,.int .i64 y,.int .i64 (op:Nat),.agg #[.int .i64 (W2:Nat),.int .i64 (X2:Nat),.slice q2 ws2.length c2]] h K Kp:=by
 refine B7 ?_
 unfold wJ
 obtain ⟨W',X',e1,e2,hW1,hW2,hX1,hX2,hWX⟩:=jf hs
 obtain rfl:W=W':=by omega
 obtain rfl:X=X':=by omega
 obtain ⟨W',X',e3,e4,hV1,hV2,hY1,hY2,hVY⟩:=jf hs2
 obtain rfl:W2=W':=by omega
 obtain rfl:X2=X':=by omega
 clear e1 e2 e3 e4
 unfold InI at hx hy
 have hkl:kq<L.length:=(List.getElem?_eq_some_iff.1 hq).1
 have zA:L.set kq ⟨q,true,gj,il ws++rest⟩=L:=by
  apply pO
  intro j
  by_cases hj:kq=j
  ·subst hj; rw [iD hkl,hq]
  ·rw [j3 hj]
 have done:∀ h T,(x≥W\/y≥X\/x<=-(W2:Int)\/y<=-(X2:Int))->Hp h0 FF h (L++T)->K (.tuple #[]) h:=fun h T hz H=>by
  refine hk ws h hl hw (fun Y hY x' hx'=>?_) (H.pre.as zA.symm)
  rw [if_neg (by omega)]
 refine fV H fun r h H=>?_
 refine fV H fun r2 h H=>?_
 rw [fC] at H
 have hT0:∀ (A B:Ent) (h:Heap),Hp h0 FF h (L++([A]++[B]))->Hp h0 FF h ([A]++[B]++L):=fun _ _ _ H=>H.rot
 have HR:=hT0 _ _ _ H
 try simp only [ga,gC,fN,gr]
 refine fz (HR.cell 0 rfl rfl) ?_
 refine fL (fun h1=>done _ _ (.inl h1) H) fun h1=>?_
 refine fz (HR.cell 0 rfl rfl) ?_
 refine fL (fun h2=>done _ _ (.inr (.inl h2)) H) fun h2=>?_
 refine fz (HR.cell 1 rfl rfl) ?_
 refine fw ((-(W2:Int))) (by exact fO _ _ (by omega) (by omega) (by omega)) ?_
 refine fL (fun h3=>done _ _ (.inr (.inr (.inl h3))) H) fun h3=>?_
 refine fz (HR.cell 1 rfl rfl) ?_
 refine fw ((-(X2:Int))) (by exact fO _ _ (by omega) (by omega) (by omega)) ?_
 refine fL (fun h4=>done _ _ (.inr (.inr (.inr h4))) H) fun h4=>?_
 clear done H hT0
 let G:Nat->Nat->Bool:=fun x' Y=>if x<=x'/\(x':Int)<x+W2/\x'<W/\y<=Y/\(Y:Int)<y+X2 then opB op (pix ws (wds W) x' Y) (pix ws2 (wds W2) (x'-x).toNat (Y-y).toNat) else pix ws (wds W) x' Y
 have hG:∀ x' Y:Nat,G x' Y=if x<=x'/\(x':Int)<x+W2/\x'<W/\y<=Y/\(Y:Int)<y+X2 then opB op (pix ws (wds W) x' Y) (pix ws2 (wds W2) (x'-x).toNat (Y-y).toNat) else pix ws (wds W) x' Y:=fun _ _=>rfl
 let TT:List Ent:=[⟨r,true,fK,[.int .i64 (W:Nat),.int .i64 (X:Nat),.slice (at0 q) ws.length c]⟩,⟨r2,true,fK,[.int .i64 (W2:Nat),.int .i64 (X2:Nat),.slice q2 ws2.length c2]⟩]
 have hTT:TT=[⟨r,true,fK,[.int .i64 (W:Nat),.int .i64 (X:Nat),.slice (at0 q) ws.length c]⟩,⟨r2,true,fK,[.int .i64 (W2:Nat),.int .i64 (X2:Nat),.slice q2 ws2.length c2]⟩]:=rfl
 let St:Nat->Nat->Heap->List Nat->Prop:=fun j i h R=>R.length=X*wds W/\W64 R/\(∀ Y,Y<X->∀ x',x'<64*wds W->pix R (wds W) x' Y=if (Y:Int)-y<j\/(Y:Int)-y=j/\(x':Int)-x<i then G x' Y else pix ws (wds W) x' Y) /\
  Hp h0 FF h (TT++L.set kq ⟨q,true,gj,il R++rest⟩)
 have hSt:∀ j i h R,St j i h R↔R.length=X*wds W/\W64 R/\(∀ Y,Y<X->∀ x',x'<64*wds W->pix R (wds W) x' Y=if (Y:Int)-y<j\/(Y:Int)-y=j/\(x':Int)-x<i then G x' Y else pix ws (wds W) x' Y) /\
  Hp h0 FF h (TT++L.set kq ⟨q,true,gj,il R++rest⟩):=fun _ _ _ _=>Iff.rfl
 refine ⟨fun n vs h=>∃ (j:Nat) (R:List Nat),j+n=X2/\vs=[.int .i64 (j:Int)]/\St j 0 h R,⟨X2,0,ws,by omega,rfl,(hSt _ _ _ _).2 ⟨hl,hw,fun Y hY x' hx'=>?_,HR.as (by rw [zA,hTT]; rfl)⟩⟩,?_⟩
 ·split
  ·rw [hG,if_neg (by omega)]
  ·rfl
 clear HR
 rintro n h u xx ⟨j,R,hjn,hxx,hst⟩
 injection hxx with hxx
 injection hxx with _ hxx
 subst hxx
 have H:=((hSt _ _ _ _).1 hst).2.2.2
 refine fz (H.cell 1 rfl (i:=1) rfl) ?_
 refine fL (fun h5=>?_) fun h5=>?_
 ·have h5:j<X2:=by omega
  refine ⟨fun n vs h=>∃ (i:Nat) (R:List Nat),i+n=W2/\vs=[.int .i64 (i:Int)]/\St j i h R,⟨W2,0,R,by omega,rfl,hst⟩,?_⟩
  clear H hst
  rintro n2 h u2 xx ⟨i,R,hin,hxx,hst⟩
  injection hxx with hxx
  injection hxx with _ hxx
  subst hxx
  have H:=((hSt _ _ _ _).1 hst).2.2.2
  refine fz (H.cell 1 rfl (i:=0) rfl) ?_
  refine fL (fun h6=>?_) fun h6=>?_
  ·have h6:i<W2:=by omega
   refine ⟨fun vs h'=>h'=h/\vs=[.bool (decide (0<=x+i/\x+i<W/\0<=y+j/\y+j<X))],?_,?_⟩
   ·have no:¬ (0<=x+i/\x+i<W/\0<=y+j/\y+j<X)->(h=h/\[Value.bool false]=[.bool (decide (0<=x+i/\x+i<W/\0<=y+j/\y+j<X))]):=fun hn=>⟨rfl,by rw [decide_eq_false hn]⟩
    refine fw ((x+i)) (by exact i64_in _ (by omega) (by omega)) ?_
    refine fL (fun k1=>?_) fun k1=>no (by omega)
    refine fw ((x+i)) (by exact i64_in _ (by omega) (by omega)) ?_
    refine fz (H.cell 0 rfl (i:=0) rfl) ?_
    refine fL (fun k2=>?_) fun k2=>no (by omega)
    refine fw ((y+j)) (by exact i64_in _ (by omega) (by omega)) ?_
    refine fL (fun k3=>?_) fun k3=>no (by omega)
    refine fw ((y+j)) (by exact i64_in _ (by omega) (by omega)) ?_
    refine fz (H.cell 0 rfl (i:=1) rfl) ?_
    refine ⟨by first | rfl | trivial,?_⟩
    congr 2
    rw [decide_eq_decide]
    omega
   ·rintro h' u' xb ⟨rfl,hxb⟩
    injection hxb with hxb
    injection hxb with hxb
    subst hxb
    obtain ⟨g1,g2,g3,_⟩:=(hSt _ _ _ _).1 hst
    refine fL (fun h7=>?_) fun h7=>?_
    ·obtain ⟨a,ha⟩:∃ a:Nat,x+i=(a:Nat):=⟨(x+i).toNat,by omega⟩
     obtain ⟨b,hb⟩:∃ b:Nat,y+j=(b:Nat):=⟨(y+j).toNat,by omega⟩
     refine fw (((a:Nat):Int)) (by rw [ha]; exact i64_in _ (by omega) (by omega)) ?_
     refine fw (((b:Nat):Int)) (by rw [hb]; exact i64_in _ (by omega) (by omega)) ?_
     refine fw (((a:Nat):Int)) (by rw [ha]; exact i64_in _ (by omega) (by omega)) ?_
     refine fw (((b:Nat):Int)) (by rw [hb]; exact i64_in _ (by omega) (by omega)) ?_
     refine fz (H.cell 0 rfl (i:=0) rfl) ?_
     refine fz (H.cell 0 rfl (i:=1) rfl) ?_
     refine fU (H.cell 0 rfl (i:=2) rfl) ?_
     refine fz (H.cell 0 rfl (i:=0) rfl) ?_
     refine fz (H.cell 0 rfl (i:=1) rfl) ?_
     refine fU (H.cell 0 rfl (i:=2) rfl) ?_
     refine fz (H.cell 1 rfl (i:=0) rfl) ?_
     refine fz (H.cell 1 rfl (i:=1) rfl) ?_
     refine fU (H.cell 1 rfl (i:=2) rfl) ?_
     have hqR:∀ {T:List Ent},T.length=2->(T++L.set kq ⟨q,true,gj,il R++rest⟩)[2+kq]? = some ⟨q,true,gj,il R++rest⟩:=fun {T} hT=>by
      rw [gM (by omega),hT,qA,iD hkl]
     have hlen:ws.length=R.length:=by omega
     rw [hlen]
     refine wv (Iq H (2+kq) (hqR rfl)) g2 hs g1 fun h2 e2=>?_
     refine ⟨_,rfl,e2,?_⟩
     have H2:=H.ext e2
     refine wv (hr2 _ R (Hp.suf (X:=TT) H2)) hw2 hs2 hl2 fun h3 e3=>?_
     refine ⟨_,rfl,e3,?_⟩
     have H3:=H2.ext e3
     refine SY hop ?_
     refine ⟨_,rfl,gi.refl _,?_⟩
     refine BH H3 (2+kq) (hqR rfl) g2 hs g1 (by omega) (by omega) fun R' h' k1 k2 k3 H'=>?_
     have H':Hp h0 FF h' (TT++L.set kq ⟨q,true,gj,il R'++rest⟩):=H'.as (by
      rw [jl _ _ (by show 2<=2+kq; omega)]
      show TT++(L.set kq _).set (2+kq-2) _=_
      rw [qA,List.set_set])
     refine fw (((i+1:Nat):Int)) (by exact fO _ _ (by omega) (by omega) (by omega)) ?_
     refine ⟨n2-1,by omega,i+1,R',by omega,rfl,(hSt _ _ _ _).2 ⟨by omega,k2,fun Y hY x' hx'=>?_,H'⟩⟩
     rw [k3 Y hY x' hx']
     by_cases h8:Y=b/\x'=a
     ·obtain ⟨rfl,rfl⟩:=h8
      rw [if_pos ⟨rfl,rfl⟩,if_pos (by omega),hG,if_pos (by omega)]
      have e1:jR R W X (x':Int) (Y:Int)=pix ws (wds W) x' Y:=by
       unfold jR
       rw [decide_eq_true (by omega),jm,fD,fD,g3 Y hY x' hx',if_neg (by omega)]
      have e2:jR ws2 W2 X2 (i:Int) (j:Int)=pix ws2 (wds W2) (x'-x).toNat (Y-y).toNat:=by
       unfold jR
       rw [decide_eq_true (by omega),jm]
       congr 1 <;> omega
      rw [e1,e2]
     ·rw [if_neg h8,g3 Y hY x' hx']
      have:((Y:Int)-y<j\/(Y:Int)-y=j/\(x':Int)-x<i)↔((Y:Int)-y<j\/(Y:Int)-y=j/\(x':Int)-x<((i+1:Nat):Int)):=by omega
      simp only [this]
    ·refine fw (((i+1:Nat):Int)) (by exact fO _ _ (by omega) (by omega) (by omega)) ?_
     refine ⟨n2-1,by omega,i+1,R,by omega,rfl,(hSt _ _ _ _).2 ⟨g1,g2,fun Y hY x' hx'=>?_,H⟩⟩
     rw [g3 Y hY x' hx']
     by_cases h8:(Y:Int)-y=j/\(x':Int)-x=i
     ·rw [if_neg (by omega),if_pos (by omega),hG,if_neg (by omega)]
     ·have:((Y:Int)-y<j\/(Y:Int)-y=j/\(x':Int)-x<i)↔((Y:Int)-y<j\/(Y:Int)-y=j/\(x':Int)-x<((i+1:Nat):Int)):=by omega
      simp only [this]
  ·have h6:i=W2:=by omega
   subst h6
   obtain ⟨g1,g2,g3,_⟩:=(hSt _ _ _ _).1 hst
   refine fw (((j+1:Nat):Int)) (by exact fO _ _ (by omega) (by omega) (by omega)) ?_
   refine ⟨n-1,by omega,j+1,R,by omega,rfl,(hSt _ _ _ _).2 ⟨g1,g2,fun Y hY x' hx'=>?_,H⟩⟩
   rw [g3 Y hY x' hx']
   by_cases h7:(Y:Int)-y<j
   ·rw [if_pos (.inl h7),if_pos (.inl (by omega))]
   ·by_cases h8:(Y:Int)-y=j
    ·rw [if_pos (show _\/_ from .inl (by omega):(Y:Int)-y<((j+1:Nat):Int)\/(Y:Int)-y=((j+1:Nat):Int)/\(x':Int)-x<((0:Nat):Int))]
     split
     ·rfl
     ·rw [hG,if_neg (by omega)]
    ·rw [if_neg (by omega)]
     split
     ·rw [hG,if_neg (by omega)]
     ·rfl
 ·have h5:j=X2:=by omega
  subst h5
  obtain ⟨g1,g2,g3,_⟩:=(hSt _ _ _ _).1 hst
  refine hk R h g1 g2 (fun Y hY x' hx'=>?_) (Hp.suf (X:=TT) H)
  rw [g3 Y hY x' hx',<- hG]
  split
  ·rfl
  ·rw [hG,if_neg (by omega)]
section
variable {h0 h:Heap} {FF:List Nat} {L:List Ent} {p q c W X:Nat} {w:Bool} {ws:List Nat} {rest:List Value} {K:VK} {Kp:PK}
theorem gv {a:Addr} {K:Addr->Prop} (h:K a):ptr (some a) K:=h
theorem Hp.kH (H:Hp h0 FF h L) (k:Nat) {b i:Nat} {w:Bool} {t:TypeId} {cs:List Value} {v:Value} (he:L[k]? = some ⟨b,w,t,cs⟩) (hv:cs[i]? = some v):ic h ((⟨b,0,none⟩:Addr).add i)=some v:=by
 rw [gC,fN]
 exact H.cell k he hv
theorem OE (H:Hp h0 FF h L) (kp:Nat) (hp:L[kp]? = some (ph p q W X ws.length c)) (hk:K (.tuple #[.int .i64 (W:Nat),.int .i64 (X:Nat)]) h):CP rG #[.pointer (at0 p)] h K Kp:=by
 refine zY ?_
 unfold tP
 try simp only [ga,gC,fN,gr]
 refine fz (H.cell kp hp (i:=0) rfl) ?_
 refine fz (H.cell kp hp (i:=1) rfl) ?_
 exact hk
theorem FN (H:Hp h0 FF h L) (kp:Nat) (hp:L[kp]? = some (ph p q W X ws.length c)) {x y:Int} (hk:∀ b:Bool,(b=true↔0<=x/\x<W/\0<=y/\y<X)->K (.bool b) h):CP m6 #[.pointer (at0 p),.int .i64 x,.int .i64 y] h K Kp:=by
 refine yg ?_
 unfold qZ
 try simp only [ga,gC,fN,gr]
 refine fL (fun h1=>?_) fun h1=>hk false (by simp; omega)
 refine fz (H.cell kp hp (i:=0) rfl) ?_
 refine fL (fun h2=>?_) fun h2=>hk false (by simp; omega)
 refine fL (fun h3=>?_) fun h3=>hk false (by simp; omega)
 refine fz (H.cell kp hp (i:=1) rfl) ?_
 exact hk _ (by simp; omega)
theorem L7 (H:Hp h0 FF h L) (kp kq:Nat) (hp:L[kp]? = some (ph p q W X ws.length c)) (hq:L[kq]? = some ⟨q,w,gj,il ws++rest⟩) (hs:jX (W:Int) (X:Int)) (hl:ws.length=X*wds W) (hw:W64 ws) {x y:Int}
  (hk:K (.int .i64 ((jR ws W X x y).toNat:Nat)) h):CP o5 #[.pointer (at0 p),.int .i64 x,.int .i64 y] h K Kp:=by
 refine A9 ?_
 unfold vh
 obtain ⟨W',X',e1,e2,hW1,hW2,hX1,hX2,hWX⟩:=jf hs
 obtain rfl:W=W':=by omega
 obtain rfl:X=X':=by omega
 have hhw:=rR hW1 hWX
 have hwl:=vY hW1
 refine FN H kp hp fun b hb=>?_
 refine ⟨_,rfl,?_⟩
 refine iM (fun h1=>?_) fun h1=>?_
 ·have hno:¬ (0<=x/\0<=y/\x<W/\y<X):=fun h2=>by rw [hb.2 ⟨h2.1,h2.2.2.1,h2.2.1,h2.2.2.2⟩] at h1; cases h1
  unfold jR at hk
  rw [decide_eq_false hno] at hk
  exact hk
 have hin:=hb.1 h1
 obtain ⟨a,rfl⟩:∃ a:Nat,x=(a:Nat):=⟨x.toNat,by omega⟩
 obtain ⟨b,rfl⟩:∃ b:Nat,y=(b:Nat):=⟨y.toNat,by omega⟩
 have haw:=xY (show a<W by omega)
 have hidx:=rZ haw (show b<X by omega)
 have hbw:b*wds W<=X*wds W:=gD _ (by omega)
 have h64:=iP a (show 64 > 0 by decide)
 refine gv (a:=⟨p,0,none⟩) (gv (a:=⟨p,0,none⟩) ?_)
 refine fw (((a / 64:Nat):Int)) (by exact fO _ _ (mL a 64) (by omega) (by omega)) ?_
 refine fw (((a % 64:Nat):Int)) (by exact kM a 64) ?_
 refine fw (((63-a % 64:Nat):Int)) (by exact fO _ _ (by omega) (by omega) (by omega)) ?_
 refine fU (Hp.kH H kp hp (i:=3) rfl) ?_
 refine fz (Hp.kH H kp hp (i:=2) rfl) ?_
 refine fw (((b*wds W:Nat):Int)) (by exact fO _ _ qL (by omega) (by omega)) ?_
 refine fw (((b*wds W+a / 64:Nat):Int)) (by exact fO _ _ (by omega) (by omega) (by omega)) ?_
 refine fH (by omega) ?_
 refine gv (a:=⟨q,0,none⟩) ?_
 rw [fD,gu]
 refine fz (Hp.kH H kq hq (ob (lp (lU (l:=ws) (i:=b*wds W+a / 64) (by omega))))) ?_
 refine fH (by omega) ?_
 have hv:=hw.get (b*wds W+a / 64)
 have hres:=hk
 unfold jR pix at hres
 rw [decide_eq_true (by omega),jm,fD,fD] at hres
 generalize ws.getD (b*wds W+a / 64) 0=v at hv hres ⊢
 refine fw (((v / 2 ^ (63-a % 64):Nat):Int)) (by exact lG (by show 63-a % 64<=64; omega)) ?_
 have hlt:=ir (kz v (2 ^ (63-a % 64))) hv
 refine fw (((v / 2 ^ (63-a % 64) % 2:Nat):Int)) (by exact (Ku _ 1 hlt (by decide)).trans (by rw [kR])) ?_
 refine fw (((v / 2 ^ (63-a % 64) % 2:Nat):Int)) (by exact i64_in _ (by omega) (by omega)) ?_
 have e:v / 2 ^ (63-a % 64) % 2=(v.testBit (63-a % 64)).toNat:=(Nat.toNat_testBit v _).symm
 rw [e]
 exact hres
theorem L6 (H:Hp h0 FF h L) (kp kq:Nat) (hp:L[kp]? = some (ph p q W X ws.length c)) (hq:L[kq]? = some ⟨q,true,gj,il ws++rest⟩) (hs:jX (W:Int) (X:Int)) (hl:ws.length=X*wds W) (hw:W64 ws) {a b:Nat} (ha:a<W) (hb:b<X) {bit:Bool}
  (hk:∀ R h',R.length=ws.length->W64 R->(∀ y,y<X->∀ x,x<64*wds W->pix R (wds W) x y=if y=b/\x=a then bit else pix ws (wds W) x y)->Hp h0 FF h' (L.set kq ⟨q,true,gj,il R++rest⟩)->K (.tuple #[]) h') :
  CP o4 #[.pointer (at0 p),.int .i64 (a:Nat),.int .i64 (b:Nat),.int .i64 (bit.toNat:Nat)] h K Kp:=by
 refine A7 ?_
 unfold vf
 obtain ⟨W',X',e1,e2,hW1,hW2,hX1,hX2,hWX⟩:=jf hs
 obtain rfl:W=W':=by omega
 obtain rfl:X=X':=by omega
 have hhw:=rR hW1 hWX
 have hwl:=vY hW1
 have haw:=xY ha
 have hidx:=rZ haw hb
 have hbw:b*wds W<=X*wds W:=gD _ (by omega)
 have h64:=iP a (show 64 > 0 by decide)
 have hbit:bit.toNat<=1:=by cases bit <;> decide
 refine gv (a:=⟨p,0,none⟩) (gv (a:=⟨p,0,none⟩) ?_)
 refine fw (((a / 64:Nat):Int)) (by exact fO _ _ (mL a 64) (by omega) (by omega)) ?_
 refine fU (Hp.kH H kp hp (i:=3) rfl) ?_
 refine fz (Hp.kH H kp hp (i:=2) rfl) ?_
 refine fw (((b*wds W:Nat):Int)) (by exact fO _ _ qL (by omega) (by omega)) ?_
 refine fw (((b*wds W+a / 64:Nat):Int)) (by exact fO _ _ (by omega) (by omega) (by omega)) ?_
 refine fH (by omega) ?_
 refine gv (a:=⟨q,0,none⟩) ?_
 rw [fD,gu]
 refine fw (((a % 64:Nat):Int)) (by exact kM a 64) ?_
 refine fw (((63-a % 64:Nat):Int)) (by exact fO _ _ (by omega) (by omega) (by omega)) ?_
 refine fH (by omega) ?_
 have hp2:2 ^ (63-a % 64)<M64:=by rw [C5]; exact Nat.pow_lt_pow_right (by decide) (by omega)
 refine fw (((2 ^ (63-a % 64):Nat):Int)) (by exact lP (x:=1) (by show 63-a % 64<=64; omega) (by rw [kn,Cn,jC hp2])) ?_
 refine fw (((bit.toNat:Nat):Int)) (by exact u64_in _ (by omega) (by omega)) ?_
 refine fw (((a % 64:Nat):Int)) (by exact kM a 64) ?_
 refine fw (((63-a % 64:Nat):Int)) (by exact fO _ _ (by omega) (by omega) (by omega)) ?_
 refine fH (by omega) ?_
 have hb2:bit.toNat*2 ^ (63-a % 64)<M64:=by cases bit <;> simp <;> first | exact hp2 | decide
 refine fw (((bit.toNat*2 ^ (63-a % 64):Nat):Int)) (by exact lP (x:=bit.toNat) (by show 63-a % 64<=64; omega) (by rw [Cn,jC hb2])) ?_
 have hv:=hw.get (b*wds W+a / 64)
 refine fz (Hp.kH H kq hq (ob (lp (lU (l:=ws) (i:=b*wds W+a / 64) (by omega))))) ?_
 refine fw _ (xv _ _ hv hp2) ?_
 refine fw _ (Jz _ _ (ri hv) hb2) ?_
 rw [gC,fN]
 refine gq H kq hq (by rw [fA,iO]; omega) rfl fun h hsz H=>?_
 rw [uD _ _ _ _ (by omega)] at H
 refine hk _ h (by rw [gB]) (hw.set (Hg (ri hv) hb2)) (fun y hy x hx=>?_) H
 rw [Iu hl haw hb hx]
 by_cases h1:y=b/\x / 64=a / 64
 ·rw [if_pos h1,o8,mU,s6 hp2 (by omega),ES]
  have hbb:(bit.toNat*2 ^ (63-a % 64)).testBit (63-x % 64)=(bit && decide (63-a % 64=63-x % 64)):=by
   cases bit
   ·simp
   ·show (1*2 ^ (63-a % 64)).testBit _=_
    rw [kn,ES,jm]
  rw [hbb]
  by_cases h2:x=a
  ·subst h2
   rw [if_pos ⟨h1.1,rfl⟩]
   simp
  ·rw [if_neg (fun h=>h2 h.2),decide_eq_false (show ¬ 63-a % 64=63-x % 64 by omega)]
   unfold pix
   rw [h1.1,h1.2]
   simp
 ·rw [if_neg h1,if_neg]
  rintro ⟨h2,h3⟩
  exact h1 ⟨h2,by rw [h3]⟩
theorem Qw (H:Hp h0 FF h L) (kp kq:Nat) (hp:L[kp]? = some (ph p q W X ws.length c)) (hq:L[kq]? = some ⟨q,true,gj,il ws++rest⟩) (hs:jX (W:Int) (X:Int)) (hl:ws.length=X*wds W) (hw:W64 ws) {a b:Nat} (ha:a<W) (hb:b<X) {bit:Bool}
  (hk:∀ R h',R.length=ws.length->W64 R->(∀ y,y<X->∀ x,x<64*wds W->pix R (wds W) x y=if y=b/\x=a then bit else pix ws (wds W) x y)->Hp h0 FF h' (L.set kq ⟨q,true,gj,il R++rest⟩)->K (.int .i64 0) h') :
  CP sO #[.pointer (at0 p),.int .i64 (a:Nat),.int .i64 (b:Nat),.int .i64 (bit.toNat:Nat)] h K Kp:=by
 refine A8 ?_
 unfold vg
 refine FN H kp hp fun bb hbb=>?_
 refine ⟨_,rfl,?_⟩
 refine iM (fun h1=>by rw [hbb.2 (by omega)] at h1; cases h1) fun h1=>?_
 refine jg (fun h2=>?_) fun h2=>?_
 ·refine jg (fun h3=>absurd h3 (by cases bit <;> simp_all)) fun h3=>?_
  exact L6 H kp kq hp hq hs hl hw ha hb hk
 ·exact L6 H kp kq hp hq hs hl hw ha hb hk
end
end Go.Bm
namespace Go.Den
open Go
section
variable {h0 h:Heap} {FF:List Nat} {L:List Ent}
theorem hpA (H:Hp h0 FF h L) (k:Nat) {b o i:Nat} {w:Bool} {t:TypeId} {cs:List Value} {v:Value} (he:L[k]? = some ⟨b,w,t,cs⟩) (hv:cs[o+i]? = some v):ic h ((⟨b,o,none⟩:Addr).add i)=some v:=by
 rw [gC]
 exact H.cell k he hv
theorem hpB (H:Hp h0 FF h L) (k:Nat) {b o i j:Nat} {w:Bool} {t:TypeId} {cs:List Value} {v:Value} (he:L[k]? = some ⟨b,w,t,cs⟩) (hv:cs[o+i+j]? = some v):ic h (((⟨b,o,none⟩:Addr).add i).add j)=some v:=by
 rw [gC,gC]
 exact H.cell k he hv
theorem hpC (H:Hp h0 FF h L) (k:Nat) {b o i j l:Nat} {w:Bool} {t:TypeId} {cs:List Value} {v:Value} (he:L[k]? = some ⟨b,w,t,cs⟩) (hv:cs[o+i+j+l]? = some v):ic h ((((⟨b,o,none⟩:Addr).add i).add j).add l)=some v:=by
 rw [gC,gC,gC]
 exact H.cell k he hv
theorem stA (H:Hp h0 FF h L) (k:Nat) {b o i:Nat} {t:TypeId} {cs:List Value} {v:Value} {K:Heap->Prop} (he:L[k]? = some ⟨b,true,t,cs⟩) (hi:Nat.ble (o+i+1) cs.length=true) (hv:v.oneCell'=true)
  (hk:∀ h',Hp h0 FF h' (L.set k ⟨b,true,t,cs.set (o+i) v⟩)->K h'):stV h ((⟨b,o,none⟩:Addr).add i) v K:=by
 rw [gC]
 exact gq H k he (fB hi) hv fun h' _ H'=>hk h' H'
theorem stB (H:Hp h0 FF h L) (k:Nat) {b o i j:Nat} {t:TypeId} {cs:List Value} {v:Value} {K:Heap->Prop} (he:L[k]? = some ⟨b,true,t,cs⟩) (hi:Nat.ble (o+i+j+1) cs.length=true) (hv:v.oneCell'=true)
  (hk:∀ h',Hp h0 FF h' (L.set k ⟨b,true,t,cs.set (o+i+j) v⟩)->K h'):stV h (((⟨b,o,none⟩:Addr).add i).add j) v K:=by
 rw [gC,gC]
 exact gq H k he (fB hi) hv fun h' _ H'=>hk h' H'
theorem st0 (H:Hp h0 FF h L) (k:Nat) {b i:Nat} {t:TypeId} {cs:List Value} {v:Value} {K:Heap->Prop} (he:L[k]? = some ⟨b,true,t,cs⟩) (hi:Nat.ble (i+1) cs.length=true) (hv:v.oneCell'=true)
  (hk:∀ h',Hp h0 FF h' (L.set k ⟨b,true,t,cs.set i v⟩)->K h'):stV h ⟨b,i,none⟩ v K :=
 gq H k he (fB hi) hv fun h' _ H'=>hk h' H'
theorem Eb (H:Hp h0 FF h L) (k:Nat) {b:Nat} {t:TypeId} {cs vs:List Value} {K:Heap->Prop} (he:L[k]? = some ⟨b,true,t,cs⟩) (hl:Nat.beq vs.length cs.length=true) (hv:vs.all Value.oneCell'=true)
  (hk:∀ h',Hp h0 FF h' (L.set k ⟨b,true,t,vs⟩)->K h'):qH h ⟨b,0,none⟩ 0 vs K:=by
 have hl':vs.length=cs.length:=iS hl
 refine At (o:=0) (i:=0) H he (by omega) (fun v hm=>List.all_eq_true.1 hv v hm) fun h' _ H'=>hk h' ?_
 have e:cs.take (0+0)++vs++cs.drop (0+0+vs.length)=vs:=by
  rw [gr,fN,nu,gd,hl',Bc,fT]
 rw [e] at H'
 exact H'
end
end Go.Den
namespace Go.Bm
open Go Go.Den
structure Key where
 s:Int
 x:Int
 y:Int
deriving DecidableEq
def Key.lt (a b:Key):Prop:=a.s<b.s\/a.s=b.s/\(a.x<b.x\/a.x=b.x/\a.y<b.y)
theorem Key.ext' {a b:Key} (h1:a.s=b.s) (h2:a.x=b.x) (h3:a.y=b.y):a=b:=by
 cases a; cases b
 cases h1; cases h2; cases h3
 rfl
theorem Key.tri (a b:Key):a.lt b\/a=b\/b.lt a:=by
 by_cases h1:a.s=b.s
 ·by_cases h2:a.x=b.x
  ·by_cases h3:a.y=b.y
   ·exact .inr (.inl (Key.ext' h1 h2 h3))
   ·unfold Key.lt; omega
  ·unfold Key.lt; omega
 ·unfold Key.lt; omega
theorem Key.lt_irrefl (a:Key):¬ a.lt a:=by unfold Key.lt; omega
theorem Key.lt_trans {a b c:Key} (h1:a.lt b) (h2:b.lt c):a.lt c:=by unfold Key.lt at *; omega
theorem Key.Rg {a b c:Key} (h1:a.lt b) (h2:¬ c.lt b):a.lt c:=by unfold Key.lt at *; omega
theorem Key.Ri {a b c:Key} (h1:¬ b.lt a) (h2:b.lt c):a.lt c:=by unfold Key.lt at *; omega
theorem Key.le_trans {a b c:Key} (h1:¬ b.lt a) (h2:¬ c.lt b):¬ c.lt a:=by unfold Key.lt at *; omega
theorem Key.Tg {a b:Key} (h1:¬ a.lt b) (h2:¬ b.lt a):a=b:=by
 rcases a.tri b with h | h | h
 ·exact absurd h h1
 ·exact h
 ·exact absurd h h2
section
variable {α:Type} {key:α->Key}
inductive Sw (key:α->Key):List α->List α->Prop
 | refl (l:List α):Sw key l l
 | swap (A B:List α) (a b:α) (h:key a≠key b):Sw key (A++a::b::B) (A++b::a::B)
 | trans {l m r:List α}:Sw key l m->Sw key m r->Sw key l r
theorem Sw.length {l r:List α} (h:Sw key l r):r.length=l.length:=by
 induction h with
 | refl=>rfl
 | swap A B a b h=>simp
 | trans _ _ h1 h2=>rw [h2,h1]
theorem Sw.filter {l r:List α} (h:Sw key l r) (k:Key):r.filter (fun a=>decide (key a=k))=l.filter (fun a=>decide (key a=k)):=by
 induction h with
 | refl=>rfl
 | swap A B a b h =>
  rw [List.filter_append,List.filter_append]
  congr 1
  by_cases h1:key a=k
  ·have h2:¬ key b=k:=fun hh=>h (h1.trans hh.symm)
   simp [h1,h2]
  ·simp [List.filter_cons,h1]
 | trans _ _ h1 h2=>rw [h2,h1]
theorem Sw.mem {l r:List α} (h:Sw key l r):∀ a,a∈r↔a∈l:=by
 induction h with
 | refl=>exact fun a=>Iff.rfl
 | swap A B a b h=>exact fun c=>by simp; constructor <;> rintro (h | h | h | h) <;> simp [h]
 | trans _ _ h1 h2=>exact fun a=>(h2 a).trans (h1 a)
theorem Sw.ctx {l r:List α} (h:Sw key l r) (A B:List α):Sw key (A++l++B) (A++r++B):=by
 induction h with
 | refl=>exact .refl _
 | swap C D a b h =>
  have:=Sw.swap (key:=key) (A++C) (D++B) a b h
  simpa using this
 | trans _ _ h1 h2=>exact .trans h1 h2
theorem Sw.symm {l r:List α} (h:Sw key l r):Sw key r l:=by
 induction h with
 | refl=>exact .refl _
 | swap A B a b h=>exact .swap A B b a (fun hh=>h hh.symm)
 | trans _ _ h1 h2=>exact .trans h2 h1
theorem Sw.Qr {a:α}:∀ {l:List α},(∀ b∈l,key a≠key b)->Sw key (a::l) (l++[a])
 | [],_ => .refl _
 | b::l,h=>by
  have h1:=Sw.swap (key:=key) [] l a b (h b (jc ..))
  have h2:=(Sw.Qr (l:=l) fun c hc=>h c (gK _ hc)).ctx [b] []
  simp only [gd,fT,gm] at h1 h2
  exact .trans h1 h2
theorem Sw.blocks {m:List α}:∀ {l:List α},(∀ a∈l,∀ b∈m,key a≠key b)->Sw key (l++m) (m++l)
 | [],_=>by rw [gd,fT]; exact .refl _
 | a::l,h=>by
  have h1:=(Sw.blocks (m:=m) (l:=l) fun c hc=>h c (gK _ hc)).ctx [a] []
  have h2:=(Sw.Qr (a:=a) (l:=m) (h a (jc ..))).ctx [] l
  simp only [gd,fT,gm] at h1 h2
  refine .trans h1 ?_
  simpa using h2
def Srt (key:α->Key) (l:List α):Prop:=l.Pairwise fun a b=>¬ (key b).lt (key a)
theorem LO {a:α} {l:List α} (h:Srt key (a::l)):∀ b∈l,¬ (key b).lt (key a):=(List.pairwise_cons.1 h).1
theorem NY:∀ {l r:List α},Srt key l->Srt key r->(∀ k,l.filter (fun a=>decide (key a=k))=r.filter (fun a=>decide (key a=k)))->l=r
 | [],[],_,_,_=>rfl
 | [],b::r,_,_,h=>by
  have:=h (key b)
  simp at this
 | a::l,[],_,_,h=>by
  have:=h (key a)
  simp at this
 | a::l,b::r,h1,h2,h=>by
  have mem:∀ {c:α} {x y:List α},(∀ k,x.filter (fun a=>decide (key a=k))=y.filter (fun a=>decide (key a=k)))->c∈x->∃ d∈y,key d=key c:=fun {c x y} hh hc=>by
   have h3:c∈x.filter (fun a=>decide (key a=key c)):=List.mem_filter.2 ⟨hc,by simp⟩
   rw [hh] at h3
   obtain ⟨h4,_⟩:=List.mem_filter.1 h3
   exact ⟨c,h4,rfl⟩
  have k1:¬ (key a).lt (key b):=by
   obtain ⟨d,hd,hk⟩:=mem h (jc (a:=a) (l:=l))
   rcases List.mem_cons.1 hd with rfl | hd
   ·rw [hk]; exact Key.lt_irrefl _
   ·rw [<- hk]; exact LO h2 d hd
  have k2:¬ (key b).lt (key a):=by
   obtain ⟨d,hd,hk⟩:=mem (fun k=>(h k).symm) (jc (a:=b) (l:=r))
   rcases List.mem_cons.1 hd with rfl | hd
   ·rw [hk]; exact Key.lt_irrefl _
   ·rw [<- hk]; exact LO h1 d hd
  have hkk:=Key.Tg k1 k2
  have h0:=h (key a)
  rw [List.filter_cons_of_pos (by simp),List.filter_cons_of_pos (by simp [hkk])] at h0
  injection h0 with e1 e2
  subst e1
  congr 1
  refine NY (List.pairwise_cons.1 h1).2 (List.pairwise_cons.1 h2).2 fun k=>?_
  by_cases hk:key a=k
  ·rw [<- hk]; exact e2
  ·have:=h k
   rw [List.filter_cons_of_neg (by simp [hk]),List.filter_cons_of_neg (by simp [hk])] at this
   exact this
theorem Sw.one {l r s:List α} (h1:Sw key l r) (h2:Sw key l s) (h3:Srt key r) (h4:Srt key s):r=s:=NY h3 h4 fun k=>(h1.filter k).trans (h2.filter k).symm
theorem Srt.append {l r:List α} (h1:Srt key l) (h2:Srt key r) (h:∀ a∈l,∀ b∈r,¬ (key b).lt (key a)):Srt key (l++r):=List.pairwise_append.2 ⟨h1,h2,h⟩
theorem Srt.left {l r:List α} (h:Srt key (l++r)):Srt key l:=(List.pairwise_append.1 h).1
theorem Srt.right {l r:List α} (h:Srt key (l++r)):Srt key r:=(List.pairwise_append.1 h).2.1
theorem Srt.Ep {l r:List α} (h:Srt key (l++r)):∀ a∈l,∀ b∈r,¬ (key b).lt (key a):=(List.pairwise_append.1 h).2.2
theorem Srt.at {l:List α} (h:Srt key l) {i j:Nat} {a b:α} (hij:i<=j) (ha:l[i]? = some a) (hb:l[j]? = some b):¬ (key b).lt (key a):=by
 rcases gI i j with h1 | h1
 ·obtain ⟨li,ei⟩:=List.getElem?_eq_some_iff.1 ha
  obtain ⟨lj,ej⟩:=List.getElem?_eq_some_iff.1 hb
  subst ei ej
  exact List.pairwise_iff_getElem.1 h i j li lj h1
 ·obtain rfl:i=j:=by omega
  rw [ha] at hb
  injection hb with hb
  subst hb
  exact Key.lt_irrefl _
end
end Go.Bm
namespace Go.Den.YtbknfejmdekhpaaGreat
open Go Go.Den
def BF (C:gl) (c:Option Addr) (base ad ae:Int) (af:Option Addr) (H I:Nat) (y z:Int) (A:Option Addr) (k l:Nat) (dx dy:Int) (h:Heap) (K:VK) (Kp:PK):Prop :=
gE h [.pointer c] jW fun m ag=>
gE ag [.int .i64 base] gQ fun G J=>
gE J [.int .i64 ad,.int .i64 ae,.slice af H I] fK fun e L=>
gE L [.int .i64 y,.int .i64 z,.slice A k l] fK fun f a=>
ldP a (⟨m,0,none⟩:Addr) fun M=>
fI M.isNone (
K (.int .i64 53) a)<|
ldI a (.add ⟨e,0,none⟩ 0) .i64 fun N=>
ldI a (.add ⟨e,0,none⟩ 1) .i64 fun O=>
ldS a (.add ⟨e,0,none⟩ 2) fun P B D=>
C nW #[.agg #[.int .i64 N,.int .i64 O,.slice P B D]] a (fun Q d=>
∃ (n:Option Addr),∃ (g:Int),Q = .tuple #[.pointer n,.int .i64 g]/\(
ldI d (.add ⟨f,0,none⟩ 0) .i64 fun R=>
ldI d (.add ⟨f,0,none⟩ 1) .i64 fun S=>
ldS d (.add ⟨f,0,none⟩ 2) fun T E F=>
C nW #[.agg #[.int .i64 R,.int .i64 S,.slice T E F]] d (fun U o=>
∃ (p:Option Addr),∃ (q:Int),U = .tuple #[.pointer p,.int .i64 q]/\(
∃ i:List Value->Heap->Prop,(
fI (g != (0:Int)) (
i [.bool (g != (0:Int))] o)<|
i [.bool (q != (0:Int))] o)/\∀ (j:Heap) (ah:Nat->Value) (r:Bool),i [.bool r] j->(
fI r (
K (.int .i64 62) j)<|
C pR #[.int .i64 dx,.int .i64 dy] j (fun V b=>
∃ (s:Bool),V = .bool s/\(
fI (!s) (
K (.int .i64 70) b)<|
ldI b (⟨G,0,none⟩:Addr) .i64 fun W=>
ldP b (⟨m,0,none⟩:Addr) fun X=>
ptr X fun Y=>
C jz #[.pointer (some (Y.add 0))] b (fun Z t=>
∃ (u:Int),Z = .int .i64 u/\(
gi b t/\(
C s4 #[.int .i64 W,.int .i64 u] t (fun aa v=>
∃ (w:Bool),aa = .bool w/\(
fI (!w) (
K (.int .i64 51) v)<|
C ux #[.pointer n,.pointer p,.int .i64 dx,.int .i64 dy,.func (.func pS) #[] #[.pointer (some ⟨m,0,none⟩),.pointer (some ⟨G,0,none⟩)]] v (fun ab ac=>
∃ (x:Int),ab = .int .i64 x/\(
K (.int .i64 x) ac)) (Kp))) (Kp)))) (Kp))) (Kp)))) (Kp))) (Kp)
def BG (C:gl) (d:Option Addr) (base w h' L M:Int) (N:Option Addr) (q r:Nat) (dx dy:Int) (h:Heap) (K:VK) (Kp:PK):Prop :=
gE h [.pointer d] mP fun s a5=>
gE a5 [.int .i64 base] gQ fun ae a6=>
gE a6 [.int .i64 L,.int .i64 M,.slice N q r] fK fun t a7=>
gE a7 [.int .i64 0,.int .i64 0,.slice none 0 0] fK fun a b=>
ldP b (⟨s,0,none⟩:Addr) fun af=>
fI af.isNone (
stV b (.add ⟨a,0,none⟩ 0) (.int .i64 0) fun ag=>
stV ag (.add ⟨a,0,none⟩ 1) (.int .i64 0) fun ah=>
stV ah (.add ⟨a,0,none⟩ 2) (.slice none 0 0) fun e=>
ldI e (.add ⟨a,0,none⟩ 0) .i64 fun ai=>
ldI e (.add ⟨a,0,none⟩ 1) .i64 fun aj=>
ldS e (.add ⟨a,0,none⟩ 2) fun ak O P=>
K (.tuple #[.agg #[.int .i64 ai,.int .i64 aj,.slice ak O P],.int .i64 53]) e)<|
ldI b (.add ⟨t,0,none⟩ 0) .i64 fun al=>
ldI b (.add ⟨t,0,none⟩ 1) .i64 fun am=>
ldS b (.add ⟨t,0,none⟩ 2) fun an Q R=>
C nW #[.agg #[.int .i64 al,.int .i64 am,.slice an Q R]] b (fun ao u=>
∃ (v:Option Addr),∃ (x:Int),ao = .tuple #[.pointer v,.int .i64 x]/\(
fI (x != (0:Int)) (
stV u (.add ⟨a,0,none⟩ 0) (.int .i64 0) fun ap=>
stV ap (.add ⟨a,0,none⟩ 1) (.int .i64 0) fun aq=>
stV aq (.add ⟨a,0,none⟩ 2) (.slice none 0 0) fun f=>
ldI f (.add ⟨a,0,none⟩ 0) .i64 fun ar=>
ldI f (.add ⟨a,0,none⟩ 1) .i64 fun au=>
ldS f (.add ⟨a,0,none⟩ 2) fun av S T=>
K (.tuple #[.agg #[.int .i64 ar,.int .i64 au,.slice av S T],.int .i64 62]) f)<|
C rF #[.int .i64 w,.int .i64 h'] u (fun aw y=>
∃ (m:Option Addr),∃ (z:Int),aw = .tuple #[.pointer m,.int .i64 z]/\(
fI (z != (0:Int)) (
stV y (.add ⟨a,0,none⟩ 0) (.int .i64 0) fun ax=>
stV ax (.add ⟨a,0,none⟩ 1) (.int .i64 0) fun ay=>
stV ay (.add ⟨a,0,none⟩ 2) (.slice none 0 0) fun g=>
ldI g (.add ⟨a,0,none⟩ 0) .i64 fun az=>
ldI g (.add ⟨a,0,none⟩ 1) .i64 fun aA=>
ldS g (.add ⟨a,0,none⟩ 2) fun aB U V=>
K (.tuple #[.agg #[.int .i64 az,.int .i64 aA,.slice aB U V],.int .i64 63]) g)<|
C pR #[.int .i64 dx,.int .i64 dy] y (fun aC c=>
∃ (A:Bool),aC = .bool A/\(
fI (!A) (
stV c (.add ⟨a,0,none⟩ 0) (.int .i64 0) fun aD=>
stV aD (.add ⟨a,0,none⟩ 1) (.int .i64 0) fun aE=>
stV aE (.add ⟨a,0,none⟩ 2) (.slice none 0 0) fun i=>
ldI i (.add ⟨a,0,none⟩ 0) .i64 fun aF=>
ldI i (.add ⟨a,0,none⟩ 1) .i64 fun aG=>
ldS i (.add ⟨a,0,none⟩ 2) fun aH W X=>
K (.tuple #[.agg #[.int .i64 aF,.int .i64 aG,.slice aH W X],.int .i64 70]) i)<|
ldI c (⟨ae,0,none⟩:Addr) .i64 fun aI=>
ldP c (⟨s,0,none⟩:Addr) fun aJ=>
ptr aJ fun aK=>
C jz #[.pointer (some (aK.add 0))] c (fun aL B=>
∃ (D:Int),aL = .int .i64 D/\(
gi c B/\(
C s4 #[.int .i64 aI,.int .i64 D] B (fun aM E=>
∃ (F:Bool),aM = .bool F/\(
fI (!F) (
stV E (.add ⟨a,0,none⟩ 0) (.int .i64 0) fun aN=>
stV aN (.add ⟨a,0,none⟩ 1) (.int .i64 0) fun aO=>
stV aO (.add ⟨a,0,none⟩ 2) (.slice none 0 0) fun j=>
ldI j (.add ⟨a,0,none⟩ 0) .i64 fun aP=>
ldI j (.add ⟨a,0,none⟩ 1) .i64 fun aQ=>
ldS j (.add ⟨a,0,none⟩ 2) fun aR Y Z=>
K (.tuple #[.agg #[.int .i64 aP,.int .i64 aQ,.slice aR Y Z],.int .i64 51]) j)<|
C ux #[.pointer m,.pointer v,.int .i64 dx,.int .i64 dy,.func (.func pT) #[] #[.pointer (some ⟨s,0,none⟩),.pointer (some ⟨ae,0,none⟩)]] E (fun aS G=>
∃ (n:Int),aS = .int .i64 n/\(
fI (n != (0:Int)) (
stV G (.add ⟨a,0,none⟩ 0) (.int .i64 0) fun aT=>
stV aT (.add ⟨a,0,none⟩ 1) (.int .i64 0) fun aU=>
stV aU (.add ⟨a,0,none⟩ 2) (.slice none 0 0) fun k=>
ldI k (.add ⟨a,0,none⟩ 0) .i64 fun aV=>
ldI k (.add ⟨a,0,none⟩ 1) .i64 fun aW=>
ldS k (.add ⟨a,0,none⟩ 2) fun aX aa ab=>
K (.tuple #[.agg #[.int .i64 aV,.int .i64 aW,.slice aX aa ab],.int .i64 n]) k)<|
C nK #[.pointer m] G (fun aY aZ=>
∃ (H I:Int) (J:Option Addr) (o p:Nat),aY = .agg #[.int .i64 H,.int .i64 I,.slice J o p]/\(
stV aZ (.add ⟨a,0,none⟩ 0) (.int .i64 H) fun a0=>
stV a0 (.add ⟨a,0,none⟩ 1) (.int .i64 I) fun a1=>
stV a1 (.add ⟨a,0,none⟩ 2) (.slice J o p) fun l=>
ldI l (.add ⟨a,0,none⟩ 0) .i64 fun a2=>
ldI l (.add ⟨a,0,none⟩ 1) .i64 fun a3=>
ldS l (.add ⟨a,0,none⟩ 2) fun a4 ac ad=>
K (.tuple #[.agg #[.int .i64 a2,.int .i64 a3,.slice a4 ac ad],.int .i64 0]) l)) (Kp))) (Kp))) (Kp)))) (Kp))) (Kp))) (Kp))) (Kp)
def wi (C:gl) (dx dy:Int) (h:Heap) (K:VK) (Kp:PK):Prop :=
fI (decide (dx≥(-1048576:Int))) (
fI (decide (dx<=(1048576:Int))) (
fI (decide (dy≥(-1048576:Int))) (
K (.bool (decide (dy<=(1048576:Int)))) h)<|
K (.bool false) h)<|
K (.bool false) h)<|
K (.bool false) h
def zr (C:gl) (base all:Int) (h:Heap) (K:VK) (Kp:PK):Prop :=
fI (decide (base≥(0:Int))) (
fG (IntKind.i64.wrap (all-(8192:Int))) fun z_1=>
K (.bool (decide (base<=z_1))) h)<|
K (.bool false) h
def BD (C:gl) (D:wS) (m ref:Option Addr) (dx dy:Int) (decidev:Value) (h:Heap) (K:VK) (Kp:PK):Prop :=
gE h [.pointer m] mB fun f bx=>
gE bx [.pointer ref] mB fun F bz=>
gE bz [.int .i64 dx] gQ fun G bA=>
gE bA [.int .i64 dy] gQ fun H bB=>
gE bB [.int .i64 0] gR fun a I=>
ldP I (⟨f,0,none⟩:Addr) fun aH=>
C rG #[.pointer aH] I (fun aI aJ=>
∃ (J:Int),∃ (L:Int),aI = .tuple #[.int .i64 J,.int .i64 L]/\(
∃ n:Nat->List Value->Heap->Prop,(∃ g,n g [.int .i64 0] aJ)/\∀ (g:Nat) (o:Heap) (bC:Nat->Value) (i:Int),n g [.int .i64 i] o->(
fI (decide (i<L)) (
gE o [.int .i64 0] gQ fun d aK=>
stV aK (⟨d,0,none⟩:Addr) (.int .i64 i) fun aL=>
∃ p:Nat->List Value->Heap->Prop,(∃ j,p j [.int .i64 0] aL)/\∀ (j:Nat) (q:Heap) (bD:Nat->Value) (b:Int),p j [.int .i64 b] q->(
fI (decide (b<J)) (
fG (IntKind.i64.wrap (b-(1:Int))) fun aM=>
C lD #[.int .i64 aM,.int .i64 (-1),.pointer (some ⟨f,0,none⟩),.pointer (some ⟨d,0,none⟩)] q (fun aN aO=>
∃ (M:Int),aN = .int .i64 M/\(
fG (lT .i64 M (3:Int)) fun aP=>
C lD #[.int .i64 b,.int .i64 (-1),.pointer (some ⟨f,0,none⟩),.pointer (some ⟨d,0,none⟩)] aO (fun aQ aR=>
∃ (N:Int),aQ = .int .i64 N/\(
fG (lT .i64 N (2:Int)) fun aS=>
fG (jo .or .i64 aP aS) fun aT=>
fG (IntKind.i64.wrap (b+(1:Int))) fun aU=>
C lD #[.int .i64 aU,.int .i64 (-1),.pointer (some ⟨f,0,none⟩),.pointer (some ⟨d,0,none⟩)] aR (fun aV aW=>
∃ (O:Int),aV = .int .i64 O/\(
fG (lT .i64 O (1:Int)) fun aX=>
fG (jo .or .i64 aT aX) fun aY=>
fG (IntKind.i64.wrap (b-(1:Int))) fun aZ=>
C lD #[.int .i64 aZ,.int .i64 0,.pointer (some ⟨f,0,none⟩),.pointer (some ⟨d,0,none⟩)] aW (fun a0 a1=>
∃ (P:Int),a0 = .int .i64 P/\(
fG (jo .or .i64 aY P) fun a2=>
∃ r:Nat->List Value->Heap->Prop,(∃ k,r k [.int .i64 a2,.int .i64 (-1)] a1)/\∀ (k:Nat) (e:Heap) (bE:Nat->Value) (s c:Int),r k [.int .i64 s,.int .i64 c] e->(
fI (decide (c<=(1:Int))) (
fG (lT .i64 s (3:Int)) fun a3=>
fG (IntKind.i64.wrap (b-(1:Int))) fun a4=>
C mK #[.int .i64 a4,.int .i64 c,.pointer (some ⟨F,0,none⟩),.pointer (some ⟨G,0,none⟩),.pointer (some ⟨d,0,none⟩),.pointer (some ⟨H,0,none⟩)] e (fun a5 a6=>
∃ (Q:Int),a5 = .int .i64 Q/\(
fG (lT .i64 Q (2:Int)) fun a7=>
fG (jo .or .i64 a3 a7) fun a8=>
C mK #[.int .i64 b,.int .i64 c,.pointer (some ⟨F,0,none⟩),.pointer (some ⟨G,0,none⟩),.pointer (some ⟨d,0,none⟩),.pointer (some ⟨H,0,none⟩)] a6 (fun a9 ba=>
∃ (R:Int),a9 = .int .i64 R/\(
fG (lT .i64 R (1:Int)) fun bb=>
fG (jo .or .i64 a8 bb) fun bc=>
fG (IntKind.i64.wrap (b+(1:Int))) fun bd=>
C mK #[.int .i64 bd,.int .i64 c,.pointer (some ⟨F,0,none⟩),.pointer (some ⟨G,0,none⟩),.pointer (some ⟨d,0,none⟩),.pointer (some ⟨H,0,none⟩)] ba (fun be bf=>
∃ (S:Int),be = .int .i64 S/\(
fG (jo .or .i64 bc S) fun bg=>
fG (IntKind.i64.wrap (c+(1:Int))) fun bh=>
∃ T,T<k/\r T [.int .i64 bg,.int .i64 bh] bf)) (fun bi bj=>j5 D (fun U=>
ldI U (⟨a,0,none⟩:Addr) .i64 fun bk=>
K (.int .i64 bk) U) Kp [{ target := .fn (.func iR) #[.pointer (some ⟨a,0,none⟩)],args:=#[] }] (.panicking bi) bj))) (fun bl bm=>j5 D (fun V=>
ldI V (⟨a,0,none⟩:Addr) .i64 fun bn=>
K (.int .i64 bn) V) Kp [{ target := .fn (.func iR) #[.pointer (some ⟨a,0,none⟩)],args:=#[] }] (.panicking bl) bm))) (fun bo bp=>j5 D (fun W=>
ldI W (⟨a,0,none⟩:Addr) .i64 fun bq=>
K (.int .i64 bq) W) Kp [{ target := .fn (.func iR) #[.pointer (some ⟨a,0,none⟩)],args:=#[] }] (.panicking bo) bp))<|
∃ l:Nat->Prop,(
ldP e (⟨f,0,none⟩:Addr) fun br=>
l ((⟨f,0,none⟩:Addr):Addr).block/\(
ldI e (⟨d,0,none⟩:Addr) .i64 fun bs=>
l ((⟨d,0,none⟩:Addr):Addr).block/\(
C lD #[.int .i64 b,.int .i64 0,.pointer (some ⟨f,0,none⟩),.pointer (some ⟨d,0,none⟩)] e (fun bt t=>
∃ (X:Int),bt = .int .i64 X/\(
lZ l e t/\(
oy C (fun ac ad=>j5 D (fun u=>
ldI u (⟨a,0,none⟩:Addr) .i64 fun ae=>
K (.int .i64 ae) u) Kp [{ target := .fn (.func iR) #[.pointer (some ⟨a,0,none⟩)],args:=#[] }] (.panicking ac) ad) decidev [.int .i64 s,.int .i64 X] t fun bu Y=>
∃ (Z:Int),bu = .int .i64 Z/\(
lZ l t Y/\(
C sO #[.pointer br,.int .i64 b,.int .i64 bs,.int .i64 Z] Y (fun bv bw=>
∃ (af:Int),bv = .int .i64 af/\(
fG (IntKind.i64.wrap (b+(1:Int))) fun ag=>
∃ aa,aa<j/\p aa [.int .i64 ag] bw)) (fun ah ai=>j5 D (fun v=>
ldI v (⟨a,0,none⟩:Addr) .i64 fun aj=>
K (.int .i64 aj) v) Kp [{ target := .fn (.func iR) #[.pointer (some ⟨a,0,none⟩)],args:=#[] }] (.panicking ah) ai)))))) (fun ak al=>j5 D (fun w=>
ldI w (⟨a,0,none⟩:Addr) .i64 fun am=>
K (.int .i64 am) w) Kp [{ target := .fn (.func iR) #[.pointer (some ⟨a,0,none⟩)],args:=#[] }] (.panicking ak) al))))))) (fun an ao=>j5 D (fun x=>
ldI x (⟨a,0,none⟩:Addr) .i64 fun ap=>
K (.int .i64 ap) x) Kp [{ target := .fn (.func iR) #[.pointer (some ⟨a,0,none⟩)],args:=#[] }] (.panicking an) ao))) (fun aq ar=>j5 D (fun y=>
ldI y (⟨a,0,none⟩:Addr) .i64 fun au=>
K (.int .i64 au) y) Kp [{ target := .fn (.func iR) #[.pointer (some ⟨a,0,none⟩)],args:=#[] }] (.panicking aq) ar))) (fun av aw=>j5 D (fun z=>
ldI z (⟨a,0,none⟩:Addr) .i64 fun ax=>
K (.int .i64 ax) z) Kp [{ target := .fn (.func iR) #[.pointer (some ⟨a,0,none⟩)],args:=#[] }] (.panicking av) aw))) (fun ay az=>j5 D (fun A=>
ldI A (⟨a,0,none⟩:Addr) .i64 fun aA=>
K (.int .i64 aA) A) Kp [{ target := .fn (.func iR) #[.pointer (some ⟨a,0,none⟩)],args:=#[] }] (.panicking ay) az))<|
fG (IntKind.i64.wrap (i+(1:Int))) fun aB=>
∃ ab,ab<g/\n ab [.int .i64 aB] q))<|
stV o (⟨a,0,none⟩:Addr) (.int .i64 0) fun aC=>
j5 D (fun B=>
ldI B (⟨a,0,none⟩:Addr) .i64 fun aD=>
K (.int .i64 aD) B) Kp [{ target := .fn (.func iR) #[.pointer (some ⟨a,0,none⟩)],args:=#[] }] .returning aC))) (fun aE aF=>j5 D (fun E=>
ldI E (⟨a,0,none⟩:Addr) .i64 fun aG=>
K (.int .i64 aG) E) Kp [{ target := .fn (.func iR) #[.pointer (some ⟨a,0,none⟩)],args:=#[] }] (.panicking aE) aF)
def wm (C:gl) (context bit:Int) (cap0 cap1:Addr) (h:Heap) (K:VK) (Kp:PK):Prop :=
ldP h cap0 fun c=>
ldI h cap1 .i64 fun d=>
fG (IntKind.i64.wrap (d+context)) fun e=>
C kJ #[.pointer c,.int .i64 e,.int .i64 bit] h (fun f b=>
∃ (a:Int),f = .int .i64 a/\(
fI (a != (0:Int)) (
Kp [{ v := .iface jx (.agg #[.int .i64 a]),recovered:=false }] b)<|
K (.int .i64 bit) b)) (Kp)
def wo (C:gl) (context a1:Int) (cap0 cap1:Addr) (h:Heap) (K:VK) (Kp:PK):Prop :=
ldP h cap0 fun d=>
ldI h cap1 .i64 fun e=>
fG (IntKind.i64.wrap (e+context)) fun f=>
C kG #[.pointer d,.int .i64 f] h (fun g b=>
∃ (c:Int),∃ (a:Int),g = .tuple #[.int .i64 c,.int .i64 a]/\(
fI (a != (0:Int)) (
Kp [{ v := .iface jx (.agg #[.int .i64 a]),recovered:=false }] b)<|
K (.int .i64 c) b)) (Kp)
def sP (C:gl) (cap0:Addr) (u:FrameMode) (h:Heap) (Kd:FrameMode->Heap->Prop) (Kdp:FrameMode->PK):Prop :=
Jq u (fun l=>
Kd l h) (fun a b c=>
fI (Nat.beq a jx) (
∃ (d:Int),b = .agg #[.int .i64 d]/\(
gE h [.int .i64 0] jx fun e m=>
stV m (.add ⟨e,0,none⟩ 0) (.int .i64 d) fun f=>
ldI f (.add ⟨e,0,none⟩ 0) .i64 fun n=>
stV f cap0 (.int .i64 n) fun g=>
Kd c g))<|
gE h [.int .i64 0] jx fun i j=>
stV j (.add ⟨i,0,none⟩ 0) (.int .i64 0) fun k=>
Kdp c [{ v := .iface a (b),recovered:=false }] k)
def wk (C:gl) (x down:Int) (cap0 cap1:Addr) (h:Heap) (K:VK) (Kp:PK):Prop :=
ldP h cap0 fun b=>
ldI h cap1 .i64 fun c=>
fG (IntKind.i64.wrap (c+down)) fun d=>
C o5 #[.pointer b,.int .i64 x,.int .i64 d] h (fun e f=>
∃ (a:Int),e = .int .i64 a/\(
K (.int .i64 a) f)) (Kp)
def wj (C:gl) (x down:Int) (cap0 cap1 cap2 cap3:Addr) (h:Heap) (K:VK) (Kp:PK):Prop :=
ldP h cap0 fun b=>
ldI h cap1 .i64 fun c=>
fG (IntKind.i64.wrap (x-c)) fun d=>
ldI h cap2 .i64 fun e=>
fG (IntKind.i64.wrap (e+down)) fun f=>
ldI h cap3 .i64 fun g=>
fG (IntKind.i64.wrap (f-g)) fun i=>
C o5 #[.pointer b,.int .i64 d,.int .i64 i] h (fun j k=>
∃ (a:Int),j = .int .i64 a/\(
K (.int .i64 a) k)) (Kp)
theorem EH {c:Option Addr} {base k l:Int} {m:Option Addr} {g j:Nat} {d e:Int} {f:Option Addr} {a b:Nat} {dx dy:Int} {h:Heap} {K:VK} {Kp:PK} (H:BF QP c base k l m g j d e f a b dx dy h K Kp):QP uy #[.pointer c,.int .i64 base,.agg #[.int .i64 k,.int .i64 l,.slice m g j],.agg #[.int .i64 d,.int .i64 e,.slice f a b],.int .i64 dx,.int .i64 dy] h K Kp :=
 fJ (Hints.mk (fun i=>bif Nat.beq i 10 then some ([5],.take 0 <| .take 1 <| .take 2 <| .take 3 <| .go 4 <| .bar 5 [] <| .take 6 <| .take 7 <| .done) else (none)) (fun i=>none) (fun i=>bif Nat.beq i 7 then some ([(29,.bool)],16642998272) else (none)) []) (by kernel_rfl) Go.Proofs.Tryz.func144 (by kernel_rfl) (fun C=>BF C c base k l m g j d e f a b dx dy h K Kp) (fun C=>by kernel_rfl) H
theorem EI {d:Option Addr} {base w h' c e:Int} {f:Option Addr} {a b:Nat} {dx dy:Int} {h:Heap} {K:VK} {Kp:PK} (H:BG QP d base w h' c e f a b dx dy h K Kp):QP uz #[.pointer d,.int .i64 base,.int .i64 w,.int .i64 h',.agg #[.int .i64 c,.int .i64 e,.slice f a b],.int .i64 dx,.int .i64 dy] h K Kp :=
 fJ (Hints.mk (fun i=>bif Nat.beq i 11 then some ([5],.take 0 <| .take 1 <| .take 2 <| .take 3 <| .go 4 <| .bar 5 [] <| .take 6 <| .take 7 <| .done) else (none)) (fun i=>none) (fun i=>none) []) (by kernel_rfl) Go.Proofs.Tryz.func170 (by kernel_rfl) (fun C=>BG C d base w h' c e f a b dx dy h K Kp) (fun C=>by kernel_rfl) H
theorem BV {dx dy:Int} {h:Heap} {K:VK} {Kp:PK} (H:wi QP dx dy h K Kp):QP pR #[.int .i64 dx,.int .i64 dy] h K Kp :=
 fJ (Hints.mk (fun i=>none) (fun i=>none) (fun i=>none) []) (by kernel_rfl) Go.Proofs.Tryz.func184 (by kernel_rfl) (fun C=>wi C dx dy h K Kp) (fun C=>by kernel_rfl) H
theorem DU {base all:Int} {h:Heap} {K:VK} {Kp:PK} (H:zr QP base all h K Kp):QP s4 #[.int .i64 base,.int .i64 all] h K Kp :=
 fJ (Hints.mk (fun i=>none) (fun i=>none) (fun i=>none) []) (by kernel_rfl) Go.Proofs.Tryz.func185 (by kernel_rfl) (fun C=>zr C base all h K Kp) (fun C=>by kernel_rfl) H
noncomputable def w6:Hints:=Hints.mk (fun i=>bif Nat.beq i 16 then some ([9], .keep <| .take 1 <| .take 3 <| .take 4 <| .take 5 <| .take 6 <| .take 0 <| .take 2 <| .go 7 <| .go 8 <| .bar 9 [] <| .done) else (none))
 (fun i=>bif Nat.beq i 4 then some ([(26,.int .i64)],9903520314283042199126401024) else (bif Nat.beq i 9 then some ([(32,.int .i64)],4951760157141521095301988352) else (bif Nat.beq i 13 then some ([(17,.int .i64),(18,.int .i64)],2417851567171664311877632) else (none))))
 (fun i=>none) []
theorem GK (C:gl) (D:wS) (m:Option Addr) (ref:Option Addr) (dx:Int) (dy:Int) (decidev:Value) (h:Heap) (K:VK) (Kp:PK) :
  Pc Go.Proofs.Tryz.prog C D w6 Go.Proofs.Tryz.f186 [.pointer m,.pointer ref,.int .i64 dx,.int .i64 dy,decidev] h K Kp=BD C D m ref dx dy decidev h K Kp:=by kernel_rfl
theorem EG {m ref:Option Addr} {dx dy:Int} {decidev:Value} {h:Heap} {K:VK} {Kp:PK} (H:BD QP (kQ Go.Proofs.Tryz.prog) m ref dx dy decidev h K Kp):QP ux #[.pointer m,.pointer ref,.int .i64 dx,.int .i64 dy,decidev] h K Kp :=
 zH w6 (by kernel_rfl) Go.Proofs.Tryz.func186 (by kernel_rfl) (by rw [GK]; exact H)
theorem BY {context bit:Int} {cap0 cap1:Addr} {h:Heap} {K:VK} {Kp:PK} (H:wm QP context bit cap0 cap1 h K Kp):QP pS #[.int .i64 context,.int .i64 bit,.pointer (some cap0),.pointer (some cap1)] h K Kp :=
 fJ (Hints.mk (fun i=>none) (fun i=>none) (fun i=>none) []) (by kernel_rfl) Go.Proofs.Tryz.func187 (by kernel_rfl) (fun C=>wm C context bit cap0 cap1 h K Kp) (fun C=>by kernel_rfl) H
theorem BZ {context a1:Int} {cap0 cap1:Addr} {h:Heap} {K:VK} {Kp:PK} (H:wo QP context a1 cap0 cap1 h K Kp):QP pT #[.int .i64 context,.int .i64 a1,.pointer (some cap0),.pointer (some cap1)] h K Kp :=
 fJ (Hints.mk (fun i=>none) (fun i=>none) (fun i=>none) []) (by kernel_rfl) Go.Proofs.Tryz.func196 (by kernel_rfl) (fun C=>wo C context a1 cap0 cap1 h K Kp) (fun C=>by kernel_rfl) H
noncomputable def ud:Hints:=Hints.mk (fun i=>none)
 (fun i=>none)
 (fun i=>none) []
theorem DF (C:gl) (cap0:Addr) (u:FrameMode) (h:Heap) (Kd:FrameMode->Heap->Prop) (Kdp:FrameMode->PK) :
  QR Go.Proofs.Tryz.prog C ud Go.Proofs.Tryz.f200 [.pointer (some cap0)] u h Kd Kdp=sP C cap0 u h Kd Kdp:=by kernel_rfl
theorem ue {cap0:Addr} {u:FrameMode} {h:Heap} {Kd:FrameMode->Heap->Prop} {Kdp:FrameMode->PK} (H:sP (kW Go.Proofs.Tryz.prog) cap0 u h Kd Kdp):kQ Go.Proofs.Tryz.prog iR #[.pointer (some cap0)] u h Kd Kdp :=
 HK ud (by kernel_rfl) Go.Proofs.Tryz.func200 (by kernel_rfl) (by rw [DF]; exact H)
theorem BX {x down:Int} {cap0 cap1:Addr} {h:Heap} {K:VK} {Kp:PK} (H:wk QP x down cap0 cap1 h K Kp):QP lD #[.int .i64 x,.int .i64 down,.pointer (some cap0),.pointer (some cap1)] h K Kp :=
 fJ (Hints.mk (fun i=>none) (fun i=>none) (fun i=>none) []) (by kernel_rfl) Go.Proofs.Tryz.func202 (by kernel_rfl) (fun C=>wk C x down cap0 cap1 h K Kp) (fun C=>by kernel_rfl) H
theorem BW {x down:Int} {cap0 cap1 cap2 cap3:Addr} {h:Heap} {K:VK} {Kp:PK} (H:wj QP x down cap0 cap1 cap2 cap3 h K Kp):QP mK #[.int .i64 x,.int .i64 down,.pointer (some cap0),.pointer (some cap1),.pointer (some cap2),.pointer (some cap3)] h K Kp :=
 fJ (Hints.mk (fun i=>none) (fun i=>none) (fun i=>none) []) (by kernel_rfl) Go.Proofs.Tryz.func204 (by kernel_rfl) (fun C=>wj C x down cap0 cap1 cap2 cap3 h K Kp) (fun C=>by kernel_rfl) H
end Go.Den.YtbknfejmdekhpaaGreat
namespace Go.Den
open Go
section
variable {h0 h h':Heap} {F:List Nat} {A S S':List Ent}
theorem Hp.mv (H:Hp h0 F h (A++S)):Hp h (S.map Ent.b) h S :=
 Hp.mk' (Fr.refl _ _) (fun e he=>H.mem e (fX _ he)) (fun e he _ => .inl (List.mem_map.2 ⟨e,he,rfl⟩)) H.suf.pw
theorem Hp.pg (H:Hp h0 F h (A++S)) (hw:S.all Ent.w=true) (H':Hp h (S.map Ent.b) h' S') (hw':S'.all Ent.w=true):Hp h0 F h' (A++S'):=by
 have hSw:∀ e∈S,e.w=true:=List.all_eq_true.1 hw
 have hSw':∀ e∈S',e.w=true:=List.all_eq_true.1 hw'
 have hown:∀ b∈S.map Ent.b,b∈F\/h0.size<=b:=fun b hb=>by
  obtain ⟨e,he,rfl⟩:=List.mem_map.1 hb
  exact H.GH e (fX _ he) (hSw e he)
 have hap:∀ e∈A,e.b ∉ S.map Ent.b:=fun e he hb=>by
  obtain ⟨e',he',hbb⟩:=List.mem_map.1 hb
  exact (List.pairwise_append.1 H.pw).2.2 e he e' he' hbb.symm
 have hlt:∀ e∈A,e.b<h.size:=fun e he=>(H.mem e (gV _ he)).lt
 refine Hp.mk' ⟨iL H.fr.1 H'.fr.1,fun b hb hF=>?_⟩ (fun e he=>?_) (fun e he hwt=>?_) ?_
 ·rw [H'.fr.2 b (iK hb H.fr.1) (fun hm=>by
   rcases hown b hm with h1 | h1
   ·exact hF h1
   ·omega)]
  exact H.fr.2 b hb hF
 ·rcases List.mem_append.1 he with he | he
  ·have h1:=H.mem e (gV _ he)
   unfold Blk at h1 ⊢
   rw [H'.fr.2 e.b (hlt e he) (hap e he)]
   exact h1
  ·exact H'.mem e he
 ·rcases List.mem_append.1 he with he | he
  ·exact H.GH e (gV _ he) hwt
  ·rcases H'.GH e he hwt with h1 | h1
   ·exact hown _ h1
   ·exact .inr (iL H.fr.1 h1)
 ·refine List.pairwise_append.2 ⟨H.pre.pw,H'.pw,fun e he e' he' hb=>?_⟩
  rcases H'.GH e' he' (hSw' e' he') with h1 | h1
  ·exact hap e he (hb ▸ h1)
  ·have:=hlt e he
   omega
end
end Go.Den
namespace Go.Bm
open Go Go.Den Go.Den.YtbknfejmdekhpaaGreat
def mz:Nat->List Bool->Nat
 | n,[]=>n
 | n,b::l=>mz (2*n+b.toNat) l
def BI (B:Int->Int->Bool) (x y:Int):List Bool:=[B (x-1) (y + -1),B x (y + -1),B (x+1) (y + -1),B (x-1) (y+0)]
def Fx (R:Int->Int->Bool) (dx x y:Int):List Bool:=[R (x-1-dx) y,R (x-dx) y,R (x+1-dx) y]
def m8 (R:Int->Int->Bool) (dx dy x y:Int):Nat->List Bool
 | 0=>[]
 | d+1=>m8 R dx dy x y d++Fx R dx x (y+((d:Int)-1)-dy)
def CM (B R:Int->Int->Bool) (dx dy x y:Int):Nat:=mz 0 (BI B x y++m8 R dx dy x y 3)
theorem toNat_le (b:Bool):b.toNat<=1:=by cases b <;> decide
theorem Ac:∀ (l:List Bool) (n m:Nat),n<2 ^ m->mz n l<2 ^ (m+l.length)
 | [],n,m,h=>h
 | b::l,n,m,h=>by
  have:=Ac l (2*n+b.toNat) (m+1) (by rw [jA]; have:=toNat_le b; omega)
  rw [show m+(b::l).length=m+1+l.length by simp; omega]
  exact this
theorem Mo (B R:Int->Int->Bool) (dx dy x y:Int):CM B R dx dy x y<8192:=by
 unfold CM
 exact Nat.lt_of_lt_of_eq (Ac _ 0 0 (by decide)) (by simp [BI,Fx,m8])
theorem D0:∀ (l l':List Bool) (n:Nat),mz n (l++l')=mz (mz n l) l'
 | [],_,_=>rfl
 | b::l,l',n=>D0 l l' _
theorem orI (a b:Nat) (ha:a<9223372036854775808) (hb:b<9223372036854775808):jo .or .i64 a b=((a ||| b:Nat):Int):=(bits_nat .i64 63 (by decide) NB a b ha hb).2
theorem RH {i a b:Nat} (hb:b<2 ^ i):(a*2 ^ i) ||| b=a*2 ^ i+b:=by
 rw [gS]
 exact (nR hb a).symm
theorem Il {a i:Nat} (hi:i<=64) (ha:a*2 ^ i<9223372036854775808):lT .i64 (a:Int) (i:Int)=((a*2 ^ i:Nat):Int):=lP hi (i64_in _ (by omega) (by omega))
theorem orA {i A B:Nat} (hi:i<=62) (hA:A % 2 ^ i=0) (hB:B<2 ^ i) (hA2:A<9223372036854775808):jo .or .i64 (A:Int) (B:Int)=((A+B:Nat):Int):=by
 have:2 ^ i<=2 ^ 62:=im (by decide) hi
 rw [orI _ _ hA2 (by omega)]
 have e:A=A / 2 ^ i*2 ^ i:=by have:=Nat.div_add_mod A (2 ^ i); rw [hA,gr,gS] at this; exact this.symm
 rw [e,RH hB]
theorem Su {a:Nat} (h:a<100000000000):lT .i64 (a:Int) 3=((a*8:Nat):Int):=Il (i:=3) (by decide) (by omega)
theorem Sv {a:Nat} (h:a<100000000000):lT .i64 (a:Int) 2=((a*4:Nat):Int):=Il (i:=2) (by decide) (by omega)
theorem Sy {a:Nat} (h:a<100000000000):lT .i64 (a:Int) 1=((a*2:Nat):Int):=Il (i:=1) (by decide) (by omega)
section
variable {h0 h:Heap} {FF:List Nat} {L:List Ent} {p q c W X r1 ry:Nat} {w:Bool} {t1 t2:TypeId} {ws:List Nat} {rest:List Value} {K:VK} {Kp:PK}
theorem RG (H:Hp h0 FF h L) (k1 ky kp kq:Nat) {w1 w2:Bool} (h1:L[k1]? = some ⟨r1,w1,t1,[.pointer (at0 p)]⟩) {y:Nat} (hy:L[ky]? = some ⟨ry,w2,t2,[.int .i64 (y:Nat)]⟩) (hp:L[kp]? = some (ph p q W X ws.length c)) (hq:L[kq]? = some ⟨q,w,gj,il ws++rest⟩)
  (hs:jX (W:Int) (X:Int)) (hl:ws.length=X*wds W) (hw:W64 ws) {x down:Int} (hyb:y<1048577) (hd:-1<=down/\down<=1) (hk:K (.int .i64 ((jR ws W X x (y+down)).toNat:Nat)) h) :
  CP lD #[.int .i64 x,.int .i64 down,.pointer (some ⟨r1,0,none⟩),.pointer (some ⟨ry,0,none⟩)] h K Kp:=by
 refine BX ?_
 unfold wk
 refine ja (H.cell k1 h1 (i:=0) rfl) ?_
 refine fz (H.cell ky hy (i:=0) rfl) ?_
 refine fw (((y:Int)+down)) (by exact i64_in _ (by omega) (by omega)) ?_
 refine L7 H kp kq hp hq hs hl hw ?_
 exact ⟨_,rfl,hk⟩
theorem Ow (H:Hp h0 FF h L) (k1 kx ky kd kp kq:Nat) {w1 w2 w3 w4:Bool} {t3 t4:TypeId} {rx rd:Nat} (h1:L[k1]? = some ⟨r1,w1,t1,[.pointer (at0 p)]⟩) {dx dy:Int} (hx:L[kx]? = some ⟨rx,w2,t2,[.int .i64 dx]⟩) {y:Nat} (hy:L[ky]? = some ⟨ry,w3,t3,[.int .i64 (y:Nat)]⟩)
  (hd:L[kd]? = some ⟨rd,w4,t4,[.int .i64 dy]⟩) (hp:L[kp]? = some (ph p q W X ws.length c)) (hq:L[kq]? = some ⟨q,w,gj,il ws++rest⟩)
  (hs:jX (W:Int) (X:Int)) (hl:ws.length=X*wds W) (hw:W64 ws) {x down:Int} (hyb:y<1048577) (hdn:-1<=down/\down<=1) (hxb:-2<=x/\x<1048580) (hdx:-1048576<=dx/\dx<=1048576) (hdy:-1048576<=dy/\dy<=1048576)
  (hk:K (.int .i64 ((jR ws W X (x-dx) (y+down-dy)).toNat:Nat)) h) :
  CP mK #[.int .i64 x,.int .i64 down,.pointer (some ⟨r1,0,none⟩),.pointer (some ⟨rx,0,none⟩),.pointer (some ⟨ry,0,none⟩),.pointer (some ⟨rd,0,none⟩)] h K Kp:=by
 refine BW ?_
 unfold wj
 refine ja (H.cell k1 h1 (i:=0) rfl) ?_
 refine fz (H.cell kx hx (i:=0) rfl) ?_
 refine fw ((x-dx)) (by exact i64_in _ (by omega) (by omega)) ?_
 refine fz (H.cell ky hy (i:=0) rfl) ?_
 refine fw (((y:Int)+down)) (by exact i64_in _ (by omega) (by omega)) ?_
 refine fz (H.cell kd hd (i:=0) rfl) ?_
 refine fw (((y:Int)+down-dy)) (by exact i64_in _ (by omega) (by omega)) ?_
 refine L7 H kp kq hp hq hs hl hw ?_
 exact ⟨_,rfl,hk⟩
end
theorem G6 {h:Heap} {dx dy:Int} {K:VK} {Kp:PK} (hk:∀ b:Bool,(b=true↔(-1048576<=dx/\dx<=1048576)/\-1048576<=dy/\dy<=1048576)->K (.bool b) h):CP pR #[.int .i64 dx,.int .i64 dy] h K Kp:=by
 refine BV ?_
 unfold wi
 refine fL (fun h1=>?_) fun h1=>hk false (by simp; omega)
 refine fL (fun h2=>?_) fun h2=>hk false (by simp; omega)
 refine fL (fun h3=>?_) fun h3=>hk false (by simp; omega)
 exact hk _ (by simp; omega)
theorem J3 {h:Heap} {base all:Int} (ha:-1000000000000<=all/\all<1000000000000) {K:VK} {Kp:PK} (hk:∀ b:Bool,(b=true↔0<=base/\base<=all-8192)->K (.bool b) h):CP s4 #[.int .i64 base,.int .i64 all] h K Kp:=by
 refine DU ?_
 unfold zr
 refine fL (fun h1=>?_) fun h1=>hk false (by simp; omega)
 refine fw ((all-8192)) (by exact i64_in _ (by omega) (by omega)) ?_
 exact hk _ (by simp; omega)
theorem Jr {h:Heap} {r:Nat} {Kd:FrameMode->Heap->Prop} {Kdp:FrameMode->PK} (hk:Kd .returning h):kQ Go.Proofs.Tryz.prog iR #[.pointer (some ⟨r,0,none⟩)] .returning h Kd Kdp :=
 ue (cap0:=⟨r,0,none⟩) (by unfold sP Jq; exact hk)
def upd (G:Int->Int->Bool) (a b:Int) (bit:Bool):Int->Int->Bool:=fun x y=>if x=a/\y=b then bit else G x y
section
variable {σ:Type}
def runN (W:Nat) (R:Int->Int->Bool) (dx dy:Int) (step:σ->Nat->Bool->(Bool × σ) ⊕ (Int × σ)):Nat->(Int->Int->Bool) × σ->((Int->Int->Bool) × σ) ⊕ (Int × σ)
 | 0,g => .inl g
 | k+1,g=>match runN W R dx dy step k g with
  | .inr e => .inr e
  | .inl (G,s)=>match step s (CM G R dx dy ((k % W:Nat):Int) ((k / W:Nat):Int)) (G ((k % W:Nat):Int) ((k / W:Nat):Int)) with
   | .inl (bit,s') => .inl (upd G ((k % W:Nat):Int) ((k / W:Nat):Int) bit,s')
   | .inr e => .inr e
theorem N9 {W:Nat} {R:Int->Int->Bool} {dx dy:Int} {step:σ->Nat->Bool->(Bool × σ) ⊕ (Int × σ)} {g:(Int->Int->Bool) × σ} {e:Int × σ} {k:Nat} (h:runN W R dx dy step k g = .inr e):∀ m,k<=m->runN W R dx dy step m g = .inr e:=by
 intro m hm
 induction m with
 | zero=>rw [show k=0 by omega] at h; exact h
 | succ m ih =>
  rcases gI m k with h1 | h1
  ·rw [show k=m+1 by omega] at h; exact h
  ·unfold runN; rw [ih h1]
theorem Ha {W x y:Nat} {R:Int->Int->Bool} {dx dy:Int} {step:σ->Nat->Bool->(Bool × σ) ⊕ (Int × σ)} {g:(Int->Int->Bool) × σ} {G:Int->Int->Bool} {s:σ} (hx:x<W) (h:runN W R dx dy step (y*W+x) g = .inl (G,s)) :
  runN W R dx dy step (y*W+x+1) g=match step s (CM G R dx dy (x:Int) (y:Int)) (G (x:Int) (y:Int)) with
   | .inl (bit,s') => .inl (upd G (x:Int) (y:Int) bit,s')
   | .inr e => .inr e:=by
 have e1:(y*W+x) % W=x:=by rw [gS,Nat.mul_add_mod,jC hx]
 have e2:(y*W+x) / W=y:=by rw [gS,Nat.mul_add_div (by omega),lf hx,gr]
 rw [runN,h]
 simp only [e1,e2]
def nh (N:Nat) (S:σ->List Ent->Prop) (Ok:Nat->σ->Prop) (step:σ->Nat->Bool->(Bool × σ) ⊕ (Int × σ)) (fv:Value):Prop :=
 ∀ {h0 h:Heap} {FF:List Nat} {s:σ} {n:Nat} {bit:Bool} {K:VK} {Kp:PK},∀ {M:List Ent} {k:Nat},Ok k s->k<N->n<8192->S s M->Hp h0 FF h M ->
  (∀ bit' s' M' h',step s n bit = .inl (bit',s')->Ok (k+1) s'->S s' M'->Hp h0 FF h' M'->K (.int .i64 (bit'.toNat:Nat)) h') ->
  (∀ e s' M' h',step s n bit = .inr (e,s')->Ok (k+1) s'->S s' M'->Hp h0 FF h' M'->Kp [{ v := .iface jx (.agg #[.int .i64 e]),recovered:=false }] h') ->
  oy (kW Go.Proofs.Tryz.prog) Kp fv [.int .i64 (n:Nat),.int .i64 (bit.toNat:Nat)] h K
theorem FC {t:TypeId} {x:Value} {older:List PanicEntry} {KN:FrameMode->Prop} {KI:TypeId->Value->FrameMode->Prop} (h:KI t x (.panicking ({ v := .iface t x,recovered:=true }::older))):Jq (.panicking ({ v := .iface t x,recovered:=false }::older)) KN KI:=h
theorem ML {h0 h:Heap} {FF:List Nat} {L:List Ent} {r:Nat} {K:VK} {Kp:PK} {e x:Int} (H:Hp h0 FF h L) (k:Nat) (hr:L[k]? = some ⟨r,true,gR,[.int .i64 x]⟩)
  (hk:∀ h' r' cs,Hp h0 FF h' (L.set k ⟨r,true,gR,[.int .i64 e]⟩++[⟨r',true,jx,cs⟩])->K (.int .i64 e) h') :
  j5 (kQ Go.Proofs.Tryz.prog) (fun h=>ldI h ⟨r,0,none⟩ .i64 fun v=>K (.int .i64 v) h) Kp [{ target := .fn (.func iR) #[.pointer (some ⟨r,0,none⟩)],args:=#[] }] (.panicking [{ v := .iface jx (.agg #[.int .i64 e]),recovered:=false }]) h:=by
 have hkl:k<L.length:=(List.getElem?_eq_some_iff.1 hr).1
 show kQ Go.Proofs.Tryz.prog iR #[.pointer (some ⟨r,0,none⟩)] _ h _ _
 refine ue (cap0:=⟨r,0,none⟩) ?_
 unfold sP
 refine FC ?_
 refine gN (by decide) ?_
 refine ⟨e,rfl,?_⟩
 refine fV H fun r' h H=>?_
 have hl:(L++[⟨r',true,jx,[.int .i64 0]⟩])[L.length]? = some ⟨r',true,jx,[.int .i64 0]⟩:=gW
 rw [gC,fN]
 refine gq H L.length hl (fB rfl) rfl fun h hsz H=>?_
 rw [jl _ _ (gg _),iH] at H
 have H:Hp h0 FF h (L++[⟨r',true,jx,[.int .i64 e]⟩]):=H
 refine fz (H.cell L.length gW (i:=0) rfl) ?_
 have hr2:(L++[⟨r',true,jx,[.int .i64 e]⟩])[k]? = some ⟨r,true,gR,[.int .i64 x]⟩:=by rw [gk hkl]; exact hr
 refine gq H k hr2 (fB rfl) rfl fun h hsz H=>?_
 rw [mc _ _ hkl] at H
 have H:Hp h0 FF h (L.set k ⟨r,true,gR,[.int .i64 e]⟩++[⟨r',true,jx,[.int .i64 e]⟩]):=H
 show ldI h ⟨r,0,none⟩ .i64 _
 refine fz (H.cell k (by rw [gk (by rw [gB]; exact hkl),iD hkl]) (i:=0) rfl) ?_
 exact hk _ _ _ H
end
def Gx (W X:Nat) (ws:List Nat):Prop:=∀ y,y<X->∀ x,W<=x->x<64*wds W->pix ws (wds W) x y=false
theorem O6 {W X a b:Nat} {bit:Bool} {ws R:List Nat} (ha:a<W) (hb:b<X) (h:∀ y,y<X->∀ x,x<64*wds W->pix R (wds W) x y=if y=b/\x=a then bit else pix ws (wds W) x y):jR R W X=upd (jR ws W X) (a:Int) (b:Int) bit:=by
 funext x y
 show (decide (0<=x/\0<=y/\x<(W:Int)/\y<(X:Int)) && pix R (wds W) x.toNat y.toNat)=if x=(a:Int)/\y=(b:Int) then bit else (decide (0<=x/\0<=y/\x<(W:Int)/\y<(X:Int)) && pix ws (wds W) x.toNat y.toNat)
 by_cases h1:0<=x/\0<=y/\x<W/\y<X
 ·rw [decide_eq_true h1,jm,jm,h _ (by omega) _ (by unfold wds; omega)]
  by_cases h2:x=a/\y=b
  ·rw [if_pos (by omega),if_pos h2]
  ·rw [if_neg (by omega),if_neg h2]
 ·rw [decide_eq_false h1,nv,nv,if_neg (by omega)]
theorem Gx.set {W X a b:Nat} {bit:Bool} {ws R:List Nat} (hz:Gx W X ws) (ha:a<W) (h:∀ y,y<X->∀ x,x<64*wds W->pix R (wds W) x y=if y=b/\x=a then bit else pix ws (wds W) x y):Gx W X R:=fun y hy x h1 h2=>by
 rw [h y hy x h2,if_neg (by omega)]
 exact hz y hy x h1 h2
theorem Dq (R:Int->Int->Bool) (dx dy x y:Int):∀ d,(m8 R dx dy x y d).length=3*d
 | 0=>rfl
 | d+1=>by rw [m8,fA,Dq R dx dy x y d]; rfl
theorem Ql (B R:Int->Int->Bool) (dx dy x y:Int) (d:Nat) (hd:d<=3):mz 0 (BI B x y++m8 R dx dy x y d)<8192:=by
 have:=Ac (BI B x y++m8 R dx dy x y d) 0 0 (by decide)
 rw [fA,Dq] at this
 exact iK this (im (n:=2) (by decide) (show 0+(4+3*d)<=13 by omega))
theorem MR (B R:Int->Int->Bool) (dx dy x y:Int) (d:Nat):mz 0 (BI B x y++m8 R dx dy x y (d+1)) =
  mz 0 (BI B x y++m8 R dx dy x y d)*8+(R (x-1-dx) (y+((d:Int)-1)-dy)).toNat*4+(R (x-dx) (y+((d:Int)-1)-dy)).toNat*2+(R (x+1-dx) (y+((d:Int)-1)-dy)).toNat:=by
 rw [m8,<- fC,D0 _ (Fx _ _ _ _)]
 simp only [Fx,mz]
 omega
def MM (r9 r7 r5 r3 r1 p q p2 q2 W X N cc W2 X2 N2 cc2:Nat) (dx dy:Int) (rest rest2:List Value) (ws2 ws:List Nat):List Ent :=
 [⟨r9,true,gR,[.int .i64 0]⟩,⟨r7,true,gQ,[.int .i64 dy]⟩,⟨r5,true,gQ,[.int .i64 dx]⟩,⟨r3,true,mB,[.pointer (at0 p2)]⟩,⟨r1,true,mB,[.pointer (at0 p)]⟩,
  ph p q W X N cc,⟨q,true,gj,il ws++rest⟩,ph p2 q2 W2 X2 N2 cc2,⟨q2,true,gj,il ws2++rest2⟩]
set_option maxHeartbeats 2000000 in
theorem N7 {σ:Type} {S:σ->List Ent->Prop} {Ok:Nat->σ->Prop} {step:σ->Nat->Bool->(Bool × σ) ⊕ (Int × σ)} {fv:Value} (hSw:∀ s M,S s M->M.all Ent.w=true)     {h0 h:Heap} {FF:List Nat} {p q p2 q2 W X N cc W2 X2 N2 cc2:Nat} {rest rest2:List Value} {ws0 ws2:List Nat} {s0:σ} {M0:List Ent} (hdec:nh (X*W) S Ok step fv) (hM0:S s0 M0) (H:Hp h0 FF h ([ph p q W X N cc,⟨q,true,gj,il ws0++rest⟩,ph p2 q2 W2 X2 N2 cc2,⟨q2,true,gj,il ws2++rest2⟩]++M0))
  (hN:ws0.length=N) (hN2:ws2.length=N2) (hs:jX (W:Int) (X:Int)) (hl:N=X*wds W) (hw:W64 ws0) (hz:Gx W X ws0) (hs2:jX (W2:Int) (X2:Int)) (hl2:N2=X2*wds W2) (hw2:W64 ws2)
  {dx dy:Int} (hdx:-1048576<=dx/\dx<=1048576) (hdy:-1048576<=dy/\dy<=1048576) (hok0:Ok 0 s0) {K:VK} {Kp:PK}
  (hgood:∀ ws s M h' T,S s M->runN W (jR ws2 W2 X2) dx dy step (X*W) (jR ws0 W X,s0) = .inl (jR ws W X,s)->ws.length=N->W64 ws->Gx W X ws->Ok (X*W) s ->
   Hp h0 FF h' (T++([ph p q W X N cc,⟨q,true,gj,il ws++rest⟩,ph p2 q2 W2 X2 N2 cc2,⟨q2,true,gj,il ws2++rest2⟩]++M))->K (.int .i64 0) h')
  (hbad:∀ e ws s M h' T,S s M->runN W (jR ws2 W2 X2) dx dy step (X*W) (jR ws0 W X,s0) = .inr (e,s)->ws.length=N->(∃ k,k<=X*W/\Ok k s) ->
   Hp h0 FF h' (T++([ph p q W X N cc,⟨q,true,gj,il ws++rest⟩,ph p2 q2 W2 X2 N2 cc2,⟨q2,true,gj,il ws2++rest2⟩]++M))->K (.int .i64 e) h') :
  CP ux #[.pointer (at0 p),.pointer (at0 p2),.int .i64 dx,.int .i64 dy,fv] h K Kp:=by
 refine EG ?_
 unfold BD
 obtain ⟨W',X',e1,e2,hW1,hW2,hX1,hX2,hWX⟩:=jf hs
 obtain rfl:W=W':=by omega
 obtain rfl:X=X':=by omega
 clear e1 e2
 refine fV H fun r1 h H=>?_
 have H:=H.rot
 refine fV H fun r3 h H=>?_
 have H:=H.rot
 refine fV H fun r5 h H=>?_
 have H:=H.rot
 refine fV H fun r7 h H=>?_
 have H:=H.rot
 refine fV H fun r9 h H=>?_
 have H:=H.rot
 have H:Hp h0 FF h (MM r9 r7 r5 r3 r1 p q p2 q2 W X N cc W2 X2 N2 cc2 dx dy rest rest2 ws2 ws0++M0):=H
 refine ja (H.cell 4 rfl (i:=0) rfl) ?_
 refine OE (ws:=ws0) (c:=cc) H 5 (by rw [hN]; rfl) ?_
 refine ⟨_,_,rfl,?_⟩
 generalize hA:MM r9 r7 r5 r3 r1 p q p2 q2 W X N cc W2 X2 N2 cc2 dx dy rest rest2 ws2=A at H
 have hget:∀ {h:Heap} {ws:List Nat} {M T:List Ent},Hp h0 FF h (T++(A ws++M))->Hp h0 FF h (T++(MM r9 r7 r5 r3 r1 p q p2 q2 W X N cc W2 X2 N2 cc2 dx dy rest rest2 ws2 ws++M)):=fun H=>by rw [hA]; exact H
 generalize hG0:jR ws0 W X=G0 at hgood hbad
 generalize hRR:jR ws2 W2 X2=RR at hgood hbad
 let Inv:Nat->List Nat->σ->Prop:=fun k ws s=>runN W RR dx dy step k (G0,s0) = .inl (jR ws W X,s)/\ws.length=N/\W64 ws/\Gx W X ws/\Ok k s
 have hInv:∀ k ws s,Inv k ws s↔runN W RR dx dy step k (G0,s0) = .inl (jR ws W X,s)/\ws.length=N/\W64 ws/\Gx W X ws/\Ok k s:=fun _ _ _=>Iff.rfl
 refine ⟨fun n vs h'=>∃ (y:Nat) (ws:List Nat) (s:σ) (M:List Ent),y+n=X/\vs=[.int .i64 (y:Int)]/\Inv (y*W) ws s/\S s M/\Hp h0 FF h' (A ws++M),⟨X,0,ws0,s0,M0,by omega,rfl,(hInv _ _ _).2 ⟨by rw [kK,hG0]; rfl,hN,hw,hz,by rw [kK]; exact hok0⟩,hM0,H⟩,?_⟩
 clear H
 rintro n h u xx ⟨y,ws,s,M,hyn,hxx,hinv,hM,H⟩
 injection hxx with hxx
 injection hxx with _ hxx
 subst hxx
 refine fL (fun h1=>?_) fun h1=>?_
 ·have h1:y<X:=by omega
  refine fV H fun r22 h H=>?_
  have H:=H.rot
  refine gq H 0 rfl (fB rfl) rfl fun h hsz H=>?_
  have H:Hp h0 FF h ([⟨r22,true,gQ,[.int .i64 (y:Nat)]⟩]++(A ws++M)):=H
  refine ⟨fun n vs h'=>∃ (x:Nat) (ws:List Nat) (s:σ) (M:List Ent),x+n=W/\vs=[.int .i64 (x:Int)]/\Inv (y*W+x) ws s/\S s M/\Hp h0 FF h' ([⟨r22,true,gQ,[.int .i64 (y:Nat)]⟩]++(A ws++M)),⟨W,0,ws,s,M,by omega,rfl,hinv,hM,H⟩,?_⟩
  clear H hinv hM
  rintro m h u xx ⟨x,ws,s,M,hxn,hxx,hinv,hM,H⟩
  injection hxx with hxx
  injection hxx with _ hxx
  subst hxx
  refine fL (fun h2=>?_) fun h2=>?_
  ·have h2:x<W:=by omega
   obtain ⟨hrun,hlw,hww,hzz,hoks⟩:=(hInv _ _ _).1 hinv
   have hlX:ws.length=X*wds W:=by rw [hlw,hl]
   have hl2':ws2.length=X2*wds W2:=by rw [hN2,hl2]
   have hq6:∀ {h:Heap},Hp h0 FF h ([⟨r22,true,gQ,[.int .i64 (y:Nat)]⟩]++(A ws++M))->∀ (xq down:Int) (K:VK) (Kp:PK),-1<=down/\down<=1->K (.int .i64 ((jR ws W X xq (y+down)).toNat:Nat)) h ->
     CP lD #[.int .i64 xq,.int .i64 down,.pointer (some ⟨r1,0,none⟩),.pointer (some ⟨r22,0,none⟩)] h K Kp:=fun H xq down K Kp hd hk =>
    RG (c:=cc) (hget H) 5 0 6 7 rfl rfl (by rw [hlw]; rfl) rfl hs hlX hww (by omega) hd hk
   have ho6:∀ {h:Heap},Hp h0 FF h ([⟨r22,true,gQ,[.int .i64 (y:Nat)]⟩]++(A ws++M))->∀ (xq down:Int) (K:VK) (Kp:PK),-1<=down/\down<=1->-2<=xq/\xq<1048580->K (.int .i64 ((RR (xq-dx) (y+down-dy)).toNat:Nat)) h ->
     CP mK #[.int .i64 xq,.int .i64 down,.pointer (some ⟨r3,0,none⟩),.pointer (some ⟨r5,0,none⟩),.pointer (some ⟨r22,0,none⟩),.pointer (some ⟨r7,0,none⟩)] h K Kp:=fun H xq down K Kp hd hxq hk =>
    Ow (c:=cc2) (ws:=ws2) (hget H) 4 3 0 2 8 9 rfl rfl rfl rfl (by rw [hN2]; rfl) rfl hs2 hl2' hw2 (by omega) hd hxq hdx hdy (by rw [hRR]; exact hk)
   generalize hGG:jR ws W X=GG at hq6 hrun
   refine fw (((x:Int)-1)) (by exact i64_in _ (by omega) (by omega)) ?_
   refine hq6 H _ _ _ _ (by omega) ?_
   refine ⟨_,rfl,?_⟩
   have t1:=toNat_le (GG ((x:Int)-1) ((y:Int) + -1))
   have t2:=toNat_le (GG (x:Int) ((y:Int) + -1))
   have t3:=toNat_le (GG ((x:Int)+1) ((y:Int) + -1))
   have t4:=toNat_le (GG ((x:Int)-1) ((y:Int)+0))
   refine fw _ (Su (by omega)) ?_
   refine hq6 H _ _ _ _ (by omega) ?_
   refine ⟨_,rfl,?_⟩
   refine fw _ (Sv (by omega)) ?_
   refine fw _ (orA (i:=3) (by decide) (by omega) (by omega) (by omega)) ?_
   refine fw (((x:Int)+1)) (by exact i64_in _ (by omega) (by omega)) ?_
   refine hq6 H _ _ _ _ (by omega) ?_
   refine ⟨_,rfl,?_⟩
   refine fw _ (Sy (by omega)) ?_
   refine fw _ (orA (i:=2) (by decide) (by omega) (by omega) (by omega)) ?_
   refine fw (((x:Int)-1)) (by exact i64_in _ (by omega) (by omega)) ?_
   refine hq6 H _ _ _ _ (by omega) ?_
   refine ⟨_,rfl,?_⟩
   refine fw _ (orA (i:=1) (by decide) (by omega) (by omega) (by omega)) ?_
   have hnd:=fun d hd=>Ql GG RR dx dy x y d hd
   refine ⟨fun n vs h'=>∃ d:Nat,d+n=3/\vs=[.int .i64 ((mz 0 (BI GG x y++m8 RR dx dy x y d):Nat):Int),.int .i64 ((d:Int)-1)]/\h'=h,⟨3,0,rfl,?_,rfl⟩,?_⟩
   ·have:mz 0 (BI GG x y++m8 RR dx dy x y 0)=(GG ((x:Int)-1) ((y:Int) + -1)).toNat*8+(GG (x:Int) ((y:Int) + -1)).toNat*4+(GG ((x:Int)+1) ((y:Int) + -1)).toNat*2+(GG ((x:Int)-1) ((y:Int)+0)).toNat:=by
     simp only [m8,BI,fT,mz]
     omega
    rw [this]
    rfl
   rintro k h' u n57 n58 ⟨d,hdk,hvs,rfl⟩
   injection hvs with hv1 hv2
   injection hv1 with _ hv1
   injection hv2 with hv2
   injection hv2 with _ hv2
   subst hv1 hv2
   refine fL (fun h3=>?_) fun h3=>?_
   ·have hb:=hnd d (by omega)
    have q1:=toNat_le (RR ((x:Int)-1-dx) ((y:Int)+((d:Int)-1)-dy))
    have q2:=toNat_le (RR ((x:Int)-dx) ((y:Int)+((d:Int)-1)-dy))
    have q3:=toNat_le (RR ((x:Int)+1-dx) ((y:Int)+((d:Int)-1)-dy))
    have hsucc:=MR GG RR dx dy x y d
    generalize mz 0 (BI GG x y++m8 RR dx dy x y d)=n at hb hsucc ⊢
    refine fw _ (Su (by omega)) ?_
    refine fw (((x:Int)-1)) (by exact i64_in _ (by omega) (by omega)) ?_
    refine ho6 H _ _ _ _ (by omega) (by omega) ?_
    refine ⟨_,rfl,?_⟩
    refine fw _ (Sv (by omega)) ?_
    refine fw _ (orA (i:=3) (by decide) (by omega) (by omega) (by omega)) ?_
    refine ho6 H _ _ _ _ (by omega) (by omega) ?_
    refine ⟨_,rfl,?_⟩
    refine fw _ (Sy (by omega)) ?_
    refine fw _ (orA (i:=2) (by decide) (by omega) (by omega) (by omega)) ?_
    refine fw (((x:Int)+1)) (by exact i64_in _ (by omega) (by omega)) ?_
    refine ho6 H _ _ _ _ (by omega) (by omega) ?_
    refine ⟨_,rfl,?_⟩
    refine fw _ (orA (i:=1) (by decide) (by omega) (by omega) (by omega)) ?_
    refine fw ((((d+1:Nat):Int)-1)) (by exact fO _ _ (by omega) (by omega) (by omega)) ?_
    exact ⟨k-1,by omega,d+1,by omega,by rw [hsucc],by first | rfl | trivial⟩
   ·obtain rfl:d=3:=by omega
    have hctx:mz 0 (BI GG x y++m8 RR dx dy x y 3)=CM GG RR dx dy x y:=rfl
    rw [hctx]
    refine ⟨fun b=>b=r1\/b=r22,?_⟩
    refine ja ((hget H).cell 5 rfl (i:=0) rfl) ?_
    refine ⟨.inl rfl,?_⟩
    refine fz (H.cell 0 rfl (i:=0) rfl) ?_
    refine ⟨.inr rfl,?_⟩
    refine hq6 H _ _ _ _ (by omega) ?_
    refine ⟨_,rfl,lZ.refl _ _,?_⟩
    rw [Int.add_zero]
    have H2:Hp h0 FF h' (([⟨r22,true,gQ,[.int .i64 (y:Nat)]⟩]++A ws)++M):=H.as (fC _ _ _).symm
    have hnx:=Ha (R:=RR) (dx:=dx) (dy:=dy) (step:=step) h2 hrun
    have hlt:y*W+x+1<=X*W:=by
     have:(y+1)*W<=X*W:=gD _ h1
     rw [gZ,kn] at this
     omega
    refine hdec hoks hlt (Mo _ _ _ _ _ _) hM H2.mv (fun bit' s' M' h3 hst hok' hM' H'=>?_) fun e s' M' h3 hst hok' hM' H'=>?_
    ·rw [hst] at hnx
     simp only at hnx
     have keep:lZ (fun b=>b=r1\/b=r22) h' h3:=⟨H'.fr.1,fun b hb hR=>H'.fr.2 b hb fun hm=>by
      obtain ⟨e,he,rfl⟩:=List.mem_map.1 hm
      have hp:=(List.pairwise_append.1 H2.pw).2.2
      rcases hR with h4 | h4
      ·exact hp ⟨r1,true,mB,[.pointer (at0 p)]⟩ (by rw [<- hA]; simp [MM]) e he h4.symm
      ·exact hp ⟨r22,true,gQ,[.int .i64 (y:Nat)]⟩ (by simp) e he h4.symm⟩
     have H3:=(H2.pg (hSw s M hM) H' (hSw s' M' hM')).as (fC _ _ _)
     refine ⟨_,rfl,keep,?_⟩
     refine Qw (ws:=ws) (c:=cc) (rest:=rest) (hget H3) 6 7 (by rw [hlw]; rfl) rfl hs hlX hww h2 h1 fun R h4 k1 k2 k3 H4=>?_
     refine ⟨_,rfl,?_⟩
     refine fw (((x+1:Nat):Int)) (by exact fO _ _ (by omega) (by omega) (by omega)) ?_
     have H5:Hp h0 FF h4 ([⟨r22,true,gQ,[.int .i64 (y:Nat)]⟩]++(MM r9 r7 r5 r3 r1 p q p2 q2 W X N cc W2 X2 N2 cc2 dx dy rest rest2 ws2 R++M')):=H4
     rw [hA] at H5
     refine ⟨m-1,by omega,x+1,R,s',M',by omega,rfl,(hInv _ _ _).2 ⟨?_,by omega,k2,hzz.set h2 k3,hok'⟩,hM',H5⟩
     rw [O6 h2 h1 k3,hGG]
     exact hnx
    ·rw [hst] at hnx
     simp only at hnx
     have H3:=hget ((H2.pg (hSw s M hM) H' (hSw s' M' hM')).as (fC _ _ _))
     refine ML H3 1 rfl fun h4 r' cs H4=>?_
     refine hbad e ws s' M' h4 [⟨r22,true,gQ,[.int .i64 (y:Nat)]⟩,⟨r9,true,gR,[.int .i64 e]⟩,⟨r7,true,gQ,[.int .i64 dy]⟩,⟨r5,true,gQ,[.int .i64 dx]⟩,⟨r3,true,mB,[.pointer (at0 p2)]⟩,⟨r1,true,mB,[.pointer (at0 p)]⟩] hM' (N9 hnx _ hlt) hlw ⟨_,hlt,hok'⟩ ?_
     have H5:=Hp.pre (Y:=[⟨r',true,jx,cs⟩]) H4
     exact H5
  ·obtain rfl:W=x:=by omega
   refine fw (((y+1:Nat):Int)) (by exact fO _ _ (by omega) (by omega) (by omega)) ?_
   exact ⟨n-1,by omega,y+1,ws,s,M,by omega,rfl,by rw [gZ,kn]; exact hinv,hM,Hp.suf (X:=[_]) H⟩
 ·obtain rfl:X=y:=by omega
  obtain ⟨hrun,hlw,hww,hzz,hoks⟩:=(hInv _ _ _).1 hinv
  have H:=hget (T:=[]) H
  refine gq H 0 rfl (fB rfl) rfl fun h hsz H=>?_
  show kQ Go.Proofs.Tryz.prog iR #[.pointer (some ⟨r9,0,none⟩)] .returning h _ _
  refine Jr ?_
  show ldI h ⟨r9,0,none⟩ .i64 _
  refine fz (H.cell 0 rfl (i:=0) rfl) ?_
  exact hgood ws s M h ((MM r9 r7 r5 r3 r1 p q p2 q2 W X N cc W2 X2 N2 cc2 dx dy rest rest2 ws2 ws).take 5) hM hrun hlw hww hzz hoks H
end Go.Bm
namespace Go.Ar
def SD:List Nat:=[0x5601,0x3401,0x1801,0x0ac1,0x0521,0x0221,0x5601,0x5401,0x4801,0x3801,0x3001,0x2401,0x1c01,0x1601,0x5601,0x5401,0x5101,0x4801,0x3801,0x3401,0x3001,0x2801,0x2401,0x2201,0x1c01,0x1801,0x1601,0x1401,0x1201,0x1101,0x0ac1,0x09c1,0x08a1,0x0521,0x0441,0x02a1,0x0221,0x0141,0x0111,0x0085,0x0049,0x0025,0x0015,0x0009,0x0005,0x0001,0x5601]
def SJ:List Nat:=[1,2,3,4,5,38,7,8,9,10,11,12,13,29,15,16,17,18,19,20,21,22,23,24,25,26,27,28,29,30,31,32,33,34,35,36,37,38,39,40,41,42,43,44,45,45,46]
def SM:List Nat:=[1,6,9,12,29,33,6,14,14,14,17,18,20,21,14,14,15,16,17,18,19,19,20,21,22,23,24,25,26,27,28,29,30,31,32,33,34,35,36,37,38,39,40,41,42,43,46]
def Tf:List Nat:=[1,0,0,0,0,0,1,0,0,0,0,0,0,0,1,0,0,0,0,0,0,0,0,0,0,0,0,0,0,0,0,0,0,0,0,0,0,0,0,0,0,0,0,0,0,0,0]
def qOf (r:Nat):Nat:=SD.getD r 0
def mOf (r:Nat):Nat:=SJ.getD r 0
def lOf (r:Nat):Nat:=SM.getD r 0
def cOf (r:Nat):Nat:=Tf.getD r 0
theorem oW {p:Nat->Prop} (h:∀ r∈List.range 47,p r) {r:Nat} (hr:r<47):p r:=h r (List.mem_range.2 hr)
theorem vH {r:Nat} (hr:r<47):1<=qOf r:=oW (p:=fun r=>1<=qOf r) (by decide) hr
theorem zs {r:Nat} (hr:r<47):qOf r<=0x5601:=oW (p:=fun r=>qOf r<=0x5601) (by decide) hr
theorem OK {r:Nat} (hr:r<47):mOf r<47:=oW (p:=fun r=>mOf r<47) (by decide) hr
theorem OQ {r:Nat} (hr:r<47):lOf r<47:=oW (p:=fun r=>lOf r<47) (by decide) hr
theorem Pw {r:Nat} (hr:r<47):cOf r<=1:=oW (p:=fun r=>cOf r<=1) (by decide) hr
def upM (x:Nat):Nat:=2*mOf (x / 2)+x % 2
def upL (x:Nat):Nat:=2*lOf (x / 2)+(x % 2+cOf (x / 2)) % 2
theorem zd {x:Nat} (hx:x<94):upM x<94:=by have:=OK (r:=x / 2) (by omega); unfold upM; omega
theorem ze {x:Nat} (hx:x<94):upL x<94:=by have:=OQ (r:=x / 2) (by omega); unfold upL; omega
structure Cod where
 a:Nat
 c:Nat
 t:Nat
 n:Nat
 st:List Nat
 bs:List Nat
 l:Nat
 done:Bool
def gE (n:Nat):Cod:={ a:=0x8000,c:=0,t:=12,n:=0,st:=List.replicate n 0,bs:=[],l:=0,done:=false }
def iy (s:Cod) (l c:Nat):Cod :=
 if l=255 then { s with bs:=s.bs++[l],l:=c / 1048576 % 256,c:=c % 1048576,t:=7 }
 else { s with bs:=s.bs++[l],l:=c / 524288 % 256,c:=c % 524288,t:=8 }
def ni (s:Cod):Cod:=if s.l≠255/\134217728<=s.c then iy s (s.l+1) (s.c % 134217728) else iy s s.l s.c
def jK (s:Cod):Cod :=
 let s1:Cod:={ s with a:=2*s.a,c:=2*s.c,t:=s.t-1 }
 if s1.t=0 then ni s1 else s1
def iU:Nat->Cod->Cod
 | 0,s=>s
 | n+1,s=>let s1:=jK s; if 0x8000<=s1.a then s1 else iU n s1
def oo (s:Cod) (k bit:Nat):Cod :=
 let x:=s.st.getD k 0
 let q:=qOf (x / 2)
 let a:=s.a-q
 if bit=x % 2 then
  if 0x8000<=a then { s with a:=a,c:=s.c+q,n:=s.n+1 }
  else if a<q then iU 17 { s with a:=q,n:=s.n+1,st:=s.st.set k (upM x) }
  else iU 17 { s with a:=a,c:=s.c+q,n:=s.n+1,st:=s.st.set k (upM x) }
 else
  if a<q then iU 17 { s with a:=a,c:=s.c+q,n:=s.n+1,st:=s.st.set k (upL x) }
  else iU 17 { s with a:=q,n:=s.n+1,st:=s.st.set k (upL x) }
def jw (s:Cod):Nat:=let c:=s.c / 65536*65536+65535; if s.c+s.a<=c then c-0x8000 else c
def lu (s:Cod):Cod:=ni { s with c:=s.c*2 ^ s.t }
def iE (s:Cod):Cod:=lu (lu { s with c:=jw s,done:=true })
def iX (s:Cod):List Nat:=let b:=(s.bs++[s.l]).drop 1; if s.l=255 then b.dropLast else b
structure Mid (s:Cod):Prop where
 t1:1<=s.t
 t12:s.t<=12
 ca:s.c+s.a<2 ^ (28-s.t)
 l:s.l<256
 bs:∀ x∈s.bs,x<256
 st:∀ x∈s.st,x<94
structure Wf (s:Cod):Prop extends Mid s where
 len:s.bs.length<=17*s.n
 n:s.n<=16777216
 lo:0x8000<=s.a
 hi:s.a<0x10000
theorem M7 {t:Nat} (h1:1<=t) (h2:t<=12):2 ^ (28-(t-1))=2*2 ^ (28-t):=by
 have:28-(t-1)=(28-t)+1:=by omega
 rw [this,jA]; omega
theorem Ds {t:Nat} (h1:1<=t):2 ^ (28-t)<=134217728:=by
 have:(2:Nat) ^ (28-t)<=2 ^ 27:=im (by omega) (by omega)
 simpa using this
theorem CB (s:Cod) (l c:Nat):(iy s l c).a=s.a/\(iy s l c).n=s.n/\(iy s l c).st=s.st/\(iy s l c).done=s.done/\(iy s l c).bs=s.bs++[l]:=by
 unfold iy; split <;> exact ⟨rfl,rfl,rfl,rfl,rfl⟩
theorem wW (s:Cod):(ni s).a=s.a/\(ni s).n=s.n/\(ni s).st=s.st/\(ni s).done=s.done/\(ni s).bs.length=s.bs.length+1:=by
 unfold ni
 split
 ·obtain ⟨h1,h2,h3,h4,h5⟩:=CB s (s.l+1) (s.c % 134217728)
  exact ⟨h1,h2,h3,h4,by rw [h5]; simp⟩
 ·obtain ⟨h1,h2,h3,h4,h5⟩:=CB s s.l s.c
  exact ⟨h1,h2,h3,h4,by rw [h5]; simp⟩
theorem Eh {s:Cod} {l c:Nat} (ha:s.a<0x10000) (hl:l<256) (hbs:∀ x∈s.bs,x<256) (hst:∀ x∈s.st,x<94):Mid (iy s l c):=by
 have hb:∀ x∈s.bs++[l],x<256:=fun x hx=>by
  rcases List.mem_append.1 hx with h | h
  ·exact hbs x h
  ·rw [List.mem_singleton.1 h]; exact hl
 unfold iy
 split
 ·refine ⟨by simp,by simp,?_,iP _ (by omega),hb,hst⟩
  show c % 1048576+s.a<2 ^ 21
  have:=iP c (show 1048576 > 0 by omega)
  omega
 ·refine ⟨by simp,by simp,?_,iP _ (by omega),hb,hst⟩
  show c % 524288+s.a<2 ^ 20
  have:=iP c (show 524288 > 0 by omega)
  omega
theorem Ov {s:Cod} (ha:s.a<0x10000) (hl:s.l<256) (hbs:∀ x∈s.bs,x<256) (hst:∀ x∈s.st,x<94):Mid (ni s):=by
 unfold ni
 split
 ·rename_i h; exact Eh ha (by omega) hbs hst
 ·exact Eh ha hl hbs hst
theorem p4 {s:Cod} (h:Mid s) (ha:s.a<0x8000):Mid (jK s)/\(jK s).a=2*s.a/\(jK s).n=s.n/\(jK s).st=s.st/\(jK s).done=s.done/\(jK s).bs.length<=s.bs.length+1:=by
 have h1:=h.t1
 have h2:=h.t12
 unfold jK
 simp only []
 split
 ·rename_i ht
  obtain ⟨e1,e2,e3,e4,e5⟩:=wW { s with a:=2*s.a,c:=2*s.c,t:=s.t-1 }
  exact ⟨Ov (by show 2*s.a<0x10000; omega) h.l h.bs h.st,e1,e2,e3,e4,by rw [e5]; exact gg _⟩
 ·rename_i ht
  have ht:s.t-1≠0:=ht
  refine ⟨⟨by show 1<=s.t-1; omega,by show s.t-1<=12; omega,?_,h.l,h.bs,h.st⟩,rfl,rfl,rfl,rfl,Nat.le_succ _⟩
  show 2*s.c+2*s.a<2 ^ (28-(s.t-1))
  rw [M7 h1 h2]
  have:=h.ca
  omega
theorem FA:∀ (k:Nat) {s:Cod},Mid s->s.a<0x8000->0x8000<=s.a*2 ^ k ->
  Mid (iU k s)/\0x8000<=(iU k s).a/\(iU k s).a<0x10000/\(iU k s).n=s.n/\(iU k s).st=s.st/\(iU k s).done=s.done/\(iU k s).bs.length<=s.bs.length+k
 | 0,s,h,ha,hk=>by simp at hk; omega
 | k+1,s,h,ha,hk=>by
  obtain ⟨h1,h2,h3,h4,h5,h6⟩:=p4 h ha
  unfold iU
  simp only []
  split
  ·rename_i hge
   exact ⟨h1,hge,by omega,h3,h4,h5,by omega⟩
  ·rename_i hlt
   have hk':0x8000<=(jK s).a*2 ^ k:=by
    rw [h2]
    rw [jA] at hk
    have:s.a*(2 ^ k*2)=2*s.a*2 ^ k:=by rw [gS (2 ^ k) 2,<- iG,gS s.a 2]
    omega
   obtain ⟨g1,g2,g3,g4,g5,g6,g7⟩:=FA k h1 (by omega) hk'
   exact ⟨g1,g2,g3,g4.trans h3,g5.trans h4,g6.trans h5,by omega⟩
theorem CF {st:List Nat} (h:∀ x∈st,x<94) (k:Nat):st.getD k 0<94:=by
 rw [fY]
 cases hk:st[k]? with
 | none=>simp
 | some x=>exact h x (fS hk)
theorem pa {st:List Nat} (h:∀ x∈st,x<94) {k v:Nat} (hv:v<94):∀ x∈st.set k v,x<94:=fun x hx=>by
 rcases List.mem_or_eq_of_mem_set hx with h1 | h1
 ·exact h x h1
 ·rw [h1]; exact hv
theorem Cv {s:Cod} (h:Mid s) (ha:1<=s.a) (ha':s.a<0x8000) (hl:s.bs.length<=17*(s.n-1)) (hn1:1<=s.n) (hn:s.n<=16777216):Wf (iU 17 s):=by
 obtain ⟨g1,g2,g3,g4,g5,g6,g7⟩:=FA 17 h ha' (by have:(2:Nat) ^ 17=131072:=rfl; omega)
 exact ⟨g1,by omega,by omega,g2,g3⟩
theorem LU {s:Cod} (h:Wf s) (k bit:Nat) (hn:s.n<16777216):Wf (oo s k bit):=by
 have hx:=CF h.st k
 have hr:s.st.getD k 0 / 2<47:=by omega
 have hq1:=vH hr
 have hq2:=zs hr
 have hM:=pa h.st (k:=k) (zd hx)
 have hL:=pa h.st (k:=k) (ze hx)
 have h1:=h.lo
 have h2:=h.hi
 have h3:=h.ca
 have h4:=h.len
 unfold oo
 simp only []
 split
 ·split
  ·exact ⟨⟨h.t1,h.t12,by show s.c+qOf _+(s.a-qOf _)<2 ^ (28-s.t); omega,h.l,h.bs,h.st⟩,by show s.bs.length<=17*(s.n+1); omega,by show s.n+1<=_; omega,by assumption,by show s.a-_<_; omega⟩
  ·split
   ·exact Cv ⟨h.t1,h.t12,by show s.c+qOf _<2 ^ (28-s.t); omega,h.l,h.bs,hM⟩ hq1 (by show qOf _<_; omega) (by show s.bs.length<=17*(s.n+1-1); omega) (by show 1<=s.n+1; omega) (by show s.n+1<=_; omega)
   ·exact Cv ⟨h.t1,h.t12,by show s.c+qOf _+(s.a-qOf _)<2 ^ (28-s.t); omega,h.l,h.bs,hM⟩ (by show 1<=s.a-qOf _; omega) (by show s.a-qOf _<_; omega) (by show s.bs.length<=17*(s.n+1-1); omega) (by show 1<=s.n+1; omega) (by show s.n+1<=_; omega)
 ·split
  ·exact Cv ⟨h.t1,h.t12,by show s.c+qOf _+(s.a-qOf _)<2 ^ (28-s.t); omega,h.l,h.bs,hL⟩ (by show 1<=s.a-qOf _; omega) (by show s.a-qOf _<_; omega) (by show s.bs.length<=17*(s.n+1-1); omega) (by show 1<=s.n+1; omega) (by show s.n+1<=_; omega)
  ·exact Cv ⟨h.t1,h.t12,by show s.c+qOf _<2 ^ (28-s.t); omega,h.l,h.bs,hL⟩ hq1 (by show qOf _<_; omega) (by show s.bs.length<=17*(s.n+1-1); omega) (by show 1<=s.n+1; omega) (by show s.n+1<=_; omega)
theorem L1 (n:Nat):Wf (gE n) :=
 ⟨⟨by simp [gE],by simp [gE],by simp [gE],by simp [gE],by simp [gE],fun x hx=>by simp only [gE,Ew] at hx; omega⟩,by simp [gE],by simp [gE],by simp [gE],by simp [gE]⟩
theorem Az:∀ (k:Nat) (s:Cod),(iU k s).st=s.st/\(iU k s).n=s.n/\(iU k s).done=s.done:=by
 have hs:∀ s:Cod,(jK s).st=s.st/\(jK s).n=s.n/\(jK s).done=s.done:=fun s=>by
  unfold jK
  simp only []
  split
  ·obtain ⟨_,e2,e3,e4,_⟩:=wW { s with a:=2*s.a,c:=2*s.c,t:=s.t-1 }
   exact ⟨e3,e2,e4⟩
  ·exact ⟨rfl,rfl,rfl⟩
 intro k
 induction k with
 | zero=>intro s; exact ⟨rfl,rfl,rfl⟩
 | succ k ih =>
  intro s
  obtain ⟨h1,h2,h3⟩:=hs s
  unfold iU
  simp only []
  split
  ·exact ⟨h1,h2,h3⟩
  ·obtain ⟨g1,g2,g3⟩:=ih (jK s)
   exact ⟨g1.trans h1,g2.trans h2,g3.trans h3⟩
theorem Ol (s:Cod) (k bit:Nat):(oo s k bit).n=s.n+1/\(oo s k bit).st.length=s.st.length/\(oo s k bit).done=s.done:=by
 unfold oo
 simp only []
 split
 ·split
  ·exact ⟨rfl,rfl,rfl⟩
  ·split
   ·obtain ⟨h1,h2,h3⟩:=Az 17 { s with a:=qOf (s.st.getD k 0 / 2),n:=s.n+1,st:=s.st.set k (upM (s.st.getD k 0)) }
    exact ⟨h2,by rw [h1]; simp,h3⟩
   ·obtain ⟨h1,h2,h3⟩:=Az 17 { s with a:=s.a-qOf (s.st.getD k 0 / 2),c:=s.c+qOf (s.st.getD k 0 / 2),n:=s.n+1,st:=s.st.set k (upM (s.st.getD k 0)) }
    exact ⟨h2,by rw [h1]; simp,h3⟩
 ·split
  ·obtain ⟨h1,h2,h3⟩:=Az 17 { s with a:=s.a-qOf (s.st.getD k 0 / 2),c:=s.c+qOf (s.st.getD k 0 / 2),n:=s.n+1,st:=s.st.set k (upL (s.st.getD k 0)) }
   exact ⟨h2,by rw [h1]; simp,h3⟩
  ·obtain ⟨h1,h2,h3⟩:=Az 17 { s with a:=qOf (s.st.getD k 0 / 2),n:=s.n+1,st:=s.st.set k (upL (s.st.getD k 0)) }
   exact ⟨h2,by rw [h1]; simp,h3⟩
structure Dec where
 a:Nat
 c:Nat
 t:Nat
 n:Nat
 st:List Nat
 b:List Nat
 i:Nat
def M32:Nat:=4294967296
def jU (s:Dec) (i:Nat):Nat:=s.b.getD i 255
def inD (s:Dec):Dec :=
 if jU s s.i≠255 then { s with i:=s.i+1,c:=(s.c+jU s (s.i+1)*256) % M32,t:=8 }
 else if jU s (s.i+1) > 143 then { s with c:=(s.c+65280) % M32,t:=8 }
 else { s with i:=s.i+1,c:=(s.c+jU s (s.i+1)*512) % M32,t:=7 }
def BJ (b:List Nat) (n:Nat):Dec :=
 let s:Dec:=inD { a:=0x8000,c:=b.getD 0 255*65536,t:=0,n:=0,st:=List.replicate n 0,b:=b,i:=0 }
 { s with c:=s.c*128 % M32,t:=s.t-7 }
def mI (s:Dec):Dec :=
 let s1:=if s.t=0 then inD s else s
 { s1 with a:=2*s1.a,c:=2*s1.c % M32,t:=s1.t-1 }
def jT:Nat->Dec->Dec
 | 0,s=>s
 | n+1,s=>let s1:=mI s; if 0x8000<=s1.a then s1 else jT n s1
def getD (s:Dec) (k:Nat):Dec × Nat :=
 let x:=s.st.getD k 0
 let q:=qOf (x / 2)
 let a:=s.a-q
 if s.c / 65536<q then
  if a<q then (jT 17 { s with a:=q,n:=s.n+1,st:=s.st.set k (upM x) },x % 2)
  else (jT 17 { s with a:=q,n:=s.n+1,st:=s.st.set k (upL x) },1-x % 2)
 else
  let c:=s.c-q*65536
  if 0x8000<=a then ({ s with a:=a,c:=c,n:=s.n+1 },x % 2)
  else if a<q then (jT 17 { s with a:=a,c:=c,n:=s.n+1,st:=s.st.set k (upL x) },1-x % 2)
  else (jT 17 { s with a:=a,c:=c,n:=s.n+1,st:=s.st.set k (upM x) },x % 2)
structure MidD (s:Dec):Prop where
 t8:s.t<=8
 c:s.c<M32
 b:∀ x∈s.b,x<256
 st:∀ x∈s.st,x<94
 i:s.i<=s.b.length
structure WfD (s:Dec):Prop extends MidD s where
 n:s.n<=16777216
 lo:0x8000<=s.a
 hi:s.a<0x10000
theorem tk {s:Dec} (h:∀ x∈s.b,x<256) (i:Nat):jU s i<256:=by
 unfold jU
 rw [fY]
 cases hk:s.b[i]? with
 | none=>simp
 | some x=>exact h x (fS hk)
theorem Kl {s:Dec} {i:Nat} (h:jU s i≠255):i<s.b.length:=by
 unfold jU at h
 rw [fY] at h
 rcases gI i s.b.length with h1 | h1
 ·exact h1
 ·rw [iq h1] at h; simp at h
theorem AF {s:Dec} (h:MidD s):MidD (inD s)/\(inD s).a=s.a/\(inD s).n=s.n/\(inD s).st=s.st/\(inD s).b=s.b/\1<=(inD s).t:=by
 have hm:∀ x,x % M32<M32:=fun x=>iP _ (by decide)
 unfold inD
 split
 ·rename_i h1
  have:=Kl h1
  exact ⟨⟨by simp,hm _,h.b,h.st,by show s.i+1<=s.b.length; omega⟩,rfl,rfl,rfl,rfl,by simp⟩
 ·split
  ·exact ⟨⟨by simp,hm _,h.b,h.st,h.i⟩,rfl,rfl,rfl,rfl,by simp⟩
  ·rename_i h2
   have:s.i+1<s.b.length:=Kl (s:=s) (by omega)
   exact ⟨⟨by simp,hm _,h.b,h.st,by show s.i+1<=s.b.length; omega⟩,rfl,rfl,rfl,rfl,by simp⟩
theorem BA {s:Dec} (h:MidD s):MidD (mI s)/\(mI s).a=2*s.a/\(mI s).n=s.n/\(mI s).st=s.st/\(mI s).b=s.b:=by
 have hm:∀ x,x % M32<M32:=fun x=>iP _ (by decide)
 unfold mI
 simp only []
 split
 ·obtain ⟨h1,h2,h3,h4,h5,h6⟩:=AF h
  exact ⟨⟨by show (inD s).t-1<=8; have:=h1.t8; omega,hm _,by rw [show ({ inD s with a:=2*(inD s).a,c:=2*(inD s).c % M32,t:=(inD s).t-1 }:Dec).b=(inD s).b from rfl]; exact h1.b,h1.st,h1.i⟩,by show 2*(inD s).a=_; rw [h2],h3,h4,h5⟩
 ·exact ⟨⟨by show s.t-1<=8; have:=h.t8; omega,hm _,h.b,h.st,h.i⟩,rfl,rfl,rfl,rfl⟩
theorem FB:∀ (k:Nat) {s:Dec},MidD s->s.a<0x8000->0x8000<=s.a*2 ^ k ->
  MidD (jT k s)/\0x8000<=(jT k s).a/\(jT k s).a<0x10000/\(jT k s).n=s.n/\(jT k s).st=s.st/\(jT k s).b=s.b
 | 0,s,h,ha,hk=>by simp at hk; omega
 | k+1,s,h,ha,hk=>by
  obtain ⟨h1,h2,h3,h4,h5⟩:=BA h
  unfold jT
  simp only []
  split
  ·rename_i hge
   exact ⟨h1,hge,by omega,h3,h4,h5⟩
  ·rename_i hlt
   have hk':0x8000<=(mI s).a*2 ^ k:=by
    rw [h2]
    rw [jA] at hk
    have:s.a*(2 ^ k*2)=2*s.a*2 ^ k:=by rw [gS (2 ^ k) 2,<- iG,gS s.a 2]
    omega
   obtain ⟨g1,g2,g3,g4,g5,g6⟩:=FB k h1 (by omega) hk'
   exact ⟨g1,g2,g3,g4.trans h3,g5.trans h4,g6.trans h5⟩
theorem AA {s:Dec} (h:MidD s) (ha:1<=s.a) (ha':s.a<0x8000) (hn:s.n<=16777216):WfD (jT 17 s):=by
 obtain ⟨g1,g2,g3,g4,g5,g6⟩:=FB 17 h ha' (by have:(2:Nat) ^ 17=131072:=rfl; omega)
 exact ⟨g1,by omega,g2,g3⟩
theorem Mj {s:Dec} (h:WfD s) (k:Nat) (hn:s.n<16777216):WfD (getD s k).1:=by
 have hx:=CF h.st k
 have hr:s.st.getD k 0 / 2<47:=by omega
 have hq1:=vH hr
 have hq2:=zs hr
 have hM:=pa h.st (k:=k) (zd hx)
 have hL:=pa h.st (k:=k) (ze hx)
 have h1:=h.lo
 have h2:=h.hi
 have h3:=h.c
 have hc:∀ q,s.c-q*65536<M32:=fun q=>ir (Nat.sub_le _ _) h3
 unfold getD
 simp only []
 split
 ·split
  ·exact AA ⟨h.t8,h3,h.b,hM,h.i⟩ hq1 (by show qOf _<_; omega) (by show s.n+1<=_; omega)
  ·exact AA ⟨h.t8,h3,h.b,hL,h.i⟩ hq1 (by show qOf _<_; omega) (by show s.n+1<=_; omega)
 ·split
  ·exact ⟨⟨h.t8,hc _,h.b,h.st,h.i⟩,by show s.n+1<=_; omega,by assumption,by show s.a-_<_; omega⟩
  ·split
   ·exact AA ⟨h.t8,hc _,h.b,hL,h.i⟩ (by show 1<=s.a-qOf _; omega) (by show s.a-qOf _<_; omega) (by show s.n+1<=_; omega)
   ·exact AA ⟨h.t8,hc _,h.b,hM,h.i⟩ (by show 1<=s.a-qOf _; omega) (by show s.a-qOf _<_; omega) (by show s.n+1<=_; omega)
end Go.Ar
namespace Go.Den.YtbknfejmdekhpaaGreat
open Go Go.Den
def D5 (C:gl) (contexts:Int) (h:Heap) (K:VK) (Kp:PK):Prop :=
C uB #[.int .i64 contexts] h (fun k l=>
∃ (b:List Value),b.length=190/\∃ (d:Bool),k = .tuple #[.agg (b).toArray,.bool d]/\(
gE l kj sS fun e m=>
fW ((b).length=190)<|qH m (⟨e,0,none⟩:Addr) 0 (b) fun c=>
fI (!d) (
K (.tuple #[.pointer none,.int .i64 40]) c)<|
En c (⟨e,0,none⟩:Addr) 190 fun a=>
gE c [.int .u8 0] gA fun f g=>
fW ((a).length=190/\0+190<=(nV).length)<|
fW ((([.int .u32 32768]:List Value)).length=1/\190+1<=((mu nV 0 a)).length)<|
fW ((([.int .i64 12]:List Value)).length=1/\192+1<=((mu (mu nV 0 a) 190 ([.int .u32 32768]:List Value))).length)<|
fW ((([.slice (some ⟨f,0,none⟩) 1 1]:List Value)).length=1/\193+1<=((mu (mu (mu nV 0 a) 190 ([.int .u32 32768]:List Value)) 192 ([.int .i64 12]:List Value))).length)<|
gE g ((mu (mu (mu (mu nV 0 a) 190 ([.int .u32 32768]:List Value)) 192 ([.int .i64 12]:List Value)) 193 ([.slice (some ⟨f,0,none⟩) 1 1]:List Value))) Bk fun i j=>
K (.tuple #[.pointer (some ⟨i,0,none⟩),.int .i64 0]) j)) (Kp)
def rh (C:gl) (c:Option Addr) (h:Heap) (K:VK) (Kp:PK):Prop :=
ptr c fun X=>
ldB h (X.add 194) fun Y=>
fI Y (
K (.tuple #[.slice none 0 0,.int .i64 43]) h)<|
ptr c fun Z=>
stV h (Z.add 194) (.bool true) fun n=>
ptr c fun aa=>
ptr c fun ab=>
ldI n (aa.add 191) .u32 fun ac=>
ldI n (ab.add 190) .u32 fun ad=>
fG (IntKind.u32.wrap (ac+ad)) fun ae=>
∃ g:List Value->Heap->Prop,(
ptr c fun v=>
ldI n (v.add 191) .u32 fun w=>
fG (jo .or .u32 w (65535:Int)) fun x=>
ptr c fun y=>
stV n (y.add 191) (.int .u32 x) fun e=>
ptr c fun z=>
ldI e (z.add 191) .u32 fun A=>
fI (decide (A≥ae)) (
ptr c fun B=>
ldI e (B.add 191) .u32 fun D=>
fG (IntKind.u32.wrap (D-(32768:Int))) fun E=>
ptr c fun F=>
stV e (F.add 191) (.int .u32 E) fun G=>
g [] G)<|
g [] e)/\∀ (o:Heap) (af:Nat->Value) ,g [] o->(
∃ i:Nat->List Value->Heap->Prop,(∃ f,i f [.int .i64 0] o)/\∀ (f:Nat) (a:Heap) (ag:Nat->Value) (j:Int),i f [.int .i64 j] a->(
fI (decide (j<(2:Int))) (
ptr c fun H=>
ptr c fun I=>
ldI a (H.add 191) .u32 fun J=>
ldI a (I.add 192) .i64 fun p=>
fW (0<=p)<|
fG (lT .u32 J p) fun L=>
ptr c fun M=>
stV a (M.add 191) (.int .u32 L) fun N=>
C oh #[.pointer c] N (fun ah O=>
fG (IntKind.i64.wrap (j+(1:Int))) fun P=>
∃ q,q<f/\i q [.int .i64 P] O) (Kp))<|
ptr c fun Q=>
ldS a (Q.add 193) fun k b d=>
fW (0<=(1:Int)/\(1:Int)<=((b:Nat):Int))<|
fG (IntKind.i64.wrap ((((b-(1:Int).toNat):Nat):Int)-(1:Int))) fun l=>
fW (0<=l/\l<(((b-(1:Int).toNat):Nat):Int))<|
ptr (we k (d) ((1:Int).toNat) 1) fun R=>
ldI a (R.add (l.toNat*1)) .u8 fun S=>
fI (S == (255:Int)) (
fG (IntKind.i64.wrap ((((b-(1:Int).toNat):Nat):Int)-(1:Int))) fun m=>
fW (0<=m/\m<=(((d-(1:Int).toNat):Nat):Int))<|
l4 a gA 1 1 [.int .u8 0] none (0) (0) (we (we k (d) ((1:Int).toNat) 1) ((d-(1:Int).toNat)) (0) 1) ((m.toNat-0)) fun T r s U=>
K (.tuple #[.slice T r s,.int .i64 0]) U)<|
l4 a gA 1 1 [.int .u8 0] none (0) (0) (we k (d) ((1:Int).toNat) 1) ((b-(1:Int).toNat)) fun V t u W=>
K (.tuple #[.slice V t u,.int .i64 0]) W))
def sC (C:gl) (b:Option Addr) (bn bc:Nat) (contexts:Int) (h:Heap) (K:VK) (Kp:PK):Prop :=
C uB #[.int .i64 contexts] h (fun z A=>
∃ (c:List Value),c.length=190/\∃ (m:Bool),z = .tuple #[.agg (c).toArray,.bool m]/\(
gE A kj sS fun n B=>
fW ((c).length=190)<|qH B (⟨n,0,none⟩:Addr) 0 (c) fun e=>
fI (!m) (
K (.tuple #[.pointer none,.int .i64 40]) e)<|
En e (⟨n,0,none⟩:Addr) 190 fun d=>
l4 e gA 1 1 [.int .u8 0] none (0) (0) b (bn) fun o f g i=>
gi e i/\(
fW ((d).length=190/\0+190<=(kU).length)<|
fW ((([.int .u32 32768]:List Value)).length=1/\190+1<=((mu kU 0 d)).length)<|
fW ((([.slice o f g]:List Value)).length=1/\193+1<=((mu (mu kU 0 d) 190 ([.int .u32 32768]:List Value))).length)<|
gE i ((mu (mu (mu kU 0 d) 190 ([.int .u32 32768]:List Value)) 193 ([.slice o f g]:List Value))) tU fun a p=>
C jP #[.pointer (some ⟨a,0,none⟩),.int .i64 0] p (fun q r=>
∃ (j:Int),q = .int .u32 j/\(
fG (lT .u32 j (16:Int)) fun s=>
stV r (.add ⟨a,0,none⟩ 191) (.int .u32 s) fun t=>
C mF #[.pointer (some ⟨a,0,none⟩)] t (fun D k=>
ldI k (.add ⟨a,0,none⟩ 191) .u32 fun u=>
fG (lT .u32 u (7:Int)) fun v=>
stV k (.add ⟨a,0,none⟩ 191) (.int .u32 v) fun l=>
ldI l (.add ⟨a,0,none⟩ 192) .i64 fun w=>
fG (IntKind.i64.wrap (w-(7:Int))) fun x=>
stV l (.add ⟨a,0,none⟩ 192) (.int .i64 x) fun y=>
K (.tuple #[.pointer (some ⟨a,0,none⟩),.int .i64 0]) y) (Kp))) (Kp)))) (Kp)
def Cc (C:gl) (contexts:Int) (h:Heap) (K:VK) (Kp:PK):Prop :=
gE h kj sS fun c d=>
fI (decide (contexts<(1:Int))) (
qH d (⟨c,0,none⟩:Addr) 0 [.int .u32 0,.int .u8 0,.int .u8 0,.int .u8 0,.int .u32 0,.int .u8 0,.int .u8 0,.int .u8 0,.int .u32 0,.int .u8 0,.int .u8 0,.int .u8 0,.int .u32 0,.int .u8 0,.int .u8 0,.int .u8 0,.int .u32 0,.int .u8 0,.int .u8 0,.int .u8 0,.int .u32 0,.int .u8 0,.int .u8 0,.int .u8 0,.int .u32 0,.int .u8 0,.int .u8 0,.int .u8 0,.int .u32 0,.int .u8 0,.int .u8 0,.int .u8 0,.int .u32 0,.int .u8 0,.int .u8 0,.int .u8 0,.int .u32 0,.int .u8 0,.int .u8 0,.int .u8 0,.int .u32 0,.int .u8 0,.int .u8 0,.int .u8 0,.int .u32 0,.int .u8 0,.int .u8 0,.int .u8 0,.int .u32 0,.int .u8 0,.int .u8 0,.int .u8 0,.int .u32 0,.int .u8 0,.int .u8 0,.int .u8 0,.int .u32 0,.int .u8 0,.int .u8 0,.int .u8 0,.int .u32 0,.int .u8 0,.int .u8 0,.int .u8 0,.int .u32 0,.int .u8 0,.int .u8 0,.int .u8 0,.int .u32 0,.int .u8 0,.int .u8 0,.int .u8 0,.int .u32 0,.int .u8 0,.int .u8 0,.int .u8 0,.int .u32 0,.int .u8 0,.int .u8 0,.int .u8 0,.int .u32 0,.int .u8 0,.int .u8 0,.int .u8 0,.int .u32 0,.int .u8 0,.int .u8 0,.int .u8 0,.int .u32 0,.int .u8 0,.int .u8 0,.int .u8 0,.int .u32 0,.int .u8 0,.int .u8 0,.int .u8 0,.int .u32 0,.int .u8 0,.int .u8 0,.int .u8 0,.int .u32 0,.int .u8 0,.int .u8 0,.int .u8 0,.int .u32 0,.int .u8 0,.int .u8 0,.int .u8 0,.int .u32 0,.int .u8 0,.int .u8 0,.int .u8 0,.int .u32 0,.int .u8 0,.int .u8 0,.int .u8 0,.int .u32 0,.int .u8 0,.int .u8 0,.int .u8 0,.int .u32 0,.int .u8 0,.int .u8 0,.int .u8 0,.int .u32 0,.int .u8 0,.int .u8 0,.int .u8 0,.int .u32 0,.int .u8 0,.int .u8 0,.int .u8 0,.int .u32 0,.int .u8 0,.int .u8 0,.int .u8 0,.int .u32 0,.int .u8 0,.int .u8 0,.int .u8 0,.int .u32 0,.int .u8 0,.int .u8 0,.int .u8 0,.int .u32 0,.int .u8 0,.int .u8 0,.int .u8 0,.int .u32 0,.int .u8 0,.int .u8 0,.int .u8 0,.int .u32 0,.int .u8 0,.int .u8 0,.int .u8 0,.int .u32 0,.int .u8 0,.int .u8 0,.int .u8 0,.int .u32 0,.int .u8 0,.int .u8 0,.int .u8 0,.int .u32 0,.int .u8 0,.int .u8 0,.int .u8 0,.int .u32 0,.int .u8 0,.int .u8 0,.int .u8 0,.int .u32 0,.int .u8 0,.int .u8 0,.int .u8 0,.int .u32 0,.int .u8 0,.int .u8 0,.int .u8 0,.int .u32 0,.int .u8 0,.int .u8 0,.int .u8 0,.int .u32 0,.int .u8 0,.int .u8 0,.int .u8 0,.slice none 0 0,.int .i64 0] fun n=>
En n (⟨c,0,none⟩:Addr) 190 fun q=>
K (.tuple #[.agg (q).toArray,.bool false]) n)<|
fI (decide (contexts > (131072:Int))) (
qH d (⟨c,0,none⟩:Addr) 0 [.int .u32 0,.int .u8 0,.int .u8 0,.int .u8 0,.int .u32 0,.int .u8 0,.int .u8 0,.int .u8 0,.int .u32 0,.int .u8 0,.int .u8 0,.int .u8 0,.int .u32 0,.int .u8 0,.int .u8 0,.int .u8 0,.int .u32 0,.int .u8 0,.int .u8 0,.int .u8 0,.int .u32 0,.int .u8 0,.int .u8 0,.int .u8 0,.int .u32 0,.int .u8 0,.int .u8 0,.int .u8 0,.int .u32 0,.int .u8 0,.int .u8 0,.int .u8 0,.int .u32 0,.int .u8 0,.int .u8 0,.int .u8 0,.int .u32 0,.int .u8 0,.int .u8 0,.int .u8 0,.int .u32 0,.int .u8 0,.int .u8 0,.int .u8 0,.int .u32 0,.int .u8 0,.int .u8 0,.int .u8 0,.int .u32 0,.int .u8 0,.int .u8 0,.int .u8 0,.int .u32 0,.int .u8 0,.int .u8 0,.int .u8 0,.int .u32 0,.int .u8 0,.int .u8 0,.int .u8 0,.int .u32 0,.int .u8 0,.int .u8 0,.int .u8 0,.int .u32 0,.int .u8 0,.int .u8 0,.int .u8 0,.int .u32 0,.int .u8 0,.int .u8 0,.int .u8 0,.int .u32 0,.int .u8 0,.int .u8 0,.int .u8 0,.int .u32 0,.int .u8 0,.int .u8 0,.int .u8 0,.int .u32 0,.int .u8 0,.int .u8 0,.int .u8 0,.int .u32 0,.int .u8 0,.int .u8 0,.int .u8 0,.int .u32 0,.int .u8 0,.int .u8 0,.int .u8 0,.int .u32 0,.int .u8 0,.int .u8 0,.int .u8 0,.int .u32 0,.int .u8 0,.int .u8 0,.int .u8 0,.int .u32 0,.int .u8 0,.int .u8 0,.int .u8 0,.int .u32 0,.int .u8 0,.int .u8 0,.int .u8 0,.int .u32 0,.int .u8 0,.int .u8 0,.int .u8 0,.int .u32 0,.int .u8 0,.int .u8 0,.int .u8 0,.int .u32 0,.int .u8 0,.int .u8 0,.int .u8 0,.int .u32 0,.int .u8 0,.int .u8 0,.int .u8 0,.int .u32 0,.int .u8 0,.int .u8 0,.int .u8 0,.int .u32 0,.int .u8 0,.int .u8 0,.int .u8 0,.int .u32 0,.int .u8 0,.int .u8 0,.int .u8 0,.int .u32 0,.int .u8 0,.int .u8 0,.int .u8 0,.int .u32 0,.int .u8 0,.int .u8 0,.int .u8 0,.int .u32 0,.int .u8 0,.int .u8 0,.int .u8 0,.int .u32 0,.int .u8 0,.int .u8 0,.int .u8 0,.int .u32 0,.int .u8 0,.int .u8 0,.int .u8 0,.int .u32 0,.int .u8 0,.int .u8 0,.int .u8 0,.int .u32 0,.int .u8 0,.int .u8 0,.int .u8 0,.int .u32 0,.int .u8 0,.int .u8 0,.int .u8 0,.int .u32 0,.int .u8 0,.int .u8 0,.int .u8 0,.int .u32 0,.int .u8 0,.int .u8 0,.int .u8 0,.int .u32 0,.int .u8 0,.int .u8 0,.int .u8 0,.int .u32 0,.int .u8 0,.int .u8 0,.int .u8 0,.int .u32 0,.int .u8 0,.int .u8 0,.int .u8 0,.slice none 0 0,.int .i64 0] fun o=>
En o (⟨c,0,none⟩:Addr) 190 fun r=>
K (.tuple #[.agg (r).toArray,.bool false]) o)<|
(
C uA #[] d (fun u p=>
∃ (b:List Value),b.length=188/\u = .agg (b).toArray/\(
gi d p/\(
fW (0<=contexts/\contexts<=contexts/\contexts<=9223372036854775807/\((1:Nat):Int)*contexts<=281474976710656)<|
gE p (l9 [.int .u8 0] contexts.toNat) gA fun e s=>
fW ((b).length=188/\0+188<=(kj).length)<|
fW ((([.slice (some ⟨e,0,none⟩) contexts.toNat contexts.toNat]:List Value)).length=1/\188+1<=((mu kj 0 b)).length)<|
fW (((mu (mu kj 0 b) 188 ([.slice (some ⟨e,0,none⟩) contexts.toNat contexts.toNat]:List Value))).length=190)<|qH s (⟨c,0,none⟩:Addr) 0 ((mu (mu kj 0 b) 188 ([.slice (some ⟨e,0,none⟩) contexts.toNat contexts.toNat]:List Value))) fun g=>
En g (⟨c,0,none⟩:Addr) 190 fun l=>
K (.tuple #[.agg (l).toArray,.bool true]) g))) (Kp))/\(
fW (0<=contexts/\contexts<=contexts/\contexts<=9223372036854775807/\((1:Nat):Int)*contexts<=281474976710656)<|
gE d (l9 [.int .u8 0] contexts.toNat) gA fun f i=>
C uA #[] i (fun t j=>
∃ (a:List Value),a.length=188/\t = .agg (a).toArray/\(
gi i j/\(
fW ((a).length=188/\0+188<=(kj).length)<|
fW ((([.slice (some ⟨f,0,none⟩) contexts.toNat contexts.toNat]:List Value)).length=1/\188+1<=((mu kj 0 a)).length)<|
fW (((mu (mu kj 0 a) 188 ([.slice (some ⟨f,0,none⟩) contexts.toNat contexts.toNat]:List Value))).length=190)<|qH j (⟨c,0,none⟩:Addr) 0 ((mu (mu kj 0 a) 188 ([.slice (some ⟨f,0,none⟩) contexts.toNat contexts.toNat]:List Value))) fun k=>
En k (⟨c,0,none⟩:Addr) 190 fun m=>
K (.tuple #[.agg (m).toArray,.bool true]) k))) (Kp))
def tS (C:gl) (c:Option Addr) (h:Heap) (K:VK) (Kp:PK):Prop :=
ptr c fun ad=>
ptr c fun ae=>
ldS h (ad.add 193) fun af s ag=>
ldS h (ae.add 193) fun ak t ah=>
fG (IntKind.i64.wrap ((t:Int)-(1:Int))) fun b=>
fW (0<=b/\b<(s:Int))<|
ptr af fun i=>
∃ k:List Value->Heap->Prop,(
∃ f:List Value->Heap->Prop,(
ldI h (i.add (b.toNat*1)) .u8 fun u=>
fI (u != (255:Int)) (
ptr c fun v=>
ldI h (v.add 191) .u32 fun w=>
f [.bool (decide (w≥(134217728:Int)))] h)<|
f [.bool false] h)/\∀ (d:Heap) (ai:Nat->Value) (l:Bool),f [.bool l] d->(
fI l (
ldI d (i.add (b.toNat*1)) .u8 fun x=>
fG (IntKind.u8.wrap (x+(1:Int))) fun y=>
stV d (i.add (b.toNat*1)) (.int .u8 y) fun m=>
ptr c fun z=>
ldI m (z.add 191) .u32 fun A=>
fG (jo .and .u32 A (134217727:Int)) fun B=>
ptr c fun D=>
stV m (D.add 191) (.int .u32 B) fun E=>
k [] E)<|
k [] d))/\∀ (j:Heap) (al:Nat->Value) ,k [] j->(
∃ g:List Value->Heap->Prop,(
ldI j (i.add (b.toNat*1)) .u8 fun F=>
fI (F != (255:Int)) (
fG (IntKind.i64.wrap ((20:Int)-(1:Int))) fun G=>
g [.int .i64 G] j)<|
g [.int .i64 20] j)/\∀ (e:Heap) (aj:Nat->Value) (a:Int),g [.int .i64 a] e->(
ptr c fun H=>
ptr c fun I=>
ldS e (H.add 193) fun J o p=>
ldI e (I.add 191) .u32 fun L=>
fW (0<=a)<|
fG (l8 .u32 L a) fun M=>
fG (IntKind.u8.wrap M) fun N=>
gE e [.int .u8 N] gA fun O P=>
l4 P gA 1 1 [.int .u8 0] J (o) (p) (some ⟨O,0,none⟩) (1) fun Q q r R=>
ptr c fun S=>
stV R (S.add 193) (.slice Q q r) fun n=>
ptr c fun T=>
fW (0<=a)<|
fG (lT .u32 (1:Int) a) fun U=>
fG (IntKind.u32.wrap (U-(1:Int))) fun V=>
ldI n (T.add 191) .u32 fun W=>
fG (jo .and .u32 W V) fun X=>
ptr c fun Y=>
stV n (Y.add 191) (.int .u32 X) fun Z=>
fG (IntKind.i64.wrap ((27:Int)-a)) fun aa=>
ptr c fun ab=>
stV Z (ab.add 192) (.int .i64 aa) fun ac=>
K (.tuple #[]) ac))
def qc (C:gl) (d:Option Addr) (i:Int) (h:Heap) (K:VK) (Kp:PK):Prop :=
ptr d fun c=>
ldS h (c.add 193) fun n a l=>
fI (decide (i<(a:Int))) (
ptr d fun e=>
ldS h (e.add 193) fun f b m=>
fW (0<=i/\i<(b:Int))<|
ptr f fun g=>
ldI h (g.add (i.toNat*1)) .u8 fun j=>
fG (IntKind.u32.wrap j) fun k=>
K (.int .u32 k) h)<|
K (.int .u32 255) h
def sD (C:gl) (d:Option Addr) (h:Heap) (K:VK) (Kp:PK):Prop :=
ptr d fun Z=>
ldI h (Z.add 194) .i64 fun aa=>
C jP #[.pointer d,.int .i64 aa] h (fun ab e=>
∃ (l:Int),ab = .int .u32 l/\(
fI (l != (255:Int)) (
ptr d fun ac=>
ldI e (ac.add 194) .i64 fun ad=>
fG (IntKind.i64.wrap (ad+(1:Int))) fun ae=>
ptr d fun af=>
stV e (af.add 194) (.int .i64 ae) fun a=>
ptr d fun m=>
ptr d fun n=>
ldI a (m.add 191) .u32 fun o=>
ldI a (n.add 194) .i64 fun p=>
C jP #[.pointer d,.int .i64 p] a (fun q f=>
∃ (g:Int),q = .int .u32 g/\(
gi a f/\(
fG (lT .u32 g (8:Int)) fun r=>
fG (IntKind.u32.wrap (o+r)) fun s=>
ptr d fun t=>
stV f (t.add 191) (.int .u32 s) fun u=>
ptr d fun v=>
stV u (v.add 192) (.int .i64 8) fun w=>
K (.tuple #[]) w))) (Kp))<|
ptr d fun x=>
ldI e (x.add 194) .i64 fun y=>
fG (IntKind.i64.wrap (y+(1:Int))) fun z=>
C jP #[.pointer d,.int .i64 z] e (fun A b=>
∃ (i:Int),A = .int .u32 i/\(
fI (decide (i > (143:Int))) (
ptr d fun B=>
ldI b (B.add 191) .u32 fun D=>
fG (IntKind.u32.wrap (D+(65280:Int))) fun E=>
ptr d fun F=>
stV b (F.add 191) (.int .u32 E) fun G=>
ptr d fun H=>
stV G (H.add 192) (.int .i64 8) fun I=>
K (.tuple #[]) I)<|
ptr d fun J=>
ldI b (J.add 194) .i64 fun L=>
fG (IntKind.i64.wrap (L+(1:Int))) fun M=>
ptr d fun N=>
stV b (N.add 194) (.int .i64 M) fun c=>
ptr d fun O=>
ptr d fun P=>
ldI c (O.add 191) .u32 fun Q=>
ldI c (P.add 194) .i64 fun R=>
C jP #[.pointer d,.int .i64 R] c (fun S j=>
∃ (k:Int),S = .int .u32 k/\(
gi c j/\(
fG (lT .u32 k (9:Int)) fun T=>
fG (IntKind.u32.wrap (Q+T)) fun U=>
ptr d fun V=>
stV j (V.add 191) (.int .u32 U) fun W=>
ptr d fun X=>
stV W (X.add 192) (.int .i64 7) fun Y=>
K (.tuple #[]) Y))) (Kp))) (Kp))) (Kp)
def Cb (C:gl)  (h:Heap) (K:VK) (Kp:PK):Prop :=
gE h Gs Gv fun a d=>
qH d (⟨a,0,none⟩:Addr) 0 [.int .u32 22017,.int .u8 1,.int .u8 1,.int .u8 1,.int .u32 13313,.int .u8 2,.int .u8 6,.int .u8 0,.int .u32 6145,.int .u8 3,.int .u8 9,.int .u8 0,.int .u32 2753,.int .u8 4,.int .u8 12,.int .u8 0,.int .u32 1313,.int .u8 5,.int .u8 29,.int .u8 0,.int .u32 545,.int .u8 38,.int .u8 33,.int .u8 0,.int .u32 22017,.int .u8 7,.int .u8 6,.int .u8 1,.int .u32 21505,.int .u8 8,.int .u8 14,.int .u8 0,.int .u32 18433,.int .u8 9,.int .u8 14,.int .u8 0,.int .u32 14337,.int .u8 10,.int .u8 14,.int .u8 0,.int .u32 12289,.int .u8 11,.int .u8 17,.int .u8 0,.int .u32 9217,.int .u8 12,.int .u8 18,.int .u8 0,.int .u32 7169,.int .u8 13,.int .u8 20,.int .u8 0,.int .u32 5633,.int .u8 29,.int .u8 21,.int .u8 0,.int .u32 22017,.int .u8 15,.int .u8 14,.int .u8 1,.int .u32 21505,.int .u8 16,.int .u8 14,.int .u8 0,.int .u32 20737,.int .u8 17,.int .u8 15,.int .u8 0,.int .u32 18433,.int .u8 18,.int .u8 16,.int .u8 0,.int .u32 14337,.int .u8 19,.int .u8 17,.int .u8 0,.int .u32 13313,.int .u8 20,.int .u8 18,.int .u8 0,.int .u32 12289,.int .u8 21,.int .u8 19,.int .u8 0,.int .u32 10241,.int .u8 22,.int .u8 19,.int .u8 0,.int .u32 9217,.int .u8 23,.int .u8 20,.int .u8 0,.int .u32 8705,.int .u8 24,.int .u8 21,.int .u8 0,.int .u32 7169,.int .u8 25,.int .u8 22,.int .u8 0,.int .u32 6145,.int .u8 26,.int .u8 23,.int .u8 0,.int .u32 5633,.int .u8 27,.int .u8 24,.int .u8 0,.int .u32 5121,.int .u8 28,.int .u8 25,.int .u8 0,.int .u32 4609,.int .u8 29,.int .u8 26,.int .u8 0,.int .u32 4353,.int .u8 30,.int .u8 27,.int .u8 0,.int .u32 2753,.int .u8 31,.int .u8 28,.int .u8 0,.int .u32 2497,.int .u8 32,.int .u8 29,.int .u8 0,.int .u32 2209,.int .u8 33,.int .u8 30,.int .u8 0,.int .u32 1313,.int .u8 34,.int .u8 31,.int .u8 0,.int .u32 1089,.int .u8 35,.int .u8 32,.int .u8 0,.int .u32 673,.int .u8 36,.int .u8 33,.int .u8 0,.int .u32 545,.int .u8 37,.int .u8 34,.int .u8 0,.int .u32 321,.int .u8 38,.int .u8 35,.int .u8 0,.int .u32 273,.int .u8 39,.int .u8 36,.int .u8 0,.int .u32 133,.int .u8 40,.int .u8 37,.int .u8 0,.int .u32 73,.int .u8 41,.int .u8 38,.int .u8 0,.int .u32 37,.int .u8 42,.int .u8 39,.int .u8 0,.int .u32 21,.int .u8 43,.int .u8 40,.int .u8 0,.int .u32 9,.int .u8 44,.int .u8 41,.int .u8 0,.int .u32 5,.int .u8 45,.int .u8 42,.int .u8 0,.int .u32 1,.int .u8 45,.int .u8 43,.int .u8 0,.int .u32 22017,.int .u8 46,.int .u8 46,.int .u8 0] fun b=>
En b (⟨a,0,none⟩:Addr) 188 fun c=>
K (.agg (c).toArray) b
def tT (C:gl) (c:Option Addr) (context bit:Int) (h:Heap) (K:VK) (Kp:PK):Prop :=
∃ k:List Value->Heap->Prop,(
ptr c fun aP=>
ldB h (aP.add 194) fun aQ=>
fI aQ (
K (.int .i64 43) h)<|
fI (bit != (0:Int)) (
fI (bit != (1:Int)) (
K (.int .i64 42) h)<|
ptr c fun aR=>
ldI h ((aR.add 0).add 189) .i64 fun aS=>
fI (decide (aS≥(16777216:Int))) (
K (.int .i64 41) h)<|
k [] h)<|
ptr c fun aT=>
ldI h ((aT.add 0).add 189) .i64 fun aU=>
fI (decide (aU≥(16777216:Int))) (
K (.int .i64 41) h)<|
k [] h)/\∀ (l:Heap) (a3:Nat->Value) ,k [] l->(
ptr c fun s=>
ldI l ((s.add 0).add 189) .i64 fun t=>
fG (IntKind.i64.wrap (t+(1:Int))) fun u=>
ptr c fun v=>
stV l ((v.add 0).add 189) (.int .i64 u) fun w=>
ptr c fun x=>
C o6 #[.pointer (some (x.add 0)),.int .i64 context] w (fun y z=>
∃ (d:Option Addr),∃ (m n o p:Int),y = .tuple #[.pointer d,.agg #[.int .u32 m,.int .u8 n,.int .u8 o,.int .u8 p]]/\(
gE z [.int .u32 0,.int .u8 0,.int .u8 0,.int .u8 0] k8 fun a A=>
stV A (.add ⟨a,0,none⟩ 0) (.int .u32 m) fun B=>
stV B (.add ⟨a,0,none⟩ 1) (.int .u8 n) fun D=>
stV D (.add ⟨a,0,none⟩ 2) (.int .u8 o) fun E=>
stV E (.add ⟨a,0,none⟩ 3) (.int .u8 p) fun j=>
ptr c fun F=>
ldI j (F.add 190) .u32 fun G=>
ldI j (.add ⟨a,0,none⟩ 0) .u32 fun H=>
fG (IntKind.u32.wrap (G-H)) fun I=>
ptr c fun J=>
stV j (J.add 190) (.int .u32 I) fun b=>
ptr d fun L=>
ldI b L .u8 fun M=>
fG (jo .and .u8 M (1:Int)) fun N=>
fG (IntKind.i64.wrap N) fun O=>
fI (bit == O) (
ptr c fun P=>
ldI b (P.add 190) .u32 fun Q=>
fI (decide (Q≥(32768:Int))) (
ptr c fun R=>
ldI b (R.add 191) .u32 fun S=>
ldI b (.add ⟨a,0,none⟩ 0) .u32 fun T=>
fG (IntKind.u32.wrap (S+T)) fun U=>
ptr c fun V=>
stV b (V.add 191) (.int .u32 U) fun W=>
K (.int .i64 0) W)<|
ptr c fun X=>
ldI b (X.add 190) .u32 fun Y=>
ldI b (.add ⟨a,0,none⟩ 0) .u32 fun Z=>
fI (decide (Y<Z)) (
ldI b (.add ⟨a,0,none⟩ 0) .u32 fun aa=>
ptr c fun ab=>
stV b (ab.add 190) (.int .u32 aa) fun e=>
ldI e (.add ⟨a,0,none⟩ 0) .u32 fun ac=>
ldI e (.add ⟨a,0,none⟩ 1) .u8 fun ad=>
ldI e (.add ⟨a,0,none⟩ 2) .u8 fun ae=>
ldI e (.add ⟨a,0,none⟩ 3) .u8 fun af=>
C oN #[.pointer d,.agg #[.int .u32 ac,.int .u8 ad,.int .u8 ae,.int .u8 af]] e (fun aW ag=>
C lz #[.pointer c] ag (fun aX ah=>
K (.int .i64 0) ah) (Kp)) (Kp))<|
ptr c fun ai=>
ldI b (ai.add 191) .u32 fun aj=>
ldI b (.add ⟨a,0,none⟩ 0) .u32 fun ak=>
fG (IntKind.u32.wrap (aj+ak)) fun al=>
ptr c fun am=>
stV b (am.add 191) (.int .u32 al) fun f=>
ldI f (.add ⟨a,0,none⟩ 0) .u32 fun an=>
ldI f (.add ⟨a,0,none⟩ 1) .u8 fun ao=>
ldI f (.add ⟨a,0,none⟩ 2) .u8 fun ap=>
ldI f (.add ⟨a,0,none⟩ 3) .u8 fun aq=>
C oN #[.pointer d,.agg #[.int .u32 an,.int .u8 ao,.int .u8 ap,.int .u8 aq]] f (fun aY ar=>
C lz #[.pointer c] ar (fun aZ au=>
K (.int .i64 0) au) (Kp)) (Kp))<|
ptr c fun av=>
ldI b (av.add 190) .u32 fun aw=>
ldI b (.add ⟨a,0,none⟩ 0) .u32 fun ax=>
fI (decide (aw<ax)) (
ptr c fun ay=>
ldI b (ay.add 191) .u32 fun az=>
ldI b (.add ⟨a,0,none⟩ 0) .u32 fun aA=>
fG (IntKind.u32.wrap (az+aA)) fun aB=>
ptr c fun aC=>
stV b (aC.add 191) (.int .u32 aB) fun g=>
ldI g (.add ⟨a,0,none⟩ 0) .u32 fun aD=>
ldI g (.add ⟨a,0,none⟩ 1) .u8 fun aE=>
ldI g (.add ⟨a,0,none⟩ 2) .u8 fun aF=>
ldI g (.add ⟨a,0,none⟩ 3) .u8 fun aG=>
C ng #[.pointer d,.agg #[.int .u32 aD,.int .u8 aE,.int .u8 aF,.int .u8 aG]] g (fun a0 aH=>
C lz #[.pointer c] aH (fun a1 aI=>
K (.int .i64 0) aI) (Kp)) (Kp))<|
ldI b (.add ⟨a,0,none⟩ 0) .u32 fun aJ=>
ptr c fun aK=>
stV b (aK.add 190) (.int .u32 aJ) fun i=>
ldI i (.add ⟨a,0,none⟩ 0) .u32 fun aL=>
ldI i (.add ⟨a,0,none⟩ 1) .u8 fun aM=>
ldI i (.add ⟨a,0,none⟩ 2) .u8 fun aN=>
ldI i (.add ⟨a,0,none⟩ 3) .u8 fun aO=>
C ng #[.pointer d,.agg #[.int .u32 aL,.int .u8 aM,.int .u8 aN,.int .u8 aO]] i (fun a2 q=>
C lz #[.pointer c] q (fun aV r=>
K (.int .i64 0) r) (Kp)) (Kp))) (Kp))
def oK (C:gl) (t:Option Addr) (h:Heap) (K:VK) (Kp:PK):Prop :=
ptr t fun b=>
ldS h (b.add 188) fun d a c=>
K (.int .i64 (a:Int)) h
def q7 (C:gl) (d:Option Addr) (context:Int) (h:Heap) (K:VK) (Kp:PK):Prop :=
ptr d fun al=>
ldI h ((al.add 0).add 189) .i64 fun am=>
fI (decide (am≥(16777216:Int))) (
K (.tuple #[.int .i64 0,.int .i64 41]) h)<|
ptr d fun an=>
ldI h ((an.add 0).add 189) .i64 fun ao=>
fG (IntKind.i64.wrap (ao+(1:Int))) fun ap=>
ptr d fun aq=>
stV h ((aq.add 0).add 189) (.int .i64 ap) fun ar=>
ptr d fun au=>
C o6 #[.pointer (some (au.add 0)),.int .i64 context] ar (fun av t=>
∃ (f:Option Addr),∃ (p q r s:Int),av = .tuple #[.pointer f,.agg #[.int .u32 p,.int .u8 q,.int .u8 r,.int .u8 s]]/\(
gE t [.int .u32 0,.int .u8 0,.int .u8 0,.int .u8 0] k8 fun a u=>
stV u (.add ⟨a,0,none⟩ 0) (.int .u32 p) fun v=>
stV v (.add ⟨a,0,none⟩ 1) (.int .u8 q) fun w=>
stV w (.add ⟨a,0,none⟩ 2) (.int .u8 r) fun x=>
stV x (.add ⟨a,0,none⟩ 3) (.int .u8 s) fun g=>
ptr f fun y=>
ldI g y .u8 fun z=>
fG (jo .and .u8 z (1:Int)) fun A=>
fG (IntKind.i64.wrap A) fun j=>
ptr d fun B=>
ldI g (B.add 190) .u32 fun D=>
ldI g (.add ⟨a,0,none⟩ 0) .u32 fun E=>
fG (IntKind.u32.wrap (D-E)) fun F=>
ptr d fun G=>
stV g (G.add 190) (.int .u32 F) fun c=>
ptr d fun H=>
ldI c (H.add 191) .u32 fun I=>
fG (l8 .u32 I (16:Int)) fun k=>
ldI c (.add ⟨a,0,none⟩ 0) .u32 fun l=>
∃ m:List Value->Heap->Prop,(
fI (!(decide (k<l))) (
ptr d fun J=>
ldI c (J.add 191) .u32 fun L=>
ldI c (.add ⟨a,0,none⟩ 0) .u32 fun M=>
fG (lT .u32 M (16:Int)) fun N=>
fG (IntKind.u32.wrap (L-N)) fun O=>
ptr d fun P=>
stV c (P.add 191) (.int .u32 O) fun n=>
ptr d fun Q=>
ldI n (Q.add 190) .u32 fun R=>
fI (decide (R≥(32768:Int))) (
K (.tuple #[.int .i64 j,.int .i64 0]) n)<|
m [] n)<|
m [] c)/\∀ (b:Heap) (aw:Nat->Value) ,m [] b->(
∃ o:List Value->Heap->Prop,(
ptr d fun S=>
ldI b (S.add 190) .u32 fun T=>
ldI b (.add ⟨a,0,none⟩ 0) .u32 fun U=>
fI ((decide (k<l)) == (decide (T<U))) (
ldI b (.add ⟨a,0,none⟩ 0) .u32 fun V=>
ldI b (.add ⟨a,0,none⟩ 1) .u8 fun W=>
ldI b (.add ⟨a,0,none⟩ 2) .u8 fun X=>
ldI b (.add ⟨a,0,none⟩ 3) .u8 fun Y=>
C oN #[.pointer f,.agg #[.int .u32 V,.int .u8 W,.int .u8 X,.int .u8 Y]] b (fun ax Z=>
o [.int .i64 j] Z) (Kp))<|
fG (jo .xor .i64 j (1:Int)) fun aa=>
ldI b (.add ⟨a,0,none⟩ 0) .u32 fun ab=>
ldI b (.add ⟨a,0,none⟩ 1) .u8 fun ac=>
ldI b (.add ⟨a,0,none⟩ 2) .u8 fun ad=>
ldI b (.add ⟨a,0,none⟩ 3) .u8 fun ae=>
C ng #[.pointer f,.agg #[.int .u32 ab,.int .u8 ac,.int .u8 ad,.int .u8 ae]] b (fun ay af=>
o [.int .i64 aa] af) (Kp))/\∀ (i:Heap) (az:Nat->Value) (e:Int),o [.int .i64 e] i->(
fI (decide (k<l)) (
ldI i (.add ⟨a,0,none⟩ 0) .u32 fun ag=>
ptr d fun ah=>
stV i (ah.add 190) (.int .u32 ag) fun ai=>
C mG #[.pointer d] ai (fun aA aj=>
K (.tuple #[.int .i64 e,.int .i64 0]) aj) (Kp))<|
C mG #[.pointer d] i (fun aB ak=>
K (.tuple #[.int .i64 e,.int .i64 0]) ak) (Kp))))) (Kp)
def vj (C:gl) (t:Option Addr) (context:Int) (h:Heap) (K:VK) (Kp:PK):Prop :=
gE h [.int .u32 0,.int .u8 0,.int .u8 0,.int .u8 0] k8 fun b c=>
ptr t fun x=>
ldS c (x.add 188) fun F d D=>
ptr t fun y=>
fW (IntKind.i64=IntKind.i64/\(d:Int)≠0)<|
fG (context.tmod (d:Int)) fun z=>
fG (IntKind.i64.wrap (z+(d:Int))) fun A=>
fW (IntKind.i64=IntKind.i64/\(d:Int)≠0)<|
fG (A.tmod (d:Int)) fun g=>
ldS c (y.add 188) fun B j E=>
fW (0<=g/\g<(j:Int))<|
ptr B fun i=>
ptr t fun f=>
ldI c (i.add (g.toNat*1)) .u8 fun k=>
fG (l8 .u8 k (1:Int)) fun a=>
fW (0<=a/\a<((47:Nat):Int))<|
ldI c (((f.add 0).add (a.toNat*4)).add 0) .u32 fun l=>
ldI c (((f.add 0).add (a.toNat*4)).add 1) .u8 fun m=>
ldI c (((f.add 0).add (a.toNat*4)).add 2) .u8 fun n=>
ldI c (((f.add 0).add (a.toNat*4)).add 3) .u8 fun o=>
stV c (.add ⟨b,0,none⟩ 0) (.int .u32 l) fun p=>
stV p (.add ⟨b,0,none⟩ 1) (.int .u8 m) fun q=>
stV q (.add ⟨b,0,none⟩ 2) (.int .u8 n) fun r=>
stV r (.add ⟨b,0,none⟩ 3) (.int .u8 o) fun e=>
ldI e (.add ⟨b,0,none⟩ 0) .u32 fun s=>
ldI e (.add ⟨b,0,none⟩ 1) .u8 fun u=>
ldI e (.add ⟨b,0,none⟩ 2) .u8 fun v=>
ldI e (.add ⟨b,0,none⟩ 3) .u8 fun w=>
K (.tuple #[.pointer (some (i.add (g.toNat*1))),.agg #[.int .u32 s,.int .u8 u,.int .u8 v,.int .u8 w]]) e
def yr (C:gl) (s:Option Addr) (g i j k:Int) (h:Heap) (K:VK) (Kp:PK):Prop :=
gE h [.int .u32 g,.int .u8 i,.int .u8 j,.int .u8 k] k8 fun l a=>
ptr s fun m=>
ldI a (.add ⟨l,0,none⟩ 1) .u8 fun n=>
fG (lT .u8 n (1:Int)) fun o=>
ldI a m .u8 fun b=>
fG (jo .and .u8 b (1:Int)) fun c=>
fG (jo .or .u8 o c) fun d=>
ptr s fun e=>
stV a e (.int .u8 d) fun f=>
K (.tuple #[]) f
def vi (C:gl) (s:Option Addr) (k l m n:Int) (h:Heap) (K:VK) (Kp:PK):Prop :=
gE h [.int .u32 k,.int .u8 l,.int .u8 m,.int .u8 n] k8 fun b a=>
ptr s fun o=>
ldI a (.add ⟨b,0,none⟩ 2) .u8 fun p=>
fG (lT .u8 p (1:Int)) fun q=>
ldI a o .u8 fun c=>
fG (jo .and .u8 c (1:Int)) fun d=>
fG (jo .or .u8 q d) fun e=>
ldI a (.add ⟨b,0,none⟩ 3) .u8 fun f=>
fG (jo .xor .u8 e f) fun g=>
ptr s fun i=>
stV a i (.int .u8 g) fun j=>
K (.tuple #[]) j
def q8 (C:gl) (c:Option Addr) (h:Heap) (K:VK) (Kp:PK):Prop :=
∃ f:Nat->List Value->Heap->Prop,(∃ b,f b [] h)/\∀ (b:Nat) (g:Heap) (E:Nat->Value) ,f b [] g->(
ptr c fun y=>
ldI g (y.add 190) .u32 fun z=>
fG (lT .u32 z (1:Int)) fun A=>
ptr c fun B=>
stV g (B.add 190) (.int .u32 A) fun i=>
ptr c fun k=>
ldI i (k.add 191) .u32 fun l=>
fG (lT .u32 l (1:Int)) fun m=>
ptr c fun n=>
stV i (n.add 191) (.int .u32 m) fun j=>
ptr c fun o=>
ldI j (o.add 192) .i64 fun p=>
fG (IntKind.i64.wrap (p-(1:Int))) fun q=>
ptr c fun r=>
stV j (r.add 192) (.int .i64 q) fun a=>
ptr c fun s=>
ldI a (s.add 192) .i64 fun t=>
fI (t == (0:Int)) (
C oh #[.pointer c] a (fun D e=>
ptr c fun u=>
ldI e (u.add 190) .u32 fun v=>
fI (decide (v≥(32768:Int))) (
K (.tuple #[]) e)<|
∃ d,d<b/\f d [] e) (Kp))<|
ptr c fun w=>
ldI a (w.add 190) .u32 fun x=>
fI (decide (x≥(32768:Int))) (
K (.tuple #[]) a)<|
∃ d,d<b/\f d [] a)
def pr (C:gl) (d:Option Addr) (h:Heap) (K:VK) (Kp:PK):Prop :=
∃ e:Nat->List Value->Heap->Prop,(∃ b,e b [] h)/\∀ (b:Nat) (c:Heap) (E:Nat->Value) ,e b [] c->(
∃ f:List Value->Heap->Prop,(
ptr d fun B=>
ldI c (B.add 192) .i64 fun l=>
fI (l == (0:Int)) (
C mF #[.pointer d] c (fun D m=>
f [] m) (Kp))<|
f [] c)/\∀ (g:Heap) (F:Nat->Value) ,f [] g->(
ptr d fun n=>
ldI g (n.add 190) .u32 fun o=>
fG (lT .u32 o (1:Int)) fun p=>
ptr d fun q=>
stV g (q.add 190) (.int .u32 p) fun i=>
ptr d fun r=>
ldI i (r.add 191) .u32 fun s=>
fG (lT .u32 s (1:Int)) fun t=>
ptr d fun u=>
stV i (u.add 191) (.int .u32 t) fun j=>
ptr d fun v=>
ldI j (v.add 192) .i64 fun w=>
fG (IntKind.i64.wrap (w-(1:Int))) fun x=>
ptr d fun y=>
stV j (y.add 192) (.int .i64 x) fun a=>
ptr d fun z=>
ldI a (z.add 190) .u32 fun A=>
fI (decide (A≥(32768:Int))) (
K (.tuple #[]) a)<|
∃ k,k<b/\e k [] a))
theorem Gl {contexts:Int} {h:Heap} {K:VK} {Kp:PK} (H:D5 QP contexts h K Kp):QP Am #[.int .i64 contexts] h K Kp :=
 fJ (Hints.mk (fun i=>none) (fun i=>none) (fun i=>none) []) (by kernel_rfl) Go.Proofs.Tryz.func46 (by kernel_rfl) (fun C=>D5 C contexts h K Kp) (fun C=>by kernel_rfl) H
theorem yj {c:Option Addr} {h:Heap} {K:VK} {Kp:PK} (H:rh QP c h K Kp):QP pD #[.pointer c] h K Kp :=
 fJ (Hints.mk (fun i=>bif Nat.beq i 4 then some ([],.take 0 <| .take 1 <| .take 2 <| .take 4 <| .take 5 <| .take 6 <| .take 3 <| .take 7 <| .take 8 <| .take 9 <| .done) else (bif Nat.beq i 10 then some ([11],.take 0 <| .take 1 <| .take 2 <| .take 4 <| .take 5 <| .take 6 <| .take 3 <| .take 7 <| .take 8 <| .take 9 <| .take 10 <| .bar 11 [] <| .done) else (none))) (fun i=>bif Nat.beq i 9 then some ([(42,.int .i64)],288225978105200640) else (none)) (fun i=>bif Nat.beq i 8 then some ([],4398042316800) else (none)) []) (by kernel_rfl) Go.Proofs.Tryz.func49 (by kernel_rfl) (fun C=>rh C c h K Kp) (fun C=>by kernel_rfl) H
theorem yZ {b:Option Addr} {bn bc:Nat} {contexts:Int} {h:Heap} {K:VK} {Kp:PK} (H:sC QP b bn bc contexts h K Kp):QP qi #[.slice b bn bc,.int .i64 contexts] h K Kp :=
 fJ (Hints.mk (fun i=>bif Nat.beq i 4 then some ([4],.take 1 <| .take 0 <| .go 2 <| .take 3 <| .bar 4 [] <| .take 5 <| .done) else (none)) (fun i=>none) (fun i=>none) []) (by kernel_rfl) Go.Proofs.Tryz.func80 (by kernel_rfl) (fun C=>sC C b bn bc contexts h K Kp) (fun C=>by kernel_rfl) H
theorem EN {contexts:Int} {h:Heap} {K:VK} {Kp:PK} (H:Cc QP contexts h K Kp):QP uB #[.int .i64 contexts] h K Kp :=
 fJ (Hints.mk (fun i=>bif Nat.beq i 3 then some ([4],.take 1 <| .alt 0 (.go 2 <| .take 3 <| .bar 4 [] <| .take 5 <| .done) <| .go 2 <| .go 0 <| .take 3 <| .bar 4 [] <| .take 5 <| .done) else (none)) (fun i=>none) (fun i=>none) []) (by kernel_rfl) Go.Proofs.Tryz.func92 (by kernel_rfl) (fun C=>Cc C contexts h K Kp) (fun C=>by kernel_rfl) H
theorem z5 {c:Option Addr} {h:Heap} {K:VK} {Kp:PK} (H:tS QP c h K Kp):QP oh #[.pointer c] h K Kp :=
 fJ (Hints.mk (fun i=>bif Nat.beq i 0 then some ([],.take 0 <| .take 1 <| .take 2 <| .take 4 <| .take 5 <| .take 6 <| .take 3 <| .take 7 <| .take 8 <| .take 9 <| .take 10 <| .take 11 <| .done) else (bif Nat.beq i 7 then some ([13,16],.take 0 <| .take 1 <| .take 2 <| .take 3 <| .take 5 <| .take 6 <| .take 7 <| .take 9 <| .take 4 <| .take 8 <| .take 10 <| .take 11 <| .go 12 <| .bar 13 [16] <| .take 14 <| .take 15 <| .bar 16 [] <| .done) else (bif Nat.beq i 8 then some ([10],.take 0 <| .take 1 <| .take 2 <| .take 4 <| .take 5 <| .take 6 <| .take 3 <| .take 7 <| .take 8 <| .take 9 <| .bar 10 [] <| .done) else (none)))) (fun i=>none) (fun i=>bif Nat.beq i 2 then some ([(25,.bool)],67076096) else (bif Nat.beq i 4 then some ([],274877874176) else (bif Nat.beq i 7 then some ([(3,.int .i64)],34909494181896) else (none)))) []) (by kernel_rfl) Go.Proofs.Tryz.func96 (by kernel_rfl) (fun C=>tS C c h K Kp) (fun C=>by kernel_rfl) H
theorem xp {d:Option Addr} {i:Int} {h:Heap} {K:VK} {Kp:PK} (H:qc QP d i h K Kp):QP jP #[.pointer d,.int .i64 i] h K Kp :=
 fJ (Hints.mk (fun i=>none) (fun i=>none) (fun i=>none) []) (by kernel_rfl) Go.Proofs.Tryz.func122 (by kernel_rfl) (fun C=>qc C d i h K Kp) (fun C=>by kernel_rfl) H
theorem y0 {d:Option Addr} {h:Heap} {K:VK} {Kp:PK} (H:sD QP d h K Kp):QP mF #[.pointer d] h K Kp :=
 fJ (Hints.mk (fun i=>bif Nat.beq i 1 then some ([14],.take 0 <| .take 1 <| .take 2 <| .take 4 <| .take 5 <| .take 6 <| .take 7 <| .take 3 <| .take 8 <| .go 9 <| .take 10 <| .take 11 <| .take 12 <| .take 13 <| .bar 14 [] <| .done) else (bif Nat.beq i 5 then some ([14],.take 0 <| .take 1 <| .take 2 <| .take 4 <| .take 5 <| .take 6 <| .take 7 <| .take 3 <| .take 8 <| .go 9 <| .take 10 <| .take 11 <| .take 12 <| .take 13 <| .bar 14 [] <| .done) else (none))) (fun i=>none) (fun i=>none) []) (by kernel_rfl) Go.Proofs.Tryz.func123 (by kernel_rfl) (fun C=>sD C d h K Kp) (fun C=>by kernel_rfl) H
theorem EM  {h:Heap} {K:VK} {Kp:PK} (H:Cb QP  h K Kp):QP uA #[] h K Kp :=
 fJ (Hints.mk (fun i=>none) (fun i=>none) (fun i=>none) []) (by kernel_rfl) Go.Proofs.Tryz.func140 (by kernel_rfl) (fun C=>Cb C  h K Kp) (fun C=>by kernel_rfl) H
theorem z7 {c:Option Addr} {context bit:Int} {h:Heap} {K:VK} {Kp:PK} (H:tT QP c context bit h K Kp):QP kJ #[.pointer c,.int .i64 context,.int .i64 bit] h K Kp :=
 fJ (Hints.mk (fun i=>bif Nat.beq i 9 then some ([9],.take 0 <| .take 1 <| .take 2 <| .take 4 <| .take 3 <| .take 5 <| .take 6 <| .take 7 <| .take 8 <| .bar 9 [] <| .done) else (bif Nat.beq i 12 then some ([9],.take 0 <| .take 1 <| .take 2 <| .take 4 <| .take 3 <| .take 5 <| .take 6 <| .take 7 <| .take 8 <| .bar 9 [] <| .done) else (bif Nat.beq i 14 then some ([],.take 0 <| .take 1 <| .take 2 <| .take 4 <| .take 3 <| .take 5 <| .take 6 <| .done) else (bif Nat.beq i 16 then some ([9],.take 0 <| .take 1 <| .take 2 <| .take 4 <| .take 3 <| .take 5 <| .take 6 <| .take 7 <| .take 8 <| .bar 9 [] <| .done) else (bif Nat.beq i 18 then some ([],.take 0 <| .take 1 <| .take 2 <| .take 4 <| .take 3 <| .take 5 <| .take 6 <| .done) else (bif Nat.beq i 19 then some ([9],.take 0 <| .take 1 <| .take 2 <| .take 4 <| .take 3 <| .take 5 <| .take 6 <| .take 7 <| .take 8 <| .bar 9 [] <| .done) else (none))))))) (fun i=>none) (fun i=>bif Nat.beq i 7 then some ([],268435008) else (none)) []) (by kernel_rfl) Go.Proofs.Tryz.func143 (by kernel_rfl) (fun C=>tT C c context bit h K Kp) (fun C=>by kernel_rfl) H
theorem vD {t:Option Addr} {h:Heap} {K:VK} {Kp:PK} (H:oK QP t h K Kp):QP jz #[.pointer t] h K Kp :=
 fJ (Hints.mk (fun i=>none) (fun i=>none) (fun i=>none) []) (by kernel_rfl) Go.Proofs.Tryz.func146 (by kernel_rfl) (fun C=>oK C t h K Kp) (fun C=>by kernel_rfl) H
theorem yh {d:Option Addr} {context:Int} {h:Heap} {K:VK} {Kp:PK} (H:q7 QP d context h K Kp):QP kG #[.pointer d,.int .i64 context] h K Kp :=
 fJ (Hints.mk (fun i=>bif Nat.beq i 6 then some ([9],.take 0 <| .take 1 <| .take 2 <| .take 4 <| .take 3 <| .take 5 <| .take 6 <| .take 7 <| .take 8 <| .bar 9 [] <| .done) else (bif Nat.beq i 7 then some ([],.take 0 <| .take 1 <| .take 2 <| .take 5 <| .take 3 <| .take 4 <| .take 6 <| .take 7 <| .take 8 <| .done) else (bif Nat.beq i 9 then some ([10],.take 0 <| .take 1 <| .take 2 <| .take 4 <| .take 3 <| .take 5 <| .take 6 <| .take 7 <| .take 8 <| .take 9 <| .bar 10 [] <| .done) else (bif Nat.beq i 12 then some ([],.take 0 <| .take 1 <| .take 2 <| .take 3 <| .take 5 <| .take 4 <| .take 6 <| .take 7 <| .take 8 <| .done) else (none))))) (fun i=>none) (fun i=>bif Nat.beq i 12 then some ([],9444696936942271463472) else (bif Nat.beq i 16 then some ([(8,.int .i64)],1237930594552414535608697088) else (none))) []) (by kernel_rfl) Go.Proofs.Tryz.func169 (by kernel_rfl) (fun C=>q7 C d context h K Kp) (fun C=>by kernel_rfl) H
theorem Bb {t:Option Addr} {context:Int} {h:Heap} {K:VK} {Kp:PK} (H:vj QP t context h K Kp):QP o6 #[.pointer t,.int .i64 context] h K Kp :=
 fJ (Hints.mk (fun i=>bif Nat.beq i 2 then some ([],.take 0 <| .take 1 <| .take 2 <| .take 4 <| .take 5 <| .take 6 <| .take 7 <| .take 8 <| .take 9 <| .take 10 <| .take 3 <| .take 11 <| .take 12 <| .done) else (bif Nat.beq i 3 then some ([11],.take 0 <| .take 1 <| .take 2 <| .take 3 <| .take 6 <| .take 7 <| .take 10 <| .take 4 <| .take 5 <| .take 8 <| .take 9 <| .bar 11 [] <| .done) else (none))) (fun i=>none) (fun i=>none) []) (by kernel_rfl) Go.Proofs.Tryz.func180 (by kernel_rfl) (fun C=>vj C t context h K Kp) (fun C=>by kernel_rfl) H
theorem CY {s:Option Addr} {a b c d:Int} {h:Heap} {K:VK} {Kp:PK} (H:yr QP s a b c d h K Kp):QP oN #[.pointer s,.agg #[.int .u32 a,.int .u8 b,.int .u8 c,.int .u8 d]] h K Kp :=
 fJ (Hints.mk (fun i=>bif Nat.beq i 1 then some ([10],.take 0 <| .take 1 <| .take 4 <| .take 5 <| .take 2 <| .take 3 <| .take 6 <| .take 7 <| .take 8 <| .take 9 <| .bar 10 [] <| .done) else (none)) (fun i=>none) (fun i=>none) []) (by kernel_rfl) Go.Proofs.Tryz.func181 (by kernel_rfl) (fun C=>yr C s a b c d h K Kp) (fun C=>by kernel_rfl) H
theorem Ba {s:Option Addr} {a b c d:Int} {h:Heap} {K:VK} {Kp:PK} (H:vi QP s a b c d h K Kp):QP ng #[.pointer s,.agg #[.int .u32 a,.int .u8 b,.int .u8 c,.int .u8 d]] h K Kp :=
 fJ (Hints.mk (fun i=>bif Nat.beq i 1 then some ([13],.take 0 <| .take 1 <| .take 4 <| .take 5 <| .take 9 <| .take 2 <| .take 3 <| .take 6 <| .take 7 <| .take 8 <| .take 10 <| .take 11 <| .take 12 <| .bar 13 [] <| .done) else (none)) (fun i=>none) (fun i=>none) []) (by kernel_rfl) Go.Proofs.Tryz.func182 (by kernel_rfl) (fun C=>vi C s a b c d h K Kp) (fun C=>by kernel_rfl) H
theorem yi {c:Option Addr} {h:Heap} {K:VK} {Kp:PK} (H:q8 QP c h K Kp):QP lz #[.pointer c] h K Kp :=
 fJ (Hints.mk (fun i=>none) (fun i=>bif Nat.beq i 0 then some ([],34359738364) else (none)) (fun i=>none) []) (by kernel_rfl) Go.Proofs.Tryz.func183 (by kernel_rfl) (fun C=>q8 C c h K Kp) (fun C=>by kernel_rfl) H
theorem wC {d:Option Addr} {h:Heap} {K:VK} {Kp:PK} (H:pr QP d h K Kp):QP mG #[.pointer d] h K Kp :=
 fJ (Hints.mk (fun i=>none) (fun i=>bif Nat.beq i 0 then some ([],34359738364) else (none)) (fun i=>bif Nat.beq i 2 then some ([],508) else (none)) []) (by kernel_rfl) Go.Proofs.Tryz.func195 (by kernel_rfl) (fun C=>pr C d h K Kp) (fun C=>by kernel_rfl) H
end Go.Den.YtbknfejmdekhpaaGreat
