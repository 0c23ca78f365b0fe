/- W8: put together by wip/tools/bundle.py: Mburinref14 Bburinref14 TxJ TxK TxL TxM TxN TxP TxQ TxR TxS TxT. -/
import Derived.Test.YtbknfejmdekhpaaGreatW1
import Derived.Test.YtbknfejmdekhpaaGreatW2
import Derived.Test.YtbknfejmdekhpaaGreatW3
import Derived.Test.YtbknfejmdekhpaaGreatW4
import Derived.Test.YtbknfejmdekhpaaGreatW5
import Derived.Test.YtbknfejmdekhpaaGreatW6
import Derived.Test.YtbknfejmdekhpaaGreatW7
import Derived.Test.YtbknfejmdekhpaaGreatProg
set_option linter.unusedVariables false
set_option linter.unusedSimpArgs false
set_option maxRecDepth 100000
namespace Go.Den.YtbknfejmdekhpaaGreat
open Go Go.Den
def qU (C:gl) (dX dY dZ d0 d1:Int) (d2:Bool) (d3 d4:Int) (d5:Option Addr) (c4 c5:Nat) (symbols:Option Addr) (symbolsn symbolsc:Nat) (h:Heap) (K:VK) (Kp:PK):Prop :=
gE h [.int .i64 dX,.int .i64 dY,.int .i64 dZ,.int .i64 d0,.int .i64 d1,.bool d2,.int .i64 d3,.int .i64 d4,.slice d5 c4 c5] fR fun a j=>
ldI j (.add ⟨a,0,none⟩ 0) .i64 fun c6=>
ldI j (.add ⟨a,0,none⟩ 1) .i64 fun c7=>
ldI j (.add ⟨a,0,none⟩ 2) .i64 fun c8=>
ldI j (.add ⟨a,0,none⟩ 3) .i64 fun c9=>
ldI j (.add ⟨a,0,none⟩ 4) .i64 fun da=>
ldB j (.add ⟨a,0,none⟩ 5) fun db=>
ldI j (.add ⟨a,0,none⟩ 6) .i64 fun dc=>
ldI j (.add ⟨a,0,none⟩ 7) .i64 fun dd=>
ldS j (.add ⟨a,0,none⟩ 8) fun de bv bw=>
C o0 #[.agg #[.int .i64 c6,.int .i64 c7,.int .i64 c8,.int .i64 c9,.int .i64 da,.bool db,.int .i64 dc,.int .i64 dd,.slice de bv bw],.slice symbols symbolsn symbolsc] j (fun df o=>
∃ (ad:Int),df = .int .i64 ad/\(
fI (ad != (0:Int)) (
K (.tuple #[.slice none 0 0,.int .i64 ad]) o)<|
ldI o (.add ⟨a,0,none⟩ 4) .i64 fun dg=>
ldI o (.add ⟨a,0,none⟩ 6) .i64 fun dh=>
fG (IntKind.i64.wrap ((16:Int)*dh)) fun di=>
fG (IntKind.i64.wrap (dg+di)) fun dj=>
ldI o (.add ⟨a,0,none⟩ 7) .i64 fun dk=>
fG (IntKind.i64.wrap ((32:Int)*dk)) fun dl=>
fG (IntKind.i64.wrap (dj+dl)) fun a6=>
∃ ae:List Value->Heap->Prop,(
ldB o (.add ⟨a,0,none⟩ 5) fun dm=>
fI dm (
fG (IntKind.i64.wrap (a6+(8:Int))) fun dn=>
ae [.int .i64 dn] o)<|
ae [.int .i64 a6] o)/\∀ (af:Heap) (en:Nat->Value) (a7:Int),ae [.int .i64 a7] af->(
∃ a8:List Value->Heap->Prop,(
ldI af (.add ⟨a,0,none⟩ 0) .i64 fun dp=>
fG (IntKind.u64.wrap dp) fun dq=>
C ki #[.int .u64 dq] af (fun dr ds=>
∃ (a9:Option Addr) (ak bx:Nat),dr = .slice a9 ak bx/\(
l4 ds gA 1 1 [.int .u8 0] none (0) (0) a9 (ak) fun dt bz bA du=>
a8 [.slice dt bz bA] du)) (Kp))/\∀ (ag:Heap) (eo:Nat->Value) (V:Option Addr) (F G:Nat),a8 [.slice V F G] ag->(
∃ ba:List Value->Heap->Prop,(
ldI ag (.add ⟨a,0,none⟩ 1) .i64 fun dv=>
fG (IntKind.u64.wrap dv) fun dw=>
C ki #[.int .u64 dw] ag (fun dx dy=>
∃ (bb:Option Addr) (al bB:Nat),dx = .slice bb al bB/\(
l4 dy gA 1 1 [.int .u8 0] V (F) (G) bb (al) fun dz bC bD dA=>
ba [.slice dz bC bD] dA)) (Kp))/\∀ (ah:Heap) (ep:Nat->Value) (W:Option Addr) (H I:Nat),ba [.slice W H I] ah->(
∃ bc:List Value->Heap->Prop,(
ldI ah (.add ⟨a,0,none⟩ 2) .i64 fun dB=>
fG (IntKind.u64.wrap dB) fun dC=>
C ki #[.int .u64 dC] ah (fun dD dE=>
∃ (bd:Option Addr) (am bE:Nat),dD = .slice bd am bE/\(
l4 dE gA 1 1 [.int .u8 0] W (H) (I) bd (am) fun dF bF bG dG=>
bc [.slice dF bF bG] dG)) (Kp))/\∀ (ai:Heap) (eq:Nat->Value) (X:Option Addr) (J L:Nat),bc [.slice X J L] ai->(
∃ be:List Value->Heap->Prop,(
ldI ai (.add ⟨a,0,none⟩ 3) .i64 fun dH=>
fG (IntKind.u64.wrap dH) fun dI=>
C ki #[.int .u64 dI] ai (fun dJ dK=>
∃ (bf:Option Addr) (an bH:Nat),dJ = .slice bf an bH/\(
l4 dK gA 1 1 [.int .u8 0] X (J) (L) bf (an) fun dL bI bJ dM=>
be [.slice dL bI bJ] dM)) (Kp))/\∀ (bg:Heap) (er:Nat->Value) (Y:Option Addr) (M N:Nat),be [.slice Y M N] bg->(
∃ bh:List Value->Heap->Prop,(
fG (IntKind.u8.wrap a7) fun dN=>
gE bg [.int .u8 dN] gA fun dO dP=>
l4 dP gA 1 1 [.int .u8 0] Y (M) (N) (some ⟨dO,0,none⟩) (1) fun dQ bK bL dR=>
bh [.slice dQ bK bL] dR)/\∀ (aj:Heap) (es:Nat->Value) (Z:Option Addr) (O P:Nat),bh [.slice Z O P] aj->(
∃ bi:List Value->Heap->Prop,(
ldS aj (.add ⟨a,0,none⟩ 8) fun et bM d6=>
fG (IntKind.u64.wrap (bM:Int)) fun dS=>
C ki #[.int .u64 dS] aj (fun dT dU=>
∃ (bj:Option Addr) (ao bN:Nat),dT = .slice bj ao bN/\(
l4 dU gA 1 1 [.int .u8 0] Z (O) (P) bj (ao) fun dV bO bP dW=>
bi [.slice dV bO bP] dW)) (Kp))/\∀ (bk:Heap) (eu:Nat->Value) (Q:Option Addr) (D E:Nat),bi [.slice Q D E] bk->(
∃ ap:List Value->Heap->Prop,(
C tX #[.int .i64 14337] bk (fun bQ bR=>
∃ (aq:Option Addr),bQ = .pointer aq/\(
ap [.pointer aq] bR)) (Kp))/\∀ (e:Heap) (d7:Nat->Value) (g:Option Addr),ap [.pointer g] e->(
∃ ar:List Value->Heap->Prop,(
ldI e (.add ⟨a,0,none⟩ 0) .i64 fun bS=>
ldI e (.add ⟨a,0,none⟩ 1) .i64 fun bT=>
ldI e (.add ⟨a,0,none⟩ 2) .i64 fun bU=>
ldI e (.add ⟨a,0,none⟩ 3) .i64 fun bV=>
ldI e (.add ⟨a,0,none⟩ 4) .i64 fun bW=>
ldB e (.add ⟨a,0,none⟩ 5) fun bX=>
ldI e (.add ⟨a,0,none⟩ 6) .i64 fun bY=>
ldI e (.add ⟨a,0,none⟩ 7) .i64 fun bZ=>
ldS e (.add ⟨a,0,none⟩ 8) fun b0 bl bm=>
C kF #[.agg #[.int .i64 bS,.int .i64 bT,.int .i64 bU,.int .i64 bV,.int .i64 bW,.bool bX,.int .i64 bY,.int .i64 bZ,.slice b0 bl bm]] e (fun b1 b2=>
∃ (au:Option Addr) (aa ab:Nat),b1 = .slice au aa ab/\(
ar [.slice au aa ab] b2)) (Kp))/\∀ (av:Heap) (d8:Nat->Value) (i:Option Addr) (d bn:Nat),ar [.slice i d bn] av->(
∃ aw:List Value->Heap->Prop,(
aw [.int .i64 0] av)/\∀ (ax:Heap) (d9:Nat->Value) (u:Int),aw [.int .i64 u] ax->(
∃ ay:List Value->Heap->Prop,(
ay [.int .i64 0] ax)/\∀ (az:Heap) (ea:Nat->Value) (v:Int),ay [.int .i64 v] az->(
∃ z:Nat->List Value->Heap->Prop,(∃ p,z p [.int .i64 u,.int .i64 v,.int .i64 0] az)/\∀ (p:Nat) (R:Heap) (eb:Nat->Value) (w l n:Int),z p [.int .i64 w,.int .i64 l,.int .i64 n] R->(
∃ aA:List Value->Heap->Prop,(
fI (decide (n<(d:Int))) (
aA [] R)<|
C nb #[.pointer g] R (fun b3 b4=>
∃ (aB:Option Addr) (ac bo:Nat),∃ (aC:Int),b3 = .tuple #[.slice aB ac bo,.int .i64 aC]/\(
l4 b4 gA 1 1 [.int .u8 0] Q (D) (E) aB (ac) fun b5 bp bq b6=>
K (.tuple #[.slice b5 bp bq,.int .i64 aC]) b6)) (Kp))/\∀ (A:Heap) (ec:Nat->Value) ,aA [] A->(
∃ aD:List Value->Heap->Prop,(
fW (0<=n/\n<(d:Int))<|
ptr i fun b7=>
ldI A ((b7.add (n.toNat*7)).add 1) .i64 fun b8=>
ldI A (.add ⟨a,0,none⟩ 7) .i64 fun b9=>
C lS #[.int .i64 b8,.int .i64 b9] A (fun ca cb=>
∃ (aE:Int),ca = .int .i64 aE/\(
aD [.int .i64 aE] cb)) (Kp))/\∀ (aF:Heap) (ed:Nat->Value) (q:Int),aD [.int .i64 q] aF->(
∃ aG:List Value->Heap->Prop,(
fG (IntKind.i64.wrap (q-w)) fun cc=>
C lR #[.int .i64 cc] aF (fun cd ce=>
∃ (aH:Int) (aI:Bool),cd = .agg #[.int .i64 aH,.bool aI]/\(
C jZ #[.pointer g,.int .i64 0,.agg #[.int .i64 aH,.bool aI]] ce (fun cf cg=>
∃ (ch:Int),cf = .int .i64 ch/\(
aG [] cg)) (Kp))) (Kp))/\∀ (aJ:Heap) (ee:Nat->Value) ,aG [] aJ->(
∃ aK:List Value->Heap->Prop,(
aK [.int .i64 q] aJ)/\∀ (aL:Heap) (ef:Nat->Value) (m:Int),aK [.int .i64 m] aL->(
∃ aM:List Value->Heap->Prop,(
aM [.int .i64 l] aL)/\∀ (aN:Heap) (eg:Nat->Value) (aO:Int),aM [.int .i64 aO] aN->(
∃ S:Nat->List Value->Heap->Prop,(∃ B,S B [.int .i64 l,.int .i64 n,.int .i64 aO,.int .i64 0] aN)/\∀ (B:Nat) (r:Heap) (eh:Nat->Value) (f b aP T:Int),S B [.int .i64 f,.int .i64 b,.int .i64 aP,.int .i64 T] r->(
∃ aQ:List Value->Heap->Prop,(
fI (decide (b<(d:Int))) (
fW (0<=b/\b<(d:Int))<|
ptr i fun ci=>
ldI r ((ci.add (b.toNat*7)).add 1) .i64 fun cj=>
ldI r (.add ⟨a,0,none⟩ 7) .i64 fun ck=>
C lS #[.int .i64 cj,.int .i64 ck] r (fun cl aR=>
∃ (aS:Int),cl = .int .i64 aS/\(
fI (aS == q) (
aQ [] aR)<|
C jZ #[.pointer g,.int .i64 1024,.agg #[.int .i64 0,.bool true]] aR (fun cm cn=>
∃ (co:Int),cm = .int .i64 co/\(
∃ s,s<p/\z s [.int .i64 m,.int .i64 f,.int .i64 b] cn)) (Kp))) (Kp))<|
C jZ #[.pointer g,.int .i64 1024,.agg #[.int .i64 0,.bool true]] r (fun cp cq=>
∃ (cr:Int),cp = .int .i64 cr/\(
∃ s,s<p/\z s [.int .i64 m,.int .i64 f,.int .i64 b] cq)) (Kp))/\∀ (aT:Heap) (ei:Nat->Value) ,aQ [] aT->(
∃ aU:List Value->Heap->Prop,(
∃ U:List Value->Heap->Prop,(
∃ aV:List Value->Heap->Prop,(
aV [.bool (T == (0:Int))] aT)/\∀ (t:Heap) (ej:Nat->Value) (aW:Bool),aV [.bool aW] t->(
fI aW (
fW (0<=b/\b<(d:Int))<|
ptr i fun cs=>
ldI t ((cs.add (b.toNat*7)).add 0) .i64 fun ct=>
fG (IntKind.i64.wrap (ct-f)) fun cu=>
C lR #[.int .i64 cu] t (fun cv cw=>
∃ (aX:Int) (aY:Bool),cv = .agg #[.int .i64 aX,.bool aY]/\(
C jZ #[.pointer g,.int .i64 512,.agg #[.int .i64 aX,.bool aY]] cw (fun cx aZ=>
∃ (cy:Int),cx = .int .i64 cy/\(
fW (0<=b/\b<(d:Int))<|
ptr i fun cz=>
ldI aZ ((cz.add (b.toNat*7)).add 0) .i64 fun cA=>
U [.int .i64 cA] aZ)) (Kp))) (Kp))<|
fW (0<=b/\b<(d:Int))<|
ptr i fun cB=>
ldI t ((cB.add (b.toNat*7)).add 0) .i64 fun cC=>
fG (IntKind.i64.wrap (cC-aP)) fun cD=>
C lR #[.int .i64 cD] t (fun cE cF=>
∃ (a0:Int) (a1:Bool),cE = .agg #[.int .i64 a0,.bool a1]/\(
C jZ #[.pointer g,.int .i64 1024,.agg #[.int .i64 a0,.bool a1]] cF (fun cG cH=>
∃ (cI:Int),cG = .int .i64 cI/\(
U [.int .i64 f] cH)) (Kp))) (Kp)))/\∀ (c:Heap) (ek:Nat->Value) (x:Int),U [.int .i64 x] c->(
fW (0<=b/\b<(d:Int))<|
ptr i fun cJ=>
ldI c ((cJ.add (b.toNat*7)).add 0) .i64 fun cK=>
fW (0<=b/\b<(d:Int))<|
ptr i fun k=>
ldI c (.add ⟨a,0,none⟩ 0) .i64 fun cL=>
ldI c (.add ⟨a,0,none⟩ 1) .i64 fun cM=>
ldI c (.add ⟨a,0,none⟩ 2) .i64 fun cN=>
ldI c (.add ⟨a,0,none⟩ 3) .i64 fun cO=>
ldI c (.add ⟨a,0,none⟩ 4) .i64 fun cP=>
ldB c (.add ⟨a,0,none⟩ 5) fun cQ=>
ldI c (.add ⟨a,0,none⟩ 6) .i64 fun cR=>
ldI c (.add ⟨a,0,none⟩ 7) .i64 fun cS=>
ldS c (.add ⟨a,0,none⟩ 8) fun cT br bs=>
ldI c ((k.add (b.toNat*7)).add 0) .i64 fun cU=>
ldI c ((k.add (b.toNat*7)).add 1) .i64 fun cV=>
ldI c ((k.add (b.toNat*7)).add 2) .i64 fun cW=>
ldB c ((k.add (b.toNat*7)).add 3) fun cX=>
ldI c ((k.add (b.toNat*7)).add 4) .i64 fun cY=>
ldI c ((k.add (b.toNat*7)).add 5) .i64 fun cZ=>
ldS c ((k.add (b.toNat*7)).add 6) fun c0 bt bu=>
C sJ #[.pointer g,.agg #[.int .i64 cL,.int .i64 cM,.int .i64 cN,.int .i64 cO,.int .i64 cP,.bool cQ,.int .i64 cR,.int .i64 cS,.slice cT br bs],.agg #[.int .i64 cU,.int .i64 cV,.int .i64 cW,.bool cX,.int .i64 cY,.int .i64 cZ,.slice c0 bt bu],.int .i64 q,.slice symbols symbolsn symbolsc] c (fun el c1=>
fG (IntKind.i64.wrap (b+(1:Int))) fun c2=>
aU [.int .i64 x,.int .i64 c2,.int .i64 cK] c1) (Kp)))/\∀ (a2:Heap) (em:Nat->Value) (y a3 a4:Int),aU [.int .i64 y,.int .i64 a3,.int .i64 a4] a2->(
fG (IntKind.i64.wrap (T+(1:Int))) fun c3=>
∃ a5,a5<B/\S a5 [.int .i64 y,.int .i64 a3,.int .i64 a4,.int .i64 c3] a2)))))))))))))))))))))) (Kp)
def tH (C:gl) (bI bJ bK bL bM:Int) (bN:Bool) (bO bP:Int) (bQ:Option Addr) (aQ aR:Nat) (symbols:Option Addr) (symbolsn symbolsc:Nat) (h:Heap) (K:VK) (Kp:PK):Prop :=
gE h [.int .i64 bI,.int .i64 bJ,.int .i64 bK,.int .i64 bL,.int .i64 bM,.bool bN,.int .i64 bO,.int .i64 bP,.slice bQ aQ aR] fR fun a aS=>
gE aS [.int .i64 0,.int .i64 0,.slice none 0 0] fK fun c g=>
ldI g (.add ⟨a,0,none⟩ 0) .i64 fun aT=>
ldI g (.add ⟨a,0,none⟩ 1) .i64 fun aU=>
ldI g (.add ⟨a,0,none⟩ 2) .i64 fun aV=>
ldI g (.add ⟨a,0,none⟩ 3) .i64 fun aW=>
ldI g (.add ⟨a,0,none⟩ 4) .i64 fun aX=>
ldB g (.add ⟨a,0,none⟩ 5) fun aY=>
ldI g (.add ⟨a,0,none⟩ 6) .i64 fun aZ=>
ldI g (.add ⟨a,0,none⟩ 7) .i64 fun a0=>
ldS g (.add ⟨a,0,none⟩ 8) fun a1 aa ab=>
C o0 #[.agg #[.int .i64 aT,.int .i64 aU,.int .i64 aV,.int .i64 aW,.int .i64 aX,.bool aY,.int .i64 aZ,.int .i64 a0,.slice a1 aa ab],.slice symbols symbolsn symbolsc] g (fun a2 r=>
∃ (z:Int),a2 = .int .i64 z/\(
fI (z != (0:Int)) (
stV r (.add ⟨c,0,none⟩ 0) (.int .i64 0) fun a3=>
stV a3 (.add ⟨c,0,none⟩ 1) (.int .i64 0) fun a4=>
stV a4 (.add ⟨c,0,none⟩ 2) (.slice none 0 0) fun s=>
ldI s (.add ⟨c,0,none⟩ 0) .i64 fun a5=>
ldI s (.add ⟨c,0,none⟩ 1) .i64 fun a6=>
ldS s (.add ⟨c,0,none⟩ 2) fun a7 ac ad=>
K (.tuple #[.agg #[.int .i64 a5,.int .i64 a6,.slice a7 ac ad],.int .i64 z]) s)<|
ldI r (.add ⟨a,0,none⟩ 2) .i64 fun a8=>
ldI r (.add ⟨a,0,none⟩ 3) .i64 fun a9=>
C og #[.int .i64 a8,.int .i64 a9] r (fun ba bb=>
∃ (J L:Int) (M:Option Addr) (H I:Nat),ba = .agg #[.int .i64 J,.int .i64 L,.slice M H I]/\(
gE bb [.int .i64 0,.int .i64 0,.slice none 0 0] fK fun d bc=>
stV bc (.add ⟨d,0,none⟩ 0) (.int .i64 J) fun bd=>
stV bd (.add ⟨d,0,none⟩ 1) (.int .i64 L) fun be=>
stV be (.add ⟨d,0,none⟩ 2) (.slice M H I) fun bf=>
∃ A:List Value->Heap->Prop,(
∃ B:Nat->List Value->Heap->Prop,(∃ t,B t [.int .i64 0] bf)/\∀ (t:Nat) (m:Heap) (bT:Nat->Value) (u:Int),B t [.int .i64 u] m->(
ldI m (.add ⟨a,0,none⟩ 3) .i64 fun bg=>
fI (decide (u<bg)) (
ldI m (.add ⟨a,0,none⟩ 6) .i64 fun bh=>
fI (bh == (1:Int)) (
∃ D:Nat->List Value->Heap->Prop,(∃ v,D v [.int .i64 0] m)/\∀ (v:Nat) (l:Heap) (bU:Nat->Value) (w:Int),D v [.int .i64 w] l->(
ldI l (.add ⟨a,0,none⟩ 2) .i64 fun bi=>
fI (decide (w<bi)) (
ldI l (.add ⟨d,0,none⟩ 0) .i64 fun bj=>
ldI l (.add ⟨d,0,none⟩ 1) .i64 fun bk=>
ldS l (.add ⟨d,0,none⟩ 2) fun bl ae af=>
C pW #[.agg #[.int .i64 bj,.int .i64 bk,.slice bl ae af],.int .i64 w,.int .i64 u,.int .i64 1] l (fun bV bm=>
fG (IntKind.i64.wrap (w+(1:Int))) fun bn=>
∃ N,N<v/\D N [.int .i64 bn] bm) (Kp))<|
fG (IntKind.i64.wrap (u+(1:Int))) fun bo=>
∃ O,O<t/\B O [.int .i64 bo] l))<|
A [] m)<|
A [] m))/\∀ (e:Heap) (bW:Nat->Value) ,A [] e->(
ldI e (.add ⟨a,0,none⟩ 0) .i64 fun bp=>
ldI e (.add ⟨a,0,none⟩ 1) .i64 fun bq=>
ldI e (.add ⟨a,0,none⟩ 2) .i64 fun br=>
ldI e (.add ⟨a,0,none⟩ 3) .i64 fun bs=>
ldI e (.add ⟨a,0,none⟩ 4) .i64 fun bt=>
ldB e (.add ⟨a,0,none⟩ 5) fun bu=>
ldI e (.add ⟨a,0,none⟩ 6) .i64 fun bv=>
ldI e (.add ⟨a,0,none⟩ 7) .i64 fun bw=>
ldS e (.add ⟨a,0,none⟩ 8) fun bx ag ah=>
C kF #[.agg #[.int .i64 bp,.int .i64 bq,.int .i64 br,.int .i64 bs,.int .i64 bt,.bool bu,.int .i64 bv,.int .i64 bw,.slice bx ag ah]] e (fun bz bA=>
∃ (n:Option Addr) (j ai:Nat),bz = .slice n j ai/\(
∃ E:Nat->List Value->Heap->Prop,(∃ x,E x [.int .i64 0] bA)/\∀ (x:Nat) (i:Heap) (bX:Nat->Value) (b:Int),E x [.int .i64 b] i->(
fI (decide (b<(j:Int))) (
fW (0<=b/\b<(j:Int))<|
ptr n fun bB=>
ldI i ((bB.add (b.toNat*7)).add 2) .i64 fun q=>
fW (0<=q/\q<(symbolsn:Int))<|
ptr symbols fun F=>
ldI i ((F.add (q.toNat*3)).add 0) .i64 fun bC=>
ldI i ((F.add (q.toNat*3)).add 1) .i64 fun bD=>
ldS i ((F.add (q.toNat*3)).add 2) fun bE aj ak=>
gE i [.int .i64 0,.int .i64 0,.slice none 0 0] fK fun k bF=>
stV bF (.add ⟨k,0,none⟩ 0) (.int .i64 bC) fun bG=>
stV bG (.add ⟨k,0,none⟩ 1) (.int .i64 bD) fun bH=>
stV bH (.add ⟨k,0,none⟩ 2) (.slice bE aj ak) fun o=>
∃ G:List Value->Heap->Prop,(
fW (0<=b/\b<(j:Int))<|
ptr n fun al=>
ldB o ((al.add (b.toNat*7)).add 3) fun am=>
fI am (
fW (0<=b/\b<(j:Int))<|
ptr n fun y=>
ldI o (((y.add (b.toNat*7)).add 4).add 0) .i64 fun an=>
ldI o (((y.add (b.toNat*7)).add 4).add 1) .i64 fun ao=>
ldS o (((y.add (b.toNat*7)).add 4).add 2) fun ap P Q=>
stV o (.add ⟨k,0,none⟩ 0) (.int .i64 an) fun aq=>
stV aq (.add ⟨k,0,none⟩ 1) (.int .i64 ao) fun ar=>
stV ar (.add ⟨k,0,none⟩ 2) (.slice ap P Q) fun au=>
G [] au)<|
G [] o)/\∀ (f:Heap) (bR:Nat->Value) ,G [] f->(
fW (0<=b/\b<(j:Int))<|
ptr n fun av=>
fW (0<=b/\b<(j:Int))<|
ptr n fun aw=>
ldI f (.add ⟨d,0,none⟩ 0) .i64 fun ax=>
ldI f (.add ⟨d,0,none⟩ 1) .i64 fun ay=>
ldS f (.add ⟨d,0,none⟩ 2) fun az R S=>
ldI f ((av.add (b.toNat*7)).add 0) .i64 fun aA=>
ldI f ((aw.add (b.toNat*7)).add 1) .i64 fun aB=>
ldI f (.add ⟨a,0,none⟩ 4) .i64 fun aC=>
ldI f (.add ⟨k,0,none⟩ 0) .i64 fun aD=>
ldI f (.add ⟨k,0,none⟩ 1) .i64 fun aE=>
ldS f (.add ⟨k,0,none⟩ 2) fun aF T U=>
C tY #[.agg #[.int .i64 ax,.int .i64 ay,.slice az R S],.int .i64 aA,.int .i64 aB,.int .i64 aC,.agg #[.int .i64 aD,.int .i64 aE,.slice aF T U]] f (fun bS aG=>
fG (IntKind.i64.wrap (b+(1:Int))) fun aH=>
∃ V,V<x/\E V [.int .i64 aH] aG) (Kp)))<|
ldI i (.add ⟨d,0,none⟩ 0) .i64 fun aI=>
ldI i (.add ⟨d,0,none⟩ 1) .i64 fun aJ=>
ldS i (.add ⟨d,0,none⟩ 2) fun aK W X=>
stV i (.add ⟨c,0,none⟩ 0) (.int .i64 aI) fun aL=>
stV aL (.add ⟨c,0,none⟩ 1) (.int .i64 aJ) fun aM=>
stV aM (.add ⟨c,0,none⟩ 2) (.slice aK W X) fun p=>
ldI p (.add ⟨c,0,none⟩ 0) .i64 fun aN=>
ldI p (.add ⟨c,0,none⟩ 1) .i64 fun aO=>
ldS p (.add ⟨c,0,none⟩ 2) fun aP Y Z=>
K (.tuple #[.agg #[.int .i64 aN,.int .i64 aO,.slice aP Y Z],.int .i64 0]) p))) (Kp)))) (Kp))) (Kp)
def qR (C:gl) (bq br bs bt bu:Int) (bv:Bool) (bw bx:Int) (bz:Option Addr) (ap aq:Nat) (h:Heap) (K:VK) (Kp:PK):Prop :=
gE h [.int .i64 bq,.int .i64 br,.int .i64 bs,.int .i64 bt,.int .i64 bu,.bool bv,.int .i64 bw,.int .i64 bx,.slice bz ap aq] fR fun i y=>
ldI y (.add ⟨i,0,none⟩ 7) .i64 fun D=>
∃ z:List Value->Heap->Prop,(
fI (decide (D<(0:Int))) (
z [.int .i64 0] y)<|
fI (decide (D > (3:Int))) (
z [.int .i64 0] y)<|
z [.int .i64 D] y)/\∀ (f:Heap) (bA:Nat->Value) (u:Int),z [.int .i64 u] f->(
ldI f (.add ⟨i,0,none⟩ 0) .i64 fun ar=>
ldI f (.add ⟨i,0,none⟩ 1) .i64 fun au=>
ldI f (.add ⟨i,0,none⟩ 2) .i64 fun av=>
ldI f (.add ⟨i,0,none⟩ 3) .i64 fun aw=>
ldI f (.add ⟨i,0,none⟩ 4) .i64 fun ax=>
ldB f (.add ⟨i,0,none⟩ 5) fun ay=>
ldI f (.add ⟨i,0,none⟩ 6) .i64 fun az=>
ldI f (.add ⟨i,0,none⟩ 7) .i64 fun aA=>
ldS f (.add ⟨i,0,none⟩ 8) fun aB M N=>
C mS #[.agg #[.int .i64 ar,.int .i64 au,.int .i64 av,.int .i64 aw,.int .i64 ax,.bool ay,.int .i64 az,.int .i64 aA,.slice aB M N]] f (fun aC aD=>
∃ (aE aF aG aH aI:Int) (aJ:Bool) (aK aL:Int) (n:Option Addr) (d G:Nat),aC = .agg #[.int .i64 aE,.int .i64 aF,.int .i64 aG,.int .i64 aH,.int .i64 aI,.bool aJ,.int .i64 aK,.int .i64 aL,.slice n d G]/\(
∃ A:Nat->List Value->Heap->Prop,(∃ v,A v [.int .i64 1] aD)/\∀ (v:Nat) (E:Heap) (bB:Nat->Value) (w:Int),A v [.int .i64 w] E->(
fI (decide (w<(d:Int))) (
∃ F:Nat->List Value->Heap->Prop,(∃ B,F B [.int .i64 w] E)/\∀ (B:Nat) (b:Heap) (bC:Nat->Value) (a:Int),F B [.int .i64 a] b->(
fI (decide (a > (0:Int))) (
fW (0<=a/\a<(d:Int))<|
ptr n fun p=>
fG (IntKind.i64.wrap (a-(1:Int))) fun j=>
fW (0<=j/\j<(d:Int))<|
ptr n fun q=>
ldI b ((p.add (a.toNat*7)).add 0) .i64 fun aM=>
ldI b ((p.add (a.toNat*7)).add 1) .i64 fun aN=>
ldI b ((p.add (a.toNat*7)).add 2) .i64 fun aO=>
ldB b ((p.add (a.toNat*7)).add 3) fun aP=>
ldI b ((p.add (a.toNat*7)).add 4) .i64 fun aQ=>
ldI b ((p.add (a.toNat*7)).add 5) .i64 fun aR=>
ldS b ((p.add (a.toNat*7)).add 6) fun aS O P=>
ldI b ((q.add (j.toNat*7)).add 0) .i64 fun aT=>
ldI b ((q.add (j.toNat*7)).add 1) .i64 fun aU=>
ldI b ((q.add (j.toNat*7)).add 2) .i64 fun aV=>
ldB b ((q.add (j.toNat*7)).add 3) fun aW=>
ldI b ((q.add (j.toNat*7)).add 4) .i64 fun aX=>
ldI b ((q.add (j.toNat*7)).add 5) .i64 fun aY=>
ldS b ((q.add (j.toNat*7)).add 6) fun aZ Q R=>
C rv #[.agg #[.int .i64 aM,.int .i64 aN,.int .i64 aO,.bool aP,.int .i64 aQ,.int .i64 aR,.slice aS O P],.agg #[.int .i64 aT,.int .i64 aU,.int .i64 aV,.bool aW,.int .i64 aX,.int .i64 aY,.slice aZ Q R],.int .i64 u] b (fun a0 k=>
∃ (H:Bool),a0 = .bool H/\(
fI H (
fW (0<=a/\a<(d:Int))<|
ptr n fun r=>
ldI k ((r.add (a.toNat*7)).add 0) .i64 fun a1=>
ldI k ((r.add (a.toNat*7)).add 1) .i64 fun a2=>
ldI k ((r.add (a.toNat*7)).add 2) .i64 fun a3=>
ldB k ((r.add (a.toNat*7)).add 3) fun a4=>
ldI k ((r.add (a.toNat*7)).add 4) .i64 fun a5=>
ldI k ((r.add (a.toNat*7)).add 5) .i64 fun a6=>
ldS k ((r.add (a.toNat*7)).add 6) fun a7 S T=>
gE k [.int .i64 0,.int .i64 0,.int .i64 0,.bool false,.int .i64 0,.int .i64 0,.slice none 0 0] fM fun c a8=>
stV a8 (.add ⟨c,0,none⟩ 0) (.int .i64 a1) fun a9=>
stV a9 (.add ⟨c,0,none⟩ 1) (.int .i64 a2) fun ba=>
stV ba (.add ⟨c,0,none⟩ 2) (.int .i64 a3) fun bb=>
stV bb (.add ⟨c,0,none⟩ 3) (.bool a4) fun bc=>
stV bc (.add ⟨c,0,none⟩ 4) (.int .i64 a5) fun bd=>
stV bd (.add ⟨c,0,none⟩ 5) (.int .i64 a6) fun be=>
stV be (.add ⟨c,0,none⟩ 6) (.slice a7 S T) fun o=>
fG (IntKind.i64.wrap (a-(1:Int))) fun l=>
fW (0<=l/\l<(d:Int))<|
ptr n fun s=>
ldI o ((s.add (l.toNat*7)).add 0) .i64 fun bf=>
ldI o ((s.add (l.toNat*7)).add 1) .i64 fun bg=>
ldI o ((s.add (l.toNat*7)).add 2) .i64 fun bh=>
ldB o ((s.add (l.toNat*7)).add 3) fun bi=>
ldI o ((s.add (l.toNat*7)).add 4) .i64 fun bj=>
ldI o ((s.add (l.toNat*7)).add 5) .i64 fun bk=>
ldS o ((s.add (l.toNat*7)).add 6) fun bl U V=>
fW (0<=a/\a<(d:Int))<|
ptr n fun t=>
stV o ((t.add (a.toNat*7)).add 0) (.int .i64 bf) fun bm=>
stV bm ((t.add (a.toNat*7)).add 1) (.int .i64 bg) fun bn=>
stV bn ((t.add (a.toNat*7)).add 2) (.int .i64 bh) fun bo=>
stV bo ((t.add (a.toNat*7)).add 3) (.bool bi) fun bp=>
stV bp ((t.add (a.toNat*7)).add 4) (.int .i64 bj) fun W=>
stV W ((t.add (a.toNat*7)).add 5) (.int .i64 bk) fun X=>
stV X ((t.add (a.toNat*7)).add 6) (.slice bl U V) fun g=>
fG (IntKind.i64.wrap (a-(1:Int))) fun e=>
ldI g (.add ⟨c,0,none⟩ 0) .i64 fun Y=>
ldI g (.add ⟨c,0,none⟩ 1) .i64 fun Z=>
ldI g (.add ⟨c,0,none⟩ 2) .i64 fun aa=>
ldB g (.add ⟨c,0,none⟩ 3) fun ab=>
ldI g (.add ⟨c,0,none⟩ 4) .i64 fun ac=>
ldI g (.add ⟨c,0,none⟩ 5) .i64 fun ad=>
ldS g (.add ⟨c,0,none⟩ 6) fun ae I J=>
fW (0<=e/\e<(d:Int))<|
ptr n fun m=>
stV g ((m.add (e.toNat*7)).add 0) (.int .i64 Y) fun af=>
stV af ((m.add (e.toNat*7)).add 1) (.int .i64 Z) fun ag=>
stV ag ((m.add (e.toNat*7)).add 2) (.int .i64 aa) fun ah=>
stV ah ((m.add (e.toNat*7)).add 3) (.bool ab) fun ai=>
stV ai ((m.add (e.toNat*7)).add 4) (.int .i64 ac) fun aj=>
stV aj ((m.add (e.toNat*7)).add 5) (.int .i64 ad) fun ak=>
stV ak ((m.add (e.toNat*7)).add 6) (.slice ae I J) fun al=>
fG (IntKind.i64.wrap (a-(1:Int))) fun am=>
∃ L,L<B/\F L [.int .i64 am] al)<|
fG (IntKind.i64.wrap (w+(1:Int))) fun an=>
∃ x,x<v/\A x [.int .i64 an] k)) (Kp))<|
fG (IntKind.i64.wrap (w+(1:Int))) fun ao=>
∃ x,x<v/\A x [.int .i64 ao] b))<|
K (.slice n d G) E))) (Kp))
def va (C:gl) (au av aw ax ay:Int) (az:Bool) (aA aB:Int) (aC:Option Addr) (y z:Nat) (symbols:Option Addr) (symbolsn symbolsc:Nat) (h:Heap) (K:VK) (Kp:PK):Prop :=
gE h [.int .i64 au,.int .i64 av,.int .i64 aw,.int .i64 ax,.int .i64 ay,.bool az,.int .i64 aA,.int .i64 aB,.slice aC y z] fR fun a A=>
C pv #[.slice symbols symbolsn symbolsc] A (fun B i=>
∃ (l:Bool),B = .bool l/\(
fI (!l) (
K (.int .i64 140) i)<|
ldI i (.add ⟨a,0,none⟩ 2) .i64 fun D=>
ldI i (.add ⟨a,0,none⟩ 3) .i64 fun E=>
C nc #[.int .i64 D,.int .i64 E] i (fun F c=>
∃ (m:Bool),F = .bool m/\(
fI (!m) (
K (.int .i64 140) c)<|
ldI c (.add ⟨a,0,none⟩ 0) .i64 fun G=>
fI (decide (G<(0:Int))) (
K (.int .i64 140) c)<|
ldI c (.add ⟨a,0,none⟩ 1) .i64 fun H=>
fI (decide (H<(0:Int))) (
K (.int .i64 140) c)<|
ldI c (.add ⟨a,0,none⟩ 0) .i64 fun I=>
fI (decide (I > (1048576:Int))) (
K (.int .i64 140) c)<|
ldI c (.add ⟨a,0,none⟩ 1) .i64 fun J=>
fI (decide (J > (1048576:Int))) (
K (.int .i64 140) c)<|
ldI c (.add ⟨a,0,none⟩ 4) .i64 fun L=>
fI (decide (L<(0:Int))) (
K (.int .i64 140) c)<|
ldI c (.add ⟨a,0,none⟩ 4) .i64 fun M=>
fI (decide (M > (4:Int))) (
K (.int .i64 140) c)<|
ldI c (.add ⟨a,0,none⟩ 6) .i64 fun N=>
fI (decide (N<(0:Int))) (
K (.int .i64 140) c)<|
ldI c (.add ⟨a,0,none⟩ 6) .i64 fun O=>
fI (decide (O > (1:Int))) (
K (.int .i64 140) c)<|
ldI c (.add ⟨a,0,none⟩ 7) .i64 fun P=>
fI (decide (P<(0:Int))) (
K (.int .i64 140) c)<|
ldI c (.add ⟨a,0,none⟩ 7) .i64 fun Q=>
fI (decide (Q > (3:Int))) (
K (.int .i64 140) c)<|
∃ k:Nat->List Value->Heap->Prop,(∃ j,k j [.int .i64 0,.int .i64 0] c)/\∀ (j:Nat) (b:Heap) (aI:Nat->Value) (f d:Int),k j [.int .i64 f,.int .i64 d] b->(
ldS b (.add ⟨a,0,none⟩ 8) fun aJ p aD=>
fI (decide (d<(p:Int))) (
ldI b (.add ⟨a,0,none⟩ 0) .i64 fun R=>
ldI b (.add ⟨a,0,none⟩ 1) .i64 fun S=>
ldI b (.add ⟨a,0,none⟩ 2) .i64 fun T=>
ldI b (.add ⟨a,0,none⟩ 3) .i64 fun U=>
ldI b (.add ⟨a,0,none⟩ 4) .i64 fun V=>
ldB b (.add ⟨a,0,none⟩ 5) fun W=>
ldI b (.add ⟨a,0,none⟩ 6) .i64 fun X=>
ldI b (.add ⟨a,0,none⟩ 7) .i64 fun Y=>
ldS b (.add ⟨a,0,none⟩ 8) fun Z q r=>
ldS b (.add ⟨a,0,none⟩ 8) fun aa s aE=>
fW (0<=d/\d<(s:Int))<|
ptr aa fun e=>
ldI b ((e.add (d.toNat*7)).add 0) .i64 fun ab=>
ldI b ((e.add (d.toNat*7)).add 1) .i64 fun ac=>
ldI b ((e.add (d.toNat*7)).add 2) .i64 fun ad=>
ldB b ((e.add (d.toNat*7)).add 3) fun ae=>
ldI b ((e.add (d.toNat*7)).add 4) .i64 fun af=>
ldI b ((e.add (d.toNat*7)).add 5) .i64 fun ag=>
ldS b ((e.add (d.toNat*7)).add 6) fun ah t u=>
C mY #[.agg #[.int .i64 R,.int .i64 S,.int .i64 T,.int .i64 U,.int .i64 V,.bool W,.int .i64 X,.int .i64 Y,.slice Z q r],.agg #[.int .i64 ab,.int .i64 ac,.int .i64 ad,.bool ae,.int .i64 af,.int .i64 ag,.slice ah t u],.slice symbols symbolsn symbolsc] b (fun ai g=>
∃ (n:Bool),ai = .bool n/\(
fI (!n) (
K (.int .i64 140) g)<|
ldS g (.add ⟨a,0,none⟩ 8) fun aj v aF=>
fW (0<=d/\d<(v:Int))<|
ptr aj fun ak=>
ldI g (((ak.add (d.toNat*7)).add 4).add 0) .i64 fun al=>
ldS g (.add ⟨a,0,none⟩ 8) fun am w aG=>
fW (0<=d/\d<(w:Int))<|
ptr am fun an=>
ldI g (((an.add (d.toNat*7)).add 4).add 1) .i64 fun ao=>
fG (IntKind.i64.wrap (al*ao)) fun ap=>
fG (IntKind.i64.wrap (f+ap)) fun aq=>
fG (IntKind.i64.wrap (d+(1:Int))) fun ar=>
∃ o,o<j/\k o [.int .i64 aq,.int .i64 ar] g)) (Kp))<|
fI (decide ((symbolsn:Int) > (4096:Int))) (
K (.int .i64 120) b)<|
ldS b (.add ⟨a,0,none⟩ 8) fun aK x aH=>
fI (decide ((x:Int) > (16384:Int))) (
K (.int .i64 120) b)<|
fI (decide (f > (1048576:Int))) (
K (.int .i64 120) b)<|
K (.int .i64 0) b))) (Kp))) (Kp)
def si (C:gl) (y strip:Int) (h:Heap) (K:VK) (Kp:PK):Prop :=
fG (IntKind.u64.wrap strip) fun a=>
fW (0<=a)<|
fG (l8 .i64 y a) fun b=>
K (.int .i64 b) h
def sf (C:gl) (n:Int) (h:Heap) (K:VK) (Kp:PK):Prop :=
gE h [.int .i64 0,.bool false] iz fun a c=>
stV c (.add ⟨a,0,none⟩ 0) (.int .i64 n) fun d=>
stV d (.add ⟨a,0,none⟩ 1) (.bool false) fun b=>
ldI b (.add ⟨a,0,none⟩ 0) .i64 fun e=>
ldB b (.add ⟨a,0,none⟩ 1) fun f=>
K (.agg #[.int .i64 e,.bool f]) b
def u9 (C:gl) (c:Option Addr) (am an ao ap aq:Int) (ar:Bool) (au av:Int) (aw:Option Addr) (w x:Nat) (y z A:Int) (B:Bool) (D E:Int) (F:Option Addr) (q r:Nat) (strip:Int) (symbols:Option Addr) (symbolsn symbolsc:Nat) (h:Heap) (K:VK) (Kp:PK):Prop :=
gE h [.int .i64 am,.int .i64 an,.int .i64 ao,.int .i64 ap,.int .i64 aq,.bool ar,.int .i64 au,.int .i64 av,.slice aw w x] fR fun i G=>
gE G [.int .i64 y,.int .i64 z,.int .i64 A,.bool B,.int .i64 D,.int .i64 E,.slice F q r] fM fun b d=>
∃ j:List Value->Heap->Prop,(
ldI d (.add ⟨i,0,none⟩ 7) .i64 fun H=>
fI (decide (H > (0:Int))) (
ldI d (.add ⟨b,0,none⟩ 1) .i64 fun I=>
ldI d (.add ⟨i,0,none⟩ 7) .i64 fun J=>
fG (IntKind.u64.wrap J) fun l=>
fW (0<=l)<|
fG (lT .i64 strip l) fun L=>
fG (IntKind.i64.wrap (I-L)) fun M=>
C lR #[.int .i64 M] d (fun N O=>
∃ (m:Int) (n:Bool),N = .agg #[.int .i64 m,.bool n]/\(
C jZ #[.pointer c,.int .i64 1536,.agg #[.int .i64 m,.bool n]] O (fun P Q=>
∃ (R:Int),P = .int .i64 R/\(
j [] Q)) (Kp))) (Kp))<|
j [] d)/\∀ (g:Heap) (ax:Nat->Value) ,j [] g->(
ldI g (.add ⟨b,0,none⟩ 2) .i64 fun S=>
C qe #[.int .i64 (symbolsn:Int)] g (fun T o=>
∃ (p:Int),T = .int .i64 p/\(
gi g o/\(
C od #[.pointer c,.int .i64 2048,.int .i64 p,.int .i64 S] o (fun U e=>
∃ (V:Int),U = .int .i64 V/\(
ldB e (.add ⟨i,0,none⟩ 5) fun W=>
fI (!W) (
K (.tuple #[]) e)<|
ldB e (.add ⟨b,0,none⟩ 3) fun X=>
fI (!X) (
C jG #[.pointer c,.int .i64 6144,.int .i64 0] e (fun Y Z=>
∃ (aa:Int),Y = .int .i64 aa/\(
K (.tuple #[]) Z)) (Kp))<|
C jG #[.pointer c,.int .i64 6144,.int .i64 1] e (fun ab a=>
∃ (ac:Int),ab = .int .i64 ac/\(
ldI a (((⟨b,0,none⟩:Addr).add 4).add 0) .i64 fun ad=>
ldI a (((⟨b,0,none⟩:Addr).add 4).add 1) .i64 fun ae=>
ldS a (((⟨b,0,none⟩:Addr).add 4).add 2) fun af s t=>
ldI a (.add ⟨b,0,none⟩ 2) .i64 fun f=>
fW (0<=f/\f<(symbolsn:Int))<|
ptr symbols fun k=>
ldI a ((k.add (f.toNat*3)).add 0) .i64 fun ag=>
ldI a ((k.add (f.toNat*3)).add 1) .i64 fun ah=>
ldS a ((k.add (f.toNat*3)).add 2) fun ai u v=>
C pV #[.pointer c,.int .i64 6145,.agg #[.int .i64 ad,.int .i64 ae,.slice af s t],.agg #[.int .i64 ag,.int .i64 ah,.slice ai u v],.int .i64 0,.int .i64 0] a (fun aj ak=>
∃ (al:Int),aj = .int .i64 al/\(
K (.tuple #[]) ak)) (Kp))) (Kp))) (Kp)))) (Kp))
def tG (C:gl) (D E F:Int) (G:Bool) (H I:Int) (J:Option Addr) (k l:Nat) (L M m:Int) (n:Bool) (o p:Int) (q:Option Addr) (i j:Nat) (strip:Int) (h:Heap) (K:VK) (Kp:PK):Prop :=
gE h [.int .i64 D,.int .i64 E,.int .i64 F,.bool G,.int .i64 H,.int .i64 I,.slice J k l] fM fun b r=>
gE r [.int .i64 L,.int .i64 M,.int .i64 m,.bool n,.int .i64 o,.int .i64 p,.slice q i j] fM fun c f=>
ldI f (.add ⟨b,0,none⟩ 1) .i64 fun s=>
C lS #[.int .i64 s,.int .i64 strip] f (fun t g=>
∃ (d:Int),t = .int .i64 d/\(
ldI g (.add ⟨c,0,none⟩ 1) .i64 fun u=>
C lS #[.int .i64 u,.int .i64 strip] g (fun v a=>
∃ (e:Int),v = .int .i64 e/\(
fI (d != e) (
K (.bool (decide (d<e))) a)<|
ldI a (.add ⟨b,0,none⟩ 0) .i64 fun w=>
ldI a (.add ⟨c,0,none⟩ 0) .i64 fun x=>
fI (w != x) (
ldI a (.add ⟨b,0,none⟩ 0) .i64 fun y=>
ldI a (.add ⟨c,0,none⟩ 0) .i64 fun z=>
K (.bool (decide (y<z))) a)<|
ldI a (.add ⟨b,0,none⟩ 1) .i64 fun A=>
ldI a (.add ⟨c,0,none⟩ 1) .i64 fun B=>
K (.bool (decide (A<B))) a)) (Kp))) (Kp)
def qQ (C:gl) (l:Option Addr) (ln lc:Nat) (h:Heap) (K:VK) (Kp:PK):Prop :=
∃ d:Nat->List Value->Heap->Prop,(∃ c,d c [.int .i64 0] h)/\∀ (c:Nat) (b:Heap) (r:Nat->Value) (a:Int),d c [.int .i64 a] b->(
fI (decide (a<(ln:Int))) (
fW (0<=a/\a<(ln:Int))<|
ptr l fun e=>
ldI b ((e.add (a.toNat*3)).add 0) .i64 fun p=>
ldI b ((e.add (a.toNat*3)).add 1) .i64 fun q=>
ldS b ((e.add (a.toNat*3)).add 2) fun m i j=>
C nQ #[.agg #[.int .i64 p,.int .i64 q,.slice m i j]] b (fun n f=>
∃ (g:Bool),n = .bool g/\(
fI (!g) (
K (.bool false) f)<|
fG (IntKind.i64.wrap (a+(1:Int))) fun o=>
∃ k,k<c/\d k [.int .i64 o] f)) (Kp))<|
K (.bool true) b)
def nA (C:gl) (au av aw ax ay:Int) (az:Bool) (aA aB:Int) (aC:Option Addr) (z A:Nat) (B D E:Int) (F:Bool) (G H:Int) (I:Option Addr) (o p:Nat) (symbols:Option Addr) (symbolsn symbolsc:Nat) (h:Heap) (K:VK) (Kp:PK):Prop :=
gE h [.int .i64 au,.int .i64 av,.int .i64 aw,.int .i64 ax,.int .i64 ay,.bool az,.int .i64 aA,.int .i64 aB,.slice aC z A] fR fun J L=>
gE L [.int .i64 B,.int .i64 D,.int .i64 E,.bool F,.int .i64 G,.int .i64 H,.slice I o p] fM fun a e=>
ldI e (.add ⟨a,0,none⟩ 2) .i64 fun M=>
fI (decide (M<(0:Int))) (
K (.bool false) e)<|
ldI e (.add ⟨a,0,none⟩ 2) .i64 fun N=>
fI (decide (N≥(symbolsn:Int))) (
K (.bool false) e)<|
ldI e (.add ⟨a,0,none⟩ 0) .i64 fun O=>
C oe #[.int .i64 O] e (fun P i=>
∃ (k:Bool),P = .bool k/\(
fI (!k) (
K (.bool false) i)<|
ldI i (.add ⟨a,0,none⟩ 1) .i64 fun Q=>
C oe #[.int .i64 Q] i (fun R c=>
∃ (l:Bool),R = .bool l/\(
fI (!l) (
K (.bool false) c)<|
ldB c (.add ⟨a,0,none⟩ 3) fun S=>
fI (!S) (
ldI c (((⟨a,0,none⟩:Addr).add 4).add 0) .i64 fun T=>
fI (T == (0:Int)) (
ldI c (((⟨a,0,none⟩:Addr).add 4).add 1) .i64 fun U=>
fI (U == (0:Int)) (
ldS c (((⟨a,0,none⟩:Addr).add 4).add 2) fun aE q aD=>
K (.bool ((q:Int) == (0:Int))) c)<|
K (.bool false) c)<|
K (.bool false) c)<|
ldI c (.add ⟨a,0,none⟩ 2) .i64 fun g=>
fW (0<=g/\g<(symbolsn:Int))<|
ptr symbols fun j=>
ldI c ((j.add (g.toNat*3)).add 0) .i64 fun V=>
ldI c ((j.add (g.toNat*3)).add 1) .i64 fun W=>
ldS c ((j.add (g.toNat*3)).add 2) fun X r s=>
gE c [.int .i64 0,.int .i64 0,.slice none 0 0] fK fun d Y=>
stV Y (.add ⟨d,0,none⟩ 0) (.int .i64 V) fun Z=>
stV Z (.add ⟨d,0,none⟩ 1) (.int .i64 W) fun aa=>
stV aa (.add ⟨d,0,none⟩ 2) (.slice X r s) fun f=>
ldB f (.add ⟨J,0,none⟩ 5) fun ab=>
fI ab (
ldI f (((⟨a,0,none⟩:Addr).add 4).add 0) .i64 fun ac=>
ldI f (((⟨a,0,none⟩:Addr).add 4).add 1) .i64 fun ad=>
ldS f (((⟨a,0,none⟩:Addr).add 4).add 2) fun ae t u=>
C nQ #[.agg #[.int .i64 ac,.int .i64 ad,.slice ae t u]] f (fun af b=>
∃ (m:Bool),af = .bool m/\(
fI m (
ldI b (((⟨a,0,none⟩:Addr).add 4).add 0) .i64 fun ag=>
ldI b (.add ⟨d,0,none⟩ 0) .i64 fun ah=>
fI (ag == ah) (
ldI b (((⟨a,0,none⟩:Addr).add 4).add 1) .i64 fun ai=>
ldI b (.add ⟨d,0,none⟩ 1) .i64 fun aj=>
fI (ai == aj) (
ldI b (((⟨a,0,none⟩:Addr).add 4).add 0) .i64 fun ak=>
ldI b (((⟨a,0,none⟩:Addr).add 4).add 1) .i64 fun al=>
ldS b (((⟨a,0,none⟩:Addr).add 4).add 2) fun am v w=>
ldI b (.add ⟨d,0,none⟩ 0) .i64 fun an=>
ldI b (.add ⟨d,0,none⟩ 1) .i64 fun ao=>
ldS b (.add ⟨d,0,none⟩ 2) fun ap x y=>
C jy #[.agg #[.int .i64 ak,.int .i64 al,.slice am v w],.agg #[.int .i64 an,.int .i64 ao,.slice ap x y]] b (fun aq ar=>
∃ (n:Bool),aq = .bool n/\(
K (.bool (!n)) ar)) (Kp))<|
K (.bool false) b)<|
K (.bool false) b)<|
K (.bool false) b)) (Kp))<|
K (.bool false) f)) (Kp))) (Kp)
def sj (C:gl) (n:Int) (h:Heap) (K:VK) (Kp:PK):Prop :=
∃ c:Nat->List Value->Heap->Prop,(∃ a,c a [.int .i64 0] h)/\∀ (a:Nat) (d:Heap) (j:Nat->Value) (b:Int),c a [.int .i64 b] d->(
fG (IntKind.u64.wrap b) fun e=>
fW (0<=e)<|
fG (lT .i64 (1:Int) e) fun g=>
fI (decide (g<n)) (
fG (IntKind.i64.wrap (b+(1:Int))) fun i=>
∃ f,f<a/\c f [.int .i64 i] d)<|
K (.int .i64 b) d)
def tF (C:gl) (n:Int) (h:Heap) (K:VK) (Kp:PK):Prop :=
fI (decide (n≥(-1048576:Int))) (
K (.bool (decide (n<=(1048576:Int)))) h)<|
K (.bool false) h
theorem ya {c d e f g:Int} {j:Bool} {k l:Int} {m:Option Addr} {a b:Nat} {symbols:Option Addr} {symbolsn symbolsc:Nat} {h:Heap} {K:VK} {Kp:PK} (H:qU QP c d e f g j k l m a b symbols symbolsn symbolsc h K Kp):QP px #[.agg #[.int .i64 c,.int .i64 d,.int .i64 e,.int .i64 f,.int .i64 g,.bool j,.int .i64 k,.int .i64 l,.slice m a b],.slice symbols symbolsn symbolsc] h K Kp :=
 fJ (Hints.mk (fun i=>bif Nat.beq i 20 then some ([7],.take 0 <| .take 1 <| .take 2 <| .take 3 <| .take 5 <| .take 4 <| .take 6 <| .bar 7 [] <| .take 8 <| .done) else (bif Nat.beq i 25 then some ([12],.take 0 <| .take 1 <| .take 2 <| .take 3 <| .take 4 <| .take 5 <| .take 6 <| .take 7 <| .take 8 <| .take 10 <| .take 13 <| .take 9 <| .take 11 <| .bar 12 [] <| .take 14 <| .take 15 <| .done) else (bif Nat.beq i 32 then some ([8],.take 0 <| .take 2 <| .take 3 <| .take 4 <| .take 6 <| .take 7 <| .take 1 <| .take 5 <| .bar 8 [] <| .done) else (none)))) (fun i=>bif Nat.beq i 19 then some ([(11,.int .i64),(12,.int .i64),(13,.int .i64)],2923003274661805836407369514316838587483218376704) else (bif Nat.beq i 25 then some ([(12,.int .i64),(13,.int .i64),(15,.int .i64),(16,.int .i64)],365375409332725729392464883150542079726895345664) else (none))) (fun i=>bif Nat.beq i 7 then some ([(7,.int .i64)],257698037888) else (bif Nat.beq i 9 then some ([(8,.slc)],17317308137728) else (bif Nat.beq i 10 then some ([(8,.slc)],1108307720798464) else (bif Nat.beq i 11 then some ([(8,.slc)],70931694131085568) else (bif Nat.beq i 12 then some ([(8,.slc)],4539628424389460224) else (bif Nat.beq i 13 then some ([(8,.slc)],142962266571249025280) else (bif Nat.beq i 14 then some ([(8,.slc)],18741891978888904442112) else (bif Nat.beq i 15 then some ([(9,.ptr)],18889465931478580855296) else (bif Nat.beq i 16 then some ([(10,.slc)],113336795588871485129728) else (bif Nat.beq i 17 then some ([(11,.int .i64)],2048) else (bif Nat.beq i 18 then some ([(12,.int .i64)],4096) else (bif Nat.beq i 20 then some ([],2266735911777429702574080) else (bif Nat.beq i 21 then some ([(14,.int .i64)],616552168003460879100166144) else (bif Nat.beq i 22 then some ([],38995111237489478659322413056) else (bif Nat.beq i 23 then some ([(11,.int .i64)],39614081257132168796771977216) else (bif Nat.beq i 24 then some ([(15,.int .i64)],79228162514264337593543983104) else (bif Nat.beq i 26 then some ([(12,.int .i64),(13,.int .i64),(15,.int .i64)],365375409332684191176052929558042510943349420032) else (bif Nat.beq i 27 then some ([],10384435260744626728385805570539520) else (bif Nat.beq i 28 then some ([(116,.bool)],124615124604835863084731911901282304) else (bif Nat.beq i 31 then some ([(12,.int .i64)],5575186258094280917105308539918119742738432) else (none))))))))))))))))))))) []) (by kernel_rfl) Go.Proofs.Tryz.func16 (by kernel_rfl) (fun C=>qU C c d e f g j k l m a b symbols symbolsn symbolsc h K Kp) (fun C=>by kernel_rfl) H
theorem zQ {c d e f g:Int} {j:Bool} {k l:Int} {m:Option Addr} {a b:Nat} {symbols:Option Addr} {symbolsn symbolsc:Nat} {h:Heap} {K:VK} {Kp:PK} (H:tH QP c d e f g j k l m a b symbols symbolsn symbolsc h K Kp):QP mR #[.agg #[.int .i64 c,.int .i64 d,.int .i64 e,.int .i64 f,.int .i64 g,.bool j,.int .i64 k,.int .i64 l,.slice m a b],.slice symbols symbolsn symbolsc] h K Kp :=
 fJ (Hints.mk (fun i=>bif Nat.beq i 19 then some ([14],.take 1 <| .take 2 <| .take 3 <| .take 4 <| .take 6 <| .take 7 <| .take 8 <| .take 9 <| .take 11 <| .take 0 <| .take 5 <| .take 10 <| .take 12 <| .take 13 <| .bar 14 [] <| .done) else (none)) (fun i=>bif Nat.beq i 6 then some ([(8,.int .i64)],70368710624000) else (bif Nat.beq i 9 then some ([(9,.int .i64)],70300024701440) else (bif Nat.beq i 14 then some ([(11,.int .i64)],154742504910391059385686016) else (none)))) (fun i=>bif Nat.beq i 12 then some ([],70368710624000) else (bif Nat.beq i 19 then some ([],4717754796851217825792) else (none))) []) (by kernel_rfl) Go.Proofs.Tryz.func18 (by kernel_rfl) (fun C=>tH C c d e f g j k l m a b symbols symbolsn symbolsc h K Kp) (fun C=>by kernel_rfl) H
theorem x9 {c d e f g:Int} {j:Bool} {k l:Int} {m:Option Addr} {a b:Nat} {h:Heap} {K:VK} {Kp:PK} (H:qR QP c d e f g j k l m a b h K Kp):QP kF #[.agg #[.int .i64 c,.int .i64 d,.int .i64 e,.int .i64 f,.int .i64 g,.bool j,.int .i64 k,.int .i64 l,.slice m a b]] h K Kp :=
 fJ (Hints.mk (fun i=>bif Nat.beq i 9 then some ([13],.take 0 <| .take 1 <| .take 2 <| .take 3 <| .take 4 <| .take 5 <| .take 7 <| .take 8 <| .take 9 <| .take 10 <| .take 12 <| .take 6 <| .take 11 <| .bar 13 [] <| .take 14 <| .done) else (none)) (fun i=>bif Nat.beq i 6 then some ([(5,.int .i64)],1152921504606322912) else (bif Nat.beq i 9 then some ([(6,.int .i64)],1152921504539738304) else (none))) (fun i=>bif Nat.beq i 4 then some ([(3,.int .i64)],64520) else (none)) []) (by kernel_rfl) Go.Proofs.Tryz.func23 (by kernel_rfl) (fun C=>qR C c d e f g j k l m a b h K Kp) (fun C=>by kernel_rfl) H
theorem AW {c d e f g:Int} {j:Bool} {k l:Int} {m:Option Addr} {a b:Nat} {symbols:Option Addr} {symbolsn symbolsc:Nat} {h:Heap} {K:VK} {Kp:PK} (H:va QP c d e f g j k l m a b symbols symbolsn symbolsc h K Kp):QP o0 #[.agg #[.int .i64 c,.int .i64 d,.int .i64 e,.int .i64 f,.int .i64 g,.bool j,.int .i64 k,.int .i64 l,.slice m a b],.slice symbols symbolsn symbolsc] h K Kp :=
 fJ (Hints.mk (fun i=>bif Nat.beq i 7 then some ([7],.take 1 <| .take 3 <| .take 6 <| .take 0 <| .take 2 <| .take 4 <| .take 5 <| .bar 7 [] <| .take 8 <| .done) else (bif Nat.beq i 9 then some ([],.take 0 <| .take 1 <| .take 3 <| .take 8 <| .take 10 <| .take 2 <| .take 4 <| .take 5 <| .take 6 <| .take 7 <| .take 9 <| .take 11 <| .take 12 <| .take 13 <| .take 14 <| .take 15 <| .take 16 <| .take 17 <| .done) else (none))) (fun i=>bif Nat.beq i 5 then some ([(5,.int .i64),(6,.int .i64)],2535301200161310897814053585008) else (none)) (fun i=>none) []) (by kernel_rfl) Go.Proofs.Tryz.func35 (by kernel_rfl) (fun C=>va C c d e f g j k l m a b symbols symbolsn symbolsc h K Kp) (fun C=>by kernel_rfl) H
theorem yQ {y strip:Int} {h:Heap} {K:VK} {Kp:PK} (H:si QP y strip h K Kp):QP lS #[.int .i64 y,.int .i64 strip] h K Kp :=
 fJ (Hints.mk (fun i=>none) (fun i=>none) (fun i=>none) []) (by kernel_rfl) Go.Proofs.Tryz.func53 (by kernel_rfl) (fun C=>si C y strip h K Kp) (fun C=>by kernel_rfl) H
theorem yP {n:Int} {h:Heap} {K:VK} {Kp:PK} (H:sf QP n h K Kp):QP lR #[.int .i64 n] h K Kp :=
 fJ (Hints.mk (fun i=>none) (fun i=>none) (fun i=>none) []) (by kernel_rfl) Go.Proofs.Tryz.func55 (by kernel_rfl) (fun C=>sf C n h K Kp) (fun C=>by kernel_rfl) H
theorem AV {c:Option Addr} {o p q r s:Int} {t:Bool} {u v:Int} {w:Option Addr} {d e:Nat} {f g j:Int} {k:Bool} {l m:Int} {n:Option Addr} {a b:Nat} {strip:Int} {symbols:Option Addr} {symbolsn symbolsc:Nat} {h:Heap} {K:VK} {Kp:PK} (H:u9 QP c o p q r s t u v w d e f g j k l m n a b strip symbols symbolsn symbolsc h K Kp):QP sJ #[.pointer c,.agg #[.int .i64 o,.int .i64 p,.int .i64 q,.int .i64 r,.int .i64 s,.bool t,.int .i64 u,.int .i64 v,.slice w d e],.agg #[.int .i64 f,.int .i64 g,.int .i64 j,.bool k,.int .i64 l,.int .i64 m,.slice n a b],.int .i64 strip,.slice symbols symbolsn symbolsc] h K Kp :=
 fJ (Hints.mk (fun i=>bif Nat.beq i 3 then some ([6],.take 0 <| .take 1 <| .take 2 <| .take 4 <| .take 5 <| .go 3 <| .bar 6 [] <| .done) else (bif Nat.beq i 8 then some ([8],.take 0 <| .take 1 <| .take 3 <| .take 4 <| .take 2 <| .take 5 <| .take 6 <| .take 7 <| .bar 8 [] <| .done) else (none))) (fun i=>none) (fun i=>bif Nat.beq i 3 then some ([],16776192) else (none)) []) (by kernel_rfl) Go.Proofs.Tryz.func56 (by kernel_rfl) (fun C=>u9 C c o p q r s t u v w d e f g j k l m n a b strip symbols symbolsn symbolsc h K Kp) (fun C=>by kernel_rfl) H
theorem zP {l m n:Int} {o:Bool} {p q:Int} {r:Option Addr} {c d:Nat} {s t e:Int} {f:Bool} {g j:Int} {k:Option Addr} {a b:Nat} {strip:Int} {h:Heap} {K:VK} {Kp:PK} (H:tG QP l m n o p q r c d s t e f g j k a b strip h K Kp):QP rv #[.agg #[.int .i64 l,.int .i64 m,.int .i64 n,.bool o,.int .i64 p,.int .i64 q,.slice r c d],.agg #[.int .i64 s,.int .i64 t,.int .i64 e,.bool f,.int .i64 g,.int .i64 j,.slice k a b],.int .i64 strip] h K Kp :=
 fJ (Hints.mk (fun i=>none) (fun i=>none) (fun i=>none) []) (by kernel_rfl) Go.Proofs.Tryz.func71 (by kernel_rfl) (fun C=>tG C l m n o p q r c d s t e f g j k a b strip h K Kp) (fun C=>by kernel_rfl) H
theorem x8 {l:Option Addr} {ln lc:Nat} {h:Heap} {K:VK} {Kp:PK} (H:qQ QP l ln lc h K Kp):QP pv #[.slice l ln lc] h K Kp :=
 fJ (Hints.mk (fun i=>none) (fun i=>bif Nat.beq i 2 then some ([(3,.int .i64)],65532) else (none)) (fun i=>none) []) (by kernel_rfl) Go.Proofs.Tryz.func83 (by kernel_rfl) (fun C=>qQ C l ln lc h K Kp) (fun C=>by kernel_rfl) H
theorem uq {n o p q r:Int} {s:Bool} {t u:Int} {v:Option Addr} {c d:Nat} {e f g:Int} {j:Bool} {k l:Int} {m:Option Addr} {a b:Nat} {symbols:Option Addr} {symbolsn symbolsc:Nat} {h:Heap} {K:VK} {Kp:PK} (H:nA QP n o p q r s t u v c d e f g j k l m a b symbols symbolsn symbolsc h K Kp):QP mY #[.agg #[.int .i64 n,.int .i64 o,.int .i64 p,.int .i64 q,.int .i64 r,.bool s,.int .i64 t,.int .i64 u,.slice v c d],.agg #[.int .i64 e,.int .i64 f,.int .i64 g,.bool j,.int .i64 k,.int .i64 l,.slice m a b],.slice symbols symbolsn symbolsc] h K Kp :=
 fJ (Hints.mk (fun i=>none) (fun i=>none) (fun i=>none) []) (by kernel_rfl) Go.Proofs.Tryz.func88 (by kernel_rfl) (fun C=>nA C n o p q r s t u v c d e f g j k l m a b symbols symbolsn symbolsc h K Kp) (fun C=>by kernel_rfl) H
theorem yR {n:Int} {h:Heap} {K:VK} {Kp:PK} (H:sj QP n h K Kp):QP qe #[.int .i64 n] h K Kp :=
 fJ (Hints.mk (fun i=>none) (fun i=>bif Nat.beq i 2 then some ([(3,.int .i64)],2040) else (none)) (fun i=>none) []) (by kernel_rfl) Go.Proofs.Tryz.func106 (by kernel_rfl) (fun C=>sj C n h K Kp) (fun C=>by kernel_rfl) H
theorem zO {n:Int} {h:Heap} {K:VK} {Kp:PK} (H:tF QP n h K Kp):QP oe #[.int .i64 n] h K Kp :=
 fJ (Hints.mk (fun i=>none) (fun i=>none) (fun i=>none) []) (by kernel_rfl) Go.Proofs.Tryz.func134 (by kernel_rfl) (fun C=>tF C n h K Kp) (fun C=>by kernel_rfl) H
end Go.Den.YtbknfejmdekhpaaGreat
namespace Go.Bm
open Go Go.Den Go.Den.YtbknfejmdekhpaaGreat
theorem tm (a:Addr) (m n:Nat):(a.add m).add n=a.add (m+n):=by
 unfold Addr.add
 by_cases h1:m=0
 ·subst h1; simp
 ·by_cases h2:n=0
  ·subst h2; simp
  ·rw [if_neg h1,if_neg h2,if_neg (by omega)]
   simp [tZ]
theorem Ga {O:List OwI} {i j:Nat} {o:OwI} (h:O[i]? = some o) (hj:j<7):(csI O)[i*7+j]? = o.cs[j]?:=by
 have:=E2 O [] i j o h hj
 rwa [fT] at this
theorem l3 {h:Heap} {q:Option Addr} {O:List OwI} {n i:Nat} {o:OwI} (hr:rdO h q n (csI O)) (ho:O[i]? = some o):∃ a,q=some a/\∀ j v,o.cs[j]? = some v->ic h ((a.add (i*7)).add j)=some v:=by
 cases q with
 | none =>
  have h0:csI O=[]:=hr
  have h1:=Ga (j:=0) ho (by decide)
  rw [h0] at h1
  cases h1
 | some a =>
  refine ⟨a,rfl,fun j v hv=>?_⟩
  have hj:j<7:=(List.getElem?_eq_some_iff.1 hv).1
  rw [tm]
  exact hr.2 _ _ ((Ga ho hj).trans hv)
section
variable {hB:Heap} {K:VK} {Kp:PK}
theorem CH {y:Int} {st:Nat} (hst:st<=3) (hk:K (.int .i64 (flo y st)) hB):CP lS #[.int .i64 y,.int .i64 (st:Nat)] hB K Kp:=by
 refine yQ ?_
 unfold si
 refine fw ((st:Nat):Int) (by exact u64_in _ (by omega) (by omega)) ?_
 refine fH (by omega) (fw _ (Aw (st:=st) (by omega)) ?_)
 exact hk
theorem QA {o o':OwI} {st:Nat} (hst:st<=3) (hk:∀ r h',(r=true↔(ui st o).lt (ui st o'))->gi hB h'->K (.bool r) h'):CP rv #[o.ag,o'.ag,.int .i64 (st:Nat)] hB K Kp:=by
 refine zP ?_
 unfold tG
 have H:=Hp.nil hB []
 refine fV H fun r1 h H=>?_
 refine fV H fun r2 h H=>?_
 have H:Hp _ [] h [⟨r1,true,fM,o.cs⟩,⟨r2,true,fM,o'.cs⟩]:=H
 refine fz (hpA H 0 rfl rfl) (CH hst ⟨_,rfl,?_⟩)
 refine fz (hpA H 1 rfl rfl) (CH hst ⟨_,rfl,?_⟩)
 refine jg (fun h1=>?_) fun h1=>?_
 ·refine hk _ h ?_ H.gi
  simp only [decide_eq_true_eq]
  unfold Key.lt ui Dw
  dsimp only
  omega
 refine fz (hpA H 0 rfl rfl) (fz (hpA H 1 rfl rfl) (jg (fun h2=>?_) fun h2=>?_))
 ·refine fz (hpA H 0 rfl rfl) (fz (hpA H 1 rfl rfl) (hk _ h ?_ H.gi))
  simp only [decide_eq_true_eq]
  unfold Key.lt ui Dw
  dsimp only
  omega
 ·refine fz (hpA H 0 rfl rfl) (fz (hpA H 1 rfl rfl) (hk _ h ?_ H.gi))
  simp only [decide_eq_true_eq]
  unfold Key.lt ui Dw
  dsimp only
  omega
end
theorem Pl (O:List OwI) (o:OwI):dsI (O++[o])=dsI O++o.D:=by
 unfold dsI
 rw [qC]
 simp
theorem Pr (O:List OwI) (o:OwI):csI (O++[o])=csI O++o.cs:=by
 rw [QS]
 unfold csI
 simp
section
variable {h0 h:Heap} {F:List Nat} {A R:List Ent} {q:Option Addr} {c:Nat} {l:List Ins}
theorem ma.app (hl:ma R q c l) {o:OwI} (ho:o.Ok) {r:Nat} (H:Hp h0 F h (A++R++(o.D++[⟨r,true,fM,o.cs⟩]))) (hn:l.length<=1000000) {K:Option Addr->Nat->Nat->Heap->Prop}
  (hk:∀ R' q' c' h',ma R' q' c' (l++[o.i])->Hp h0 F h' (A++R')->K q' (l.length+1) c' h'):l4 h fM 7 72 [.int .i64 0,.int .i64 0,.int .i64 0,.bool false,.int .i64 0,.int .i64 0,.slice none 0 0] q l.length c (some ⟨r,0,none⟩) 1 K:=by
 obtain ⟨O,E,h1,h2,h3,rfl⟩:=hl
 have H:Hp h0 F h ((A++dsI O)++(E++(o.D++[⟨r,true,fM,o.cs⟩]))):=H.as (by simp only [fC])
 refine Slot.app (m:=1) (new:=o.cs) h3 H rfl (Hp.n9 (rest:=[]) (cs:=o.cs) H (by rw [fT]; exact fX _ (fX _ (fX _ (List.mem_singleton.2 rfl)))) rfl) rfl (fun v hv=>HL [o] v (by unfold csI; simpa using hv)) (by decide) (by omega) fun E' q' c' h' hs H=>?_
 rw [<- Pr] at hs
 refine hk (dsI (O++[o])++E') q' c' h' ⟨O++[o],E',fun x hx=>?_,by rw [nS,h2]; rfl,by rw [fA]; exact hs,rfl⟩ ?_
 ·rcases List.mem_append.1 hx with hx | hx
  ·exact h1 x hx
  ·rw [List.mem_singleton.1 hx]; exact ho
 ·have H:Hp h0 F h' ((A++dsI O)++E'++o.D++[⟨r,true,fM,o.cs⟩]):=H.as (by simp only [fC])
  have H:=(Hp.pre H).swap
  rw [Pl]
  exact H.as (by simp only [fC])
end
theorem iJ {q:Option Addr} {a:Addr} {K:Addr->Prop} (h:q=some a) (H:K a):ptr q K:=by
 subst h
 exact H
theorem ma.Ti {h0 h:Heap} {F:List Nat} {A R:List Ent} {q:Option Addr} {c n:Nat} {l:List Ins} (hl:ma R q c l) (hnl:n=l.length) {o:OwI} (ho:o.Ok) {r:Nat} (H:Hp h0 F h (A++R++(o.D++[⟨r,true,fM,o.cs⟩]))) (hn:n<=1000000) {K:Option Addr->Nat->Nat->Heap->Prop}
  (hk:∀ R' q' c' h',ma R' q' c' (l++[o.i])->Hp h0 F h' (A++R')->K q' (n+1) c' h'):l4 h fM 7 72 [.int .i64 0,.int .i64 0,.int .i64 0,.bool false,.int .i64 0,.int .i64 0,.slice none 0 0] q n c (some ⟨r,0,none⟩) 1 K:=by
 subst hnl
 exact hl.app ho H hn hk
section
variable {hB:Heap} {K:VK} {Kp:PK}
set_option maxHeartbeats 1000000 in
theorem HN {t:Reg14} {q:Option Addr} {c:Nat} {l:List Ins} (hv:rj hB q l) (hl:l.length<=1000000) (hw:∀ t∈l,t.b.ws.length<=1000000000000) (hk:∀ R q' c' h',ma R q' c' l->Hp hB [] h' R->K (t.ag q' l.length c') h') :
  CP mS #[t.ag q l.length c] hB K Kp:=by
 refine xg ?_
 unfold p7
 have H:=Hp.nil hB []
 refine fV H fun r10 h H=>?_
 refine fV H fun r12 h H=>?_
 have H:Hp hB [] h [⟨r10,true,fR,t.cs q l.length c⟩,⟨r12,true,fR,[.int .i64 0,.int .i64 0,.int .i64 0,.int .i64 0,.int .i64 0,.bool false,.int .i64 0,.int .i64 0,.slice none 0 0]⟩]:=H
 repeat first | with_reducible refine fz (by with_unfolding_all first | exact hpA H 0 rfl rfl | exact Hp.cell H 0 rfl rfl | exact hpB H 0 rfl rfl | exact hpC H 0 rfl rfl) ?_ | with_reducible refine fU (by with_unfolding_all first | exact hpA H 0 rfl rfl | exact Hp.cell H 0 rfl rfl | exact hpB H 0 rfl rfl | exact hpC H 0 rfl rfl) ?_ | with_reducible refine ja (by with_unfolding_all first | exact hpA H 0 rfl rfl | exact Hp.cell H 0 rfl rfl | exact hpB H 0 rfl rfl | exact hpC H 0 rfl rfl) ?_ | with_reducible refine gT (by with_unfolding_all first | exact hpA H 0 rfl rfl | exact Hp.cell H 0 rfl rfl | exact hpB H 0 rfl rfl | exact hpC H 0 rfl rfl) ?_ | with_reducible refine pj (by with_unfolding_all first | exact hpA H 0 rfl rfl | exact Hp.cell H 0 rfl rfl | exact hpB H 0 rfl rfl | exact hpC H 0 rfl rfl) ?_
 refine fV H fun r23 h H=>?_
 have H:Hp hB [] h [⟨r10,true,fR,t.cs q l.length c⟩,⟨r12,true,fR,[.int .i64 0,.int .i64 0,.int .i64 0,.int .i64 0,.int .i64 0,.bool false,.int .i64 0,.int .i64 0,.slice none 0 0]⟩,⟨r23,true,fR,[.int .i64 0,.int .i64 0,.int .i64 0,.int .i64 0,.int .i64 0,.bool false,.int .i64 0,.int .i64 0,.slice none 0 0]⟩]:=H
 refine Eb H 2 rfl rfl rfl fun h H=>?_
 repeat first | with_reducible refine stA H 2 (by with_unfolding_all exact rfl) (by with_unfolding_all exact rfl) (by with_unfolding_all exact rfl) fun h H=>?_ | with_reducible refine st0 H 2 (by with_unfolding_all exact rfl) (by with_unfolding_all exact rfl) (by with_unfolding_all exact rfl) fun h H=>?_ | with_reducible refine stB H 2 (by with_unfolding_all exact rfl) (by with_unfolding_all exact rfl) (by with_unfolding_all exact rfl) fun h H=>?_
 have H:Hp hB [] h ([⟨r10,true,fR,t.cs q l.length c⟩,⟨r12,true,fR,[.int .i64 0,.int .i64 0,.int .i64 0,.int .i64 0,.int .i64 0,.bool false,.int .i64 0,.int .i64 0,.slice none 0 0]⟩,⟨r23,true,fR,t.cs none 0 0⟩]++[]):=H
 obtain ⟨O,rfl,hr,hvw⟩:=hv
 rw [iu] at hr hl hk H
 obtain ⟨Z,hZ⟩:∃ Z:List Value,Z=[.int .i64 0,.int .i64 0,.int .i64 0,.int .i64 0,.int .i64 0,.bool false,.int .i64 0,.int .i64 0,.slice none 0 0]:=⟨_,rfl⟩
 rw [<- hZ] at H
 refine ⟨fun m vs h'=>∃ (i:Nat) (R:List Ent) (q':Option Addr) (c':Nat),i+m=O.length/\ma R q' c' ((O.take i).map OwI.i)/\vs=[.int .i64 (i:Nat)]/\Hp hB [] h' ([⟨r10,true,fR,t.cs q O.length c⟩,⟨r12,true,fR,Z⟩,⟨r23,true,fR,t.cs q' i c'⟩]++R),
  ⟨O.length,0,[],none,0,by omega,ma.nil,rfl,H⟩,?_⟩
 clear H
 rintro m h u xi ⟨i,R,q',c',him,hL,hxx,H⟩
 injection hxx with hx1 hxx
 injection hx1 with _ hx1
 subst xi
 refine fU (hpA H 0 rfl rfl) ?_
 refine fL (fun h1=>?_) fun h1=>?_
 ·obtain ⟨o,ho⟩:∃ o,O[i]? = some o:=⟨_,fP (by omega)⟩
  obtain ⟨a,ha,cell⟩:=l3 (oa H.gi hr) ho
  have hov:=(hvw o (fS ho)).ext H.gi
  refine fU (hpA H 0 rfl rfl) (fH (by omega) ?_)
  refine iJ ha ?_
  rw [fD]
  refine fz (cell 0 _ rfl) (fz (cell 1 _ rfl) (fz (cell 2 _ rfl) (gT (cell 3 _ rfl) (fz (cell 4 _ rfl) (fz (cell 5 _ rfl) (fU (cell 6 _ rfl) ?_))))))
  refine fV H fun r43 h H=>?_
  obtain ⟨X,hX⟩:∃ X:List Ent,X=[⟨r10,true,fR,t.cs q O.length c⟩,⟨r12,true,fR,Z⟩,⟨r23,true,fR,t.cs q' i c'⟩]++R:=⟨_,rfl⟩
  rw [<- hX] at H
  have H:=Hp.rot (X:=X) (Y:=[⟨r43,true,fM,[.int .i64 0,.int .i64 0,.int .i64 0,.bool false,.int .i64 0,.int .i64 0,.slice none 0 0]⟩]) H
  have H:Hp hB [] h (⟨r43,true,fM,[.int .i64 0,.int .i64 0,.int .i64 0,.bool false,.int .i64 0,.int .i64 0,.slice none 0 0]⟩::X):=H
  repeat first | with_reducible refine stA H 0 (by with_unfolding_all exact rfl) (by with_unfolding_all exact rfl) (by with_unfolding_all exact rfl) fun h H=>?_ | with_reducible refine st0 H 0 (by with_unfolding_all exact rfl) (by with_unfolding_all exact rfl) (by with_unfolding_all exact rfl) fun h H=>?_ | with_reducible refine stB H 0 (by with_unfolding_all exact rfl) (by with_unfolding_all exact rfl) (by with_unfolding_all exact rfl) fun h H=>?_
  have H:Hp hB [] h (⟨r43,true,fM,o.cs⟩::X):=H
  repeat first | with_reducible refine fz (by with_unfolding_all first | exact hpA H 0 rfl rfl | exact Hp.cell H 0 rfl rfl | exact hpB H 0 rfl rfl | exact hpC H 0 rfl rfl) ?_ | with_reducible refine fU (by with_unfolding_all first | exact hpA H 0 rfl rfl | exact Hp.cell H 0 rfl rfl | exact hpB H 0 rfl rfl | exact hpC H 0 rfl rfl) ?_ | with_reducible refine ja (by with_unfolding_all first | exact hpA H 0 rfl rfl | exact Hp.cell H 0 rfl rfl | exact hpB H 0 rfl rfl | exact hpC H 0 rfl rfl) ?_ | with_reducible refine gT (by with_unfolding_all first | exact hpA H 0 rfl rfl | exact Hp.cell H 0 rfl rfl | exact hpB H 0 rfl rfl | exact hpC H 0 rfl rfl) ?_ | with_reducible refine pj (by with_unfolding_all first | exact hpA H 0 rfl rfl | exact Hp.cell H 0 rfl rfl | exact hpB H 0 rfl rfl | exact hpC H 0 rfl rfl) ?_
  have hov:=(hvw o (fS ho)).ext H.gi
  refine Ps (b:=o.i.b) hov.r hov.w (hw _ (List.mem_map.2 ⟨o,fS ho,rfl⟩)) fun o1 h' h1ok h1b H'=>?_
  replace H:=H.join H' h1ok.s.w
  clear H'
  refine ⟨_,_,_,_,_,rfl,?_⟩
  subst hX
  have H:Hp hB [] h' (⟨r43,true,fM,o.cs⟩::⟨r10,true,fR,t.cs q O.length c⟩::⟨r12,true,fR,Z⟩::⟨r23,true,fR,t.cs q' i c'⟩::(R++o1.D)):=H
  repeat first | with_reducible refine stA H 0 (by with_unfolding_all exact rfl) (by with_unfolding_all exact rfl) (by with_unfolding_all exact rfl) fun h H=>?_ | with_reducible refine st0 H 0 (by with_unfolding_all exact rfl) (by with_unfolding_all exact rfl) (by with_unfolding_all exact rfl) fun h H=>?_ | with_reducible refine stB H 0 (by with_unfolding_all exact rfl) (by with_unfolding_all exact rfl) (by with_unfolding_all exact rfl) fun h H=>?_
  obtain ⟨o2,ho2⟩:∃ o2:OwI,o2=⟨o.i,o1.q,o1.c,o1.D⟩:=⟨_,rfl⟩
  have hok2:o2.Ok:=by
   have g1:=h1ok.s
   rw [h1b] at g1
   rw [ho2]
   exact ⟨g1,hov.w,hov.l⟩
  have H:Hp hB [] h (⟨r43,true,fM,o2.cs⟩::⟨r10,true,fR,t.cs q O.length c⟩::⟨r12,true,fR,Z⟩::⟨r23,true,fR,t.cs q' i c'⟩::(R++o2.D)):=by
   rw [ho2]
   exact H
  refine fU (hpA H 3 rfl rfl) ?_
  repeat first | with_reducible refine fz (by with_unfolding_all first | exact hpA H 0 rfl rfl | exact Hp.cell H 0 rfl rfl | exact hpB H 0 rfl rfl | exact hpC H 0 rfl rfl) ?_ | with_reducible refine fU (by with_unfolding_all first | exact hpA H 0 rfl rfl | exact Hp.cell H 0 rfl rfl | exact hpB H 0 rfl rfl | exact hpC H 0 rfl rfl) ?_ | with_reducible refine ja (by with_unfolding_all first | exact hpA H 0 rfl rfl | exact Hp.cell H 0 rfl rfl | exact hpB H 0 rfl rfl | exact hpC H 0 rfl rfl) ?_ | with_reducible refine gT (by with_unfolding_all first | exact hpA H 0 rfl rfl | exact Hp.cell H 0 rfl rfl | exact hpB H 0 rfl rfl | exact hpC H 0 rfl rfl) ?_ | with_reducible refine pj (by with_unfolding_all first | exact hpA H 0 rfl rfl | exact Hp.cell H 0 rfl rfl | exact hpB H 0 rfl rfl | exact hpC H 0 rfl rfl) ?_
  refine fV H fun r71 h H=>?_
  have hlt:i=((O.take i).map OwI.i).length:=by rw [iu,iC]; omega
  have H:Hp hB [] h ([⟨r43,true,fM,o2.cs⟩,⟨r10,true,fR,t.cs q O.length c⟩,⟨r12,true,fR,Z⟩,⟨r23,true,fR,t.cs q' i c'⟩]++R++(o2.D++[⟨r71,true,fM,o2.cs⟩])):=H.as (by simp only [gm,gd,fC]; rfl)
  refine hL.Ti hlt hok2 H (by omega) fun R2 q2 c2 h2 hL2 H=>?_
  have H:Hp hB [] h2 (⟨r43,true,fM,o2.cs⟩::⟨r10,true,fR,t.cs q O.length c⟩::⟨r12,true,fR,Z⟩::⟨r23,true,fR,t.cs q' i c'⟩::R2):=H
  repeat first | with_reducible refine stA H 3 (by with_unfolding_all exact rfl) (by with_unfolding_all exact rfl) (by with_unfolding_all exact rfl) fun h H=>?_ | with_reducible refine st0 H 3 (by with_unfolding_all exact rfl) (by with_unfolding_all exact rfl) (by with_unfolding_all exact rfl) fun h H=>?_ | with_reducible refine stB H 3 (by with_unfolding_all exact rfl) (by with_unfolding_all exact rfl) (by with_unfolding_all exact rfl) fun h H=>?_
  refine fw ((i+1:Nat):Int) (by exact fO _ _ (by omega) (by omega) (by omega)) ?_
  have e2:o2.i=o.i:=by rw [ho2]
  rw [e2] at hL2
  refine ⟨m-1,by omega,i+1,R2,q2,c2,by omega,by rw [kC ho,nS]; exact hL2,rfl,?_⟩
  have H:=Hp.suf (X:=[⟨r43,true,fM,o2.cs⟩]) H
  exact H
 ·obtain rfl:i=O.length:=by omega
  rw [gz (gg _)] at hL
  have H:Hp hB [] h ([⟨r10,true,fR,t.cs q O.length c⟩,⟨r12,true,fR,Z⟩,⟨r23,true,fR,t.cs q' O.length c'⟩]++R):=H
  repeat first | with_reducible refine fz (by with_unfolding_all first | exact hpA H 2 rfl rfl | exact Hp.cell H 2 rfl rfl | exact hpB H 2 rfl rfl | exact hpC H 2 rfl rfl) ?_ | with_reducible refine fU (by with_unfolding_all first | exact hpA H 2 rfl rfl | exact Hp.cell H 2 rfl rfl | exact hpB H 2 rfl rfl | exact hpC H 2 rfl rfl) ?_ | with_reducible refine ja (by with_unfolding_all first | exact hpA H 2 rfl rfl | exact Hp.cell H 2 rfl rfl | exact hpB H 2 rfl rfl | exact hpC H 2 rfl rfl) ?_ | with_reducible refine gT (by with_unfolding_all first | exact hpA H 2 rfl rfl | exact Hp.cell H 2 rfl rfl | exact hpB H 2 rfl rfl | exact hpC H 2 rfl rfl) ?_ | with_reducible refine pj (by with_unfolding_all first | exact hpA H 2 rfl rfl | exact Hp.cell H 2 rfl rfl | exact hpB H 2 rfl rfl | exact hpC H 2 rfl rfl) ?_
  subst hZ
  refine Eb H 1 rfl rfl rfl fun h H=>?_
  have H:Hp hB [] h ([⟨r10,true,fR,t.cs q O.length c⟩,⟨r12,true,fR,t.cs q' O.length c'⟩,⟨r23,true,fR,t.cs q' O.length c'⟩]++R):=H
  repeat first | with_reducible refine fz (by with_unfolding_all first | exact hpA H 1 rfl rfl | exact Hp.cell H 1 rfl rfl | exact hpB H 1 rfl rfl | exact hpC H 1 rfl rfl) ?_ | with_reducible refine fU (by with_unfolding_all first | exact hpA H 1 rfl rfl | exact Hp.cell H 1 rfl rfl | exact hpB H 1 rfl rfl | exact hpC H 1 rfl rfl) ?_ | with_reducible refine ja (by with_unfolding_all first | exact hpA H 1 rfl rfl | exact Hp.cell H 1 rfl rfl | exact hpB H 1 rfl rfl | exact hpC H 1 rfl rfl) ?_ | with_reducible refine gT (by with_unfolding_all first | exact hpA H 1 rfl rfl | exact Hp.cell H 1 rfl rfl | exact hpB H 1 rfl rfl | exact hpC H 1 rfl rfl) ?_ | with_reducible refine pj (by with_unfolding_all first | exact hpA H 1 rfl rfl | exact Hp.cell H 1 rfl rfl | exact hpB H 1 rfl rfl | exact hpC H 1 rfl rfl) ?_
  exact hk R q' c' h hL (Hp.suf H)
end
section
variable {hB:Heap} {K:VK} {Kp:PK}
set_option maxHeartbeats 2000000 in
theorem Bz {t:Reg14} {q:Option Addr} {c:Nat} {l:List Ins} (hv:rj hB q l) (hl:l.length<=1000000) (hw:∀ t∈l,t.b.ws.length<=1000000000000) (hk:∀ R q' c' h',ma R q' c' (rX (pZ t.st) l)->Hp hB [] h' R->K (.slice q' l.length c') h') :
  CP kF #[t.ag q l.length c] hB K Kp:=by
 refine x9 ?_
 unfold qR
 have H:=Hp.nil hB []
 refine fV H fun r10 h H=>?_
 have H:Hp hB [] h [⟨r10,true,fR,t.cs q l.length c⟩]:=H
 refine fz (hpA H 0 rfl rfl) ?_
 refine ⟨fun vs h'=>vs=[.int .i64 (pZ t.st:Nat)]/\h'=h,?_,?_⟩
 ·refine fL (fun h1=>?_) fun h1=>?_
  ·have e:pZ t.st=0:=if_pos h1
   rw [e]
   exact ⟨rfl,rfl⟩
  ·refine fL (fun h2=>?_) fun h2=>?_
   ·have e:pZ t.st=0:=(if_neg h1).trans (if_pos h2)
    rw [e]
    exact ⟨rfl,rfl⟩
   ·have e:pZ t.st=t.st.toNat:=(if_neg h1).trans (if_neg h2)
    have e2:((pZ t.st:Nat):Int)=t.st:=by omega
    rw [e2]
    exact ⟨rfl,rfl⟩
 rintro h' u xs ⟨hxx,rfl⟩
 injection hxx with hx1 hxx
 injection hx1 with _ hx1
 subst xs
 have hst:=LN t.st
 repeat first | with_reducible refine fz (by with_unfolding_all first | exact hpA H 0 rfl rfl | exact Hp.cell H 0 rfl rfl | exact hpB H 0 rfl rfl | exact hpC H 0 rfl rfl) ?_ | with_reducible refine fU (by with_unfolding_all first | exact hpA H 0 rfl rfl | exact Hp.cell H 0 rfl rfl | exact hpB H 0 rfl rfl | exact hpC H 0 rfl rfl) ?_ | with_reducible refine ja (by with_unfolding_all first | exact hpA H 0 rfl rfl | exact Hp.cell H 0 rfl rfl | exact hpB H 0 rfl rfl | exact hpC H 0 rfl rfl) ?_ | with_reducible refine gT (by with_unfolding_all first | exact hpA H 0 rfl rfl | exact Hp.cell H 0 rfl rfl | exact hpB H 0 rfl rfl | exact hpC H 0 rfl rfl) ?_ | with_reducible refine pj (by with_unfolding_all first | exact hpA H 0 rfl rfl | exact Hp.cell H 0 rfl rfl | exact hpB H 0 rfl rfl | exact hpC H 0 rfl rfl) ?_
 refine HN (hv.ext H.gi) hl hw fun R q1 c1 h1 hL H'=>?_
 replace H:=(H.join H' hL.w)
 clear H'
 have H:=Hp.suf (X:=[⟨r10,true,fR,t.cs q l.length c⟩]) H
 refine ⟨_,_,_,_,_,_,_,_,_,_,_,rfl,?_⟩
 obtain ⟨O,E,hok,hO,hsl,rfl⟩:=hL
 obtain ⟨hsl1,⟨rfl,rfl,hn0,rfl⟩ | ⟨b,rest,rfl,rfl,hc⟩⟩:=hsl
 ·obtain rfl:=gF hn0
  refine ⟨fun m vs h'=>vs=[.int .i64 1]/\h'=h1,⟨0,rfl,rfl⟩,?_⟩
  rintro m h u xi ⟨hxx,rfl⟩
  injection hxx with hx1 hxx
  injection hx1 with _ hx1
  subst xi
  refine fZ rfl ?_
  have:O=[]:=List.map_eq_nil_iff.1 hO
  subst this
  exact hk _ none 0 h ma.nil (Hp.suf (X:=[⟨r10,true,fR,t.cs q 0 c⟩]) (Y:=[]) H)
 ·have H:=Hp.rot (X:=dsI O) (Y:=[lk b O rest]) H
  have H:Hp hB [] h1 (lk b O rest::dsI O):=H
  have hOl:O.length=l.length:=by rw [<- hO,iu]
  rw [<- hOl]
  rw [<- hOl] at hl
  obtain ⟨st,hst0⟩:∃ st,st=pZ t.st:=⟨_,rfl⟩
  rw [<- hst0] at hst hk ⊢
  refine ⟨fun m vs h'=>∃ (A R:List OwI) (i:Nat),Sw (ui st) O (A++R)/\Srt (ui st) A/\A.length=min i O.length/\1<=i/\i<=O.length+1/\i+m=O.length+1/\vs=[.int .i64 (i:Nat)]/\Hp hB [] h' (lk b (A++R) rest::dsI O),
   ⟨O.length,O.take 1,O.drop 1,1,by rw [iT]; exact .refl _,?_,by rw [iC],by omega,by omega,by omega,rfl,by rw [iT]; exact H⟩,?_⟩
  ·cases O with
   | nil=>exact List.Pairwise.nil
   | cons x M=>exact GQ _ _
  clear H
  rintro m h u xi ⟨A,R,i,hsw,hA,hAl0,hi,hi2,hm,hxx,H⟩
  injection hxx with hx1 hxx
  injection hx1 with _ hx1
  subst xi
  have hlen:=hsw.length
  rw [fA] at hlen
  refine fL (fun hlt=>?_) fun hlt=>?_
  ·obtain ⟨x,R',rfl⟩:∃ x R',R=x::R':=by
    cases R with
    | nil=>rw [iZ] at hlen; omega
    | cons x R'=>exact ⟨x,R',rfl⟩
   rw [gp] at hlen
   have hAl:A.length=i:=by omega
   refine ⟨fun m' vs h'=>∃ (A1 A2:List OwI),Sw (ui st) O ((A1++x::A2)++R')/\Srt (ui st) (A1++A2)/\(∀ y∈A2,(ui st x).lt (ui st y))/\A1.length+A2.length=A.length/\A1.length=m'/\vs=[.int .i64 ((A1.length:Nat):Int)]/\Hp hB [] h' (lk b ((A1++x::A2)++R') rest::dsI O),
    ⟨A.length,A,[],by simpa only [fC,gm,gd] using hsw,by rw [fT]; exact hA,(fun y hy=>by cases hy),by simp,rfl,by rw [hAl],by simpa only [fC,gm,gd] using H⟩,?_⟩
   clear hsw H hA
   rintro m' h u xj ⟨A1,A2,hsw,hA,hx,hAA,hm',hxx,H⟩
   injection hxx with hx1 hxx
   injection hx1 with _ hx1
   subst xj
   have next:Srt (ui st) (A1++x::A2)->∀ h',gi h h'->fG (IntKind.i64.wrap ((i:Int)+1)) fun z_70=>∃ m_3,m_3<m/\∃ (A R:List OwI) (i:Nat),Sw (ui st) O (A++R)/\Srt (ui st) A/\A.length=min i O.length/\1<=i/\i<=O.length+1/\i+m_3=O.length+1/\[Value.int .i64 z_70]=[.int .i64 (i:Nat)]/\Hp hB [] h' (lk b (A++R) rest::dsI O):=fun hs h' e=>by
    refine fw ((i+1:Nat):Int) (by exact fO _ _ (by omega) (by omega) (by omega)) ?_
    exact ⟨m-1,by omega,A1++x::A2,R',i+1,hsw,hs,by rw [fA,gp]; omega,by omega,by omega,by omega,rfl,H.ext e⟩
   have hxs:Srt (ui st) (x::A2):=List.pairwise_cons.2 ⟨fun y hy=>fun hh=>Key.lt_irrefl _ (Key.lt_trans hh (hx y hy)),hA.right⟩
   refine fL (fun h1=>?_) fun h1=>?_
   ·obtain ⟨A3,y,rfl⟩:=Ij (l:=A1) (by omega)
    rw [fA,gp,iZ] at hm' hAA ⊢
    have eA:((A3++[y])++x::A2++R')=A3++y::(x::A2++R'):=by simp only [fC,gm,gd]
    have eB:((A3++[y])++x::A2++R')=(A3++[y])++x::(A2++R'):=by simp only [fC,gm,gd]
    have eC:(A3++[y])++y::(A2++R')=A3++y::(y::A2++R'):=by simp only [fC,gm,gd]
    have eD:A3++x::(y::A2++R')=(A3++x::(y::A2))++R':=by simp only [fC,gm,gd]
    have lB:(A3++[y]).length=A3.length+(0+1):=by simp only [fA,gp,iZ]
    refine fH (by omega) (gv (a:=⟨b,0,none⟩) ?_)
    refine fw ((A3.length:Nat):Int) (by exact fO _ _ (by omega) (by omega) (by omega)) ?_
    refine fH (by omega) (gv (a:=⟨b,0,none⟩) ?_)
    refine ld7 H (o:=x) (by rw [eB,<- lB]; exact get_at _ _ _) ?_
    refine ld7 H (o:=y) (by rw [eA]; exact get_at _ _ _) ?_
    refine QA (o:=x) (o':=y) hst fun r h' hr e=>⟨_,rfl,?_⟩
    cases r with
    | true =>
     have hxy:=hr.1 rfl
     replace H:=H.ext e
     refine gN rfl ?_
     refine fH (by omega) (gv (a:=⟨b,0,none⟩) ?_)
     refine ld7 H (o:=x) (by rw [eB,<- lB]; exact get_at _ _ _) ?_
     refine fV H fun r77 h H=>?_
     have H:=Hp.rot (X:=lk b ((A3++[y])++x::A2++R') rest::dsI O) (Y:=[⟨r77,true,fM,[.int .i64 0,.int .i64 0,.int .i64 0,.bool false,.int .i64 0,.int .i64 0,.slice none 0 0]⟩]) H
     have H:Hp hB [] h (⟨r77,true,fM,[.int .i64 0,.int .i64 0,.int .i64 0,.bool false,.int .i64 0,.int .i64 0,.slice none 0 0]⟩::lk b ((A3++[y])++x::A2++R') rest::dsI O):=H
     repeat first | with_reducible refine stA H 0 (by with_unfolding_all exact rfl) (by with_unfolding_all exact rfl) (by with_unfolding_all exact rfl) fun h H=>?_ | with_reducible refine st0 H 0 (by with_unfolding_all exact rfl) (by with_unfolding_all exact rfl) (by with_unfolding_all exact rfl) fun h H=>?_ | with_reducible refine stB H 0 (by with_unfolding_all exact rfl) (by with_unfolding_all exact rfl) (by with_unfolding_all exact rfl) fun h H=>?_
     have H:Hp hB [] h (⟨r77,true,fM,x.cs⟩::lk b ((A3++[y])++x::A2++R') rest::dsI O):=H
     replace H:=H.perm (List.Perm.swap _ _ _)
     refine fw ((A3.length:Nat):Int) (by exact fO _ _ (by omega) (by omega) (by omega)) ?_
     refine fH (by omega) (gv (a:=⟨b,0,none⟩) ?_)
     refine ld7 H (o:=y) (by rw [eA]; exact get_at _ _ _) ?_
     refine fH (by omega) (gv (a:=⟨b,0,none⟩) ?_)
     rw [eB] at H
     refine st7 H y (by rw [<- lB]; simp only [fA,gp]; omega) fun h H=>?_
     rw [<- lB,wh,eC] at H
     refine fw ((A3.length:Nat):Int) (by exact fO _ _ (by omega) (by omega) (by omega)) ?_
     refine fz (hpA H 1 rfl rfl) (fz (hpA H 1 rfl rfl) (fz (hpA H 1 rfl rfl) (gT (hpA H 1 rfl rfl) (fz (hpA H 1 rfl rfl) (fz (hpA H 1 rfl rfl) (fU (hpA H 1 rfl rfl) ?_))))))
     refine fH (by omega) (gv (a:=⟨b,0,none⟩) ?_)
     refine st7 H x (by simp only [fA,gp]; omega) fun h H=>?_
     rw [wh,eD] at H
     replace H:=H.perm (List.Perm.swap _ _ _)
     have H:=Hp.suf (X:=[⟨r77,true,fM,x.cs⟩]) H
     refine fw ((A3.length:Nat):Int) (by exact fO _ _ (by omega) (by omega) (by omega)) ?_
     refine ⟨m'-1,by omega,A3,y::A2,?_,by simpa only [fC,gm,gd] using hA,?_,by rw [gp]; omega,by omega,rfl,H⟩
     ·refine .trans hsw ?_
      have:=Sw.swap (key:=ui st) A3 (A2++R') y x (fun hh=>by rw [hh] at hxy; exact Key.lt_irrefl _ hxy)
      simpa only [fC,gm,gd] using this
     ·intro z hz
      rcases List.mem_cons.1 hz with rfl | hz
      ·exact hxy
      ·exact hx z hz
    | false =>
     have hxy:¬ (ui st x).lt (ui st y):=fun hh=>by have:=hr.2 hh; cases this
     refine fZ rfl ?_
     refine next (Srt.append hA.left hxs fun a ha z hz=>?_) h' e
     have hay:¬ (ui st y).lt (ui st a):=by
      rcases List.mem_append.1 ha with h1 | h1
      ·exact hA.left.Ep a h1 y (List.mem_singleton.2 rfl)
      ·rw [List.mem_singleton.1 h1]; exact Key.lt_irrefl _
     rcases List.mem_cons.1 hz with rfl | hz
     ·exact Key.le_trans hay hxy
     ·exact hA.Ep a ha z hz
   ·obtain rfl:A1=[]:=gF (by omega)
    exact next hxs h (gi.refl _)
  ·obtain rfl:R=[]:=gF (by omega)
   rw [fT] at hsw H
   have hZ:A.map OwI.i=rX st l:=by
    rw [<- hO]
    exact Fp (Sw.map (key:=Dw st) (f:=OwI.i) hsw) (Srt.map (key:=Dw st) (f:=OwI.i) hA)
   have hl2:=hsw.length
   have hokZ:∀ o∈A,o.Ok:=fun o ho=>hok o ((hsw.mem o).1 ho)
   have hrl:(csI A++rest).length=c1*7:=by
    rw [<- hc,fA,fA,m5,m5,hl2]
   have hsl:Slot fM 7 [lk b A rest] (some ⟨b,0,none⟩) (rX st l).length c1 (csI A):=Slot.one (by rw [m5,<- hZ,iu]) hrl
   rw [hOl]
   refine hk (dsI A++[lk b A rest]) _ _ _ ⟨A,_,hokZ,hZ,hsl,rfl⟩ ?_
   have H:=H.perm (jB (l₁:=[lk b A rest]) (l₂:=dsI O))
   exact H.perm (rO _ (List.Perm.flatMap_right _ hsw.perm))
end
theorem Nf {h:Heap} {a:Addr} {o:OwI} (cell:∀ j v,o.cs[j]? = some v->ic h (a.add j)=some v) {K:Int->Int->Int->Bool->Int->Int->Option Addr->Nat->Nat->Prop}
  (hk:K o.i.x o.i.y o.i.s o.i.d o.i.b.w o.i.b.h o.q o.i.b.ws.length o.c) :
  ldI h (a.add 0) .i64 fun x1=>ldI h (a.add 1) .i64 fun x2=>ldI h (a.add 2) .i64 fun x3=>ldB h (a.add 3) fun x4=>ldI h (a.add 4) .i64 fun x5=>ldI h (a.add 5) .i64 fun x6=>ldS h (a.add 6) fun q n c=>K x1 x2 x3 x4 x5 x6 q n c :=
 fz (cell 0 _ rfl) (fz (cell 1 _ rfl) (fz (cell 2 _ rfl) (gT (cell 3 _ rfl) (fz (cell 4 _ rfl) (fz (cell 5 _ rfl) (fU (cell 6 _ rfl) hk))))))
section
variable {hB:Heap} {K:VK} {Kp:PK}
theorem Qg {a b:Option Addr} {ac bc:Nat} {xs ys:List Nat} (ha:rdO hB a (xs.length*1) (il xs)) (hb:rdO hB b (ys.length*1) (il ys)) (hlen:xs.length<140737488351300)
  (hk:K (.bool (decide (xs=ys))) hB):CP l6 #[.slice a xs.length ac,.slice b ys.length bc] hB K Kp:=by
 refine rM ?_
 unfold mr
 refine jg (fun h1=>?_) fun h1=>?_
 ·rw [decide_eq_false (fun e=>h1 (by rw [e]))] at hk
  exact hk
 have h1:xs.length=ys.length:=by omega
 refine ⟨fun m vs h'=>∃ i:Nat,i+m=xs.length/\h'=hB/\vs=[.int .i64 (i:Nat)]/\∀ j,j<i->xs[j]? = ys[j]?,⟨xs.length,0,by omega,rfl,rfl,fun j hj=>by omega⟩,?_⟩
 rintro m h u xi ⟨i,him,rfl,hxx,he⟩
 injection hxx with hx1 hxx
 injection hx1 with _ hx1
 subst xi
 refine fL (fun h2=>?_) fun h2=>?_
 ·obtain ⟨x,hx⟩:∃ x,xs[i]? = some x:=⟨_,fP (by omega)⟩
  obtain ⟨y,hy⟩:∃ y,ys[i]? = some y:=⟨_,fP (by omega)⟩
  have ca:∃ a',a=some a'/\ic h (a'.add i)=some (.int .u64 (x:Nat)):=by
   cases a with
   | none =>
    have h0:il xs=[]:=ha
    have:=lp hx
    rw [h0] at this
    cases this
   | some a'=>exact ⟨a',rfl,ha.2 _ _ (lp hx)⟩
  have cb:∃ a',b=some a'/\ic h (a'.add i)=some (.int .u64 (y:Nat)):=by
   cases b with
   | none =>
    have h0:il ys=[]:=hb
    have:=lp hy
    rw [h0] at this
    cases this
   | some a'=>exact ⟨a',rfl,hb.2 _ _ (lp hy)⟩
  obtain ⟨a1,rfl,ca⟩:=ca
  obtain ⟨b1,rfl,cb⟩:=cb
  refine fH (by omega) (gv (a:=a1) (fH (by omega) (gv (a:=b1) ?_)))
  rw [fD,gu]
  refine fz ca (fz cb (jg (fun h3=>?_) fun h3=>?_))
  ·rw [decide_eq_false (fun e=>?_)] at hk
   ·exact hk
   ·subst e
    rw [hx] at hy
    injection hy with hy
    exact h3 (by rw [hy])
  ·refine fw ((i+1:Nat):Int) (by exact fO _ _ (by omega) (by omega) (by omega)) ?_
   refine ⟨m-1,by omega,i+1,by omega,rfl,rfl,fun j hj=>?_⟩
   rcases gI j i with h4 | h4
   ·exact he j h4
   ·obtain rfl:j=i:=by omega
    rw [hx,hy]
    congr 1
    omega
 ·have:xs=ys:=by
   apply pO
   intro j
   rcases gI j i with h4 | h4
   ·exact he j h4
   ·rw [iq (by omega),iq (by omega)]
  rw [decide_eq_true this] at hk
  exact hk
theorem J7 {a b:Option Addr} {ac bc:Nat} {b1 b2:Bmp} (ha:rdO hB a (b1.ws.length*1) (il b1.ws)) (hb:rdO hB b (b2.ws.length*1) (il b2.ws)) (w1:W64 b1.ws) (w2:W64 b2.ws) (l1:b1.ws.length<140737488351300) (l2:b2.ws.length<140737488351300)
  (m1:b1.may) (m2:b2.may) (hk:∀ h',gi hB h'->K (.bool (decide (b1.w=b2.w/\b1.h=b2.h/\b1.ws=b2.ws))) h') :
  CP rJ #[.agg #[.int .i64 b1.w,.int .i64 b1.h,.slice a b1.ws.length ac],.agg #[.int .i64 b2.w,.int .i64 b2.h,.slice b b2.ws.length bc]] hB K Kp:=by
 refine CW ?_
 unfold yp
 have H:=Hp.nil hB []
 refine fV H fun r7 h H=>?_
 refine fV H fun r9 h H=>?_
 have H:Hp hB [] h [⟨r7,true,fK,[.int .i64 b1.w,.int .i64 b1.h,.slice a b1.ws.length ac]⟩,⟨r9,true,fK,[.int .i64 b2.w,.int .i64 b2.h,.slice b b2.ws.length bc]⟩]:=H
 refine fz (hpA H 0 rfl rfl) (fz (hpA H 0 rfl rfl) (fU (hpA H 0 rfl rfl) ?_))
 refine w9 (H.rdO ha) w1 l1 fun r h' hr e=>⟨_,rfl,?_⟩
 replace H:=H.ext e
 refine gN (hr.2 m1) ?_
 refine fz (hpA H 1 rfl rfl) (fz (hpA H 1 rfl rfl) (fU (hpA H 1 rfl rfl) ?_))
 refine w9 (H.rdO hb) w2 l2 fun r h' hr e=>⟨_,rfl,?_⟩
 replace H:=H.ext e
 have hk:=hk _ H.gi
 refine gN (hr.2 m2) ?_
 refine fz (hpA H 0 rfl rfl) (fz (hpA H 1 rfl rfl) (iA (fun h1=>?_) fun h1=>?_))
 ·refine fz (hpA H 0 rfl rfl) (fz (hpA H 1 rfl rfl) (iA (fun h2=>?_) fun h2=>?_))
  ·refine fU (hpA H 0 rfl rfl) (fU (hpA H 1 rfl rfl) ?_)
   refine Qg (H.rdO ha) (H.rdO hb) l1 ⟨_,rfl,?_⟩
   have e:decide (b1.ws=b2.ws)=decide (b1.w=b2.w/\b1.h=b2.h/\b1.ws=b2.ws):=by rw [decide_eq_decide]; simp [h1,h2]
   rw [e]
   exact hk
  ·rw [decide_eq_false (fun e=>h2 e.2.1)] at hk
   exact hk
 ·rw [decide_eq_false (fun e=>h1 e.1)] at hk
  exact hk
end
def l7 (sy:List Bmp) (s:Int):Bmp:=sy.getD s.toNat ⟨0,0,[]⟩
def mC (rf:Bool) (sy:List Bmp) (i:Ins):Prop:=(0<=i.s/\i.s<sy.length)/\(-1048576<=i.x/\i.x<=1048576)/\(-1048576<=i.y/\i.y<=1048576) /\
 (i.d=false->i.b.w=0/\i.b.h=0/\i.b.ws=[])/\(i.d=true->rf=true/\i.b.may/\i.b.w=(l7 sy i.s).w/\i.b.h=(l7 sy i.s).h/\i.b.ws≠(l7 sy i.s).ws)
section
variable {hB:Heap} {K:VK} {Kp:PK}
theorem qj {n low:Int} (hk:K (.bool (decide (low<=n/\n<=1048576))) hB):CP mj #[.int .i64 n,.int .i64 low] hB K Kp:=by
 refine DM ?_
 unfold zg
 refine fL (fun h1=>?_) fun h1=>?_
 ·rw [show decide (low<=n/\n<=1048576)=decide (n<=1048576) by rw [decide_eq_decide]; omega] at hk
  exact hk
 ·rw [decide_eq_false (by omega)] at hk
  exact hk
theorem L5 {n:Int} (hk:K (.bool (decide (-1048576<=n/\n<=1048576))) hB):CP oe #[.int .i64 n] hB K Kp:=by
 refine zO ?_
 unfold tF
 refine fL (fun h1=>?_) fun h1=>?_
 ·rw [show decide (-1048576<=n/\n<=1048576)=decide (n<=1048576) by rw [decide_eq_decide]; omega] at hk
  exact hk
 ·rw [decide_eq_false (by omega)] at hk
  exact hk
set_option maxHeartbeats 1000000 in
theorem JR {t:Reg14} {q q2:Option Addr} {n c c2:Nat} {sy:List Bmp} {o:OwI} (hs:o7 hB q2 sy) (hm:xB sy) (ho:o.Vw hB) (hk:∀ r h',(r=true↔mC t.rf sy o.i)->gi hB h'->K (.bool r) h') :
  CP tV #[t.ag q n c,.slice q2 sy.length c2,o.ag] hB K Kp:=by
 refine BU ?_
 unfold wc
 have H:=Hp.nil hB []
 refine fV H fun r17 h H=>?_
 refine fV H fun r19 h H=>?_
 have H:Hp hB [] h [⟨r17,true,fR,t.cs q n c⟩,⟨r19,true,fM,o.cs⟩]:=H
 have no:∀ {h'},gi hB h'->¬ mC t.rf sy o.i->K (.bool false) h':=fun e hn=>hk _ _ ⟨(fun hh=>by cases hh),fun hh=>absurd hh hn⟩ e
 refine fz (hpA H 1 rfl rfl) (fL (fun h1=>no H.gi fun hh=>by have:=hh.1; omega) fun h1=>?_)
 refine fz (hpA H 1 rfl rfl) (fL (fun h2=>no H.gi fun hh=>by have:=hh.1; omega) fun h2=>?_)
 refine fz (hpA H 1 rfl rfl) (qj ⟨_,rfl,oI (fun h3=>no H.gi fun hh=>h3 hh.2.1) fun h3=>?_⟩)
 refine fz (hpA H 1 rfl rfl) (qj ⟨_,rfl,oI (fun h4=>no H.gi fun hh=>h4 hh.2.2.1) fun h4=>?_⟩)
 refine gT (hpA H 1 rfl rfl) (iM (fun hd=>?_) fun hd=>?_)
 ·refine fz (hpB H 1 rfl rfl) (iA (fun h5=>?_) fun h5=>no H.gi fun hh=>h5 (hh.2.2.2.1 hd).1)
  refine fz (hpB H 1 rfl rfl) (iA (fun h6=>?_) fun h6=>no H.gi fun hh=>h6 (hh.2.2.2.1 hd).2.1)
  refine fU (hpB H 1 rfl rfl) (hk _ _ ?_ H.gi)
  rw [beq_iff_eq]
  refine ⟨fun hh=>⟨⟨by omega,by omega⟩,h3,h4,fun _=>⟨h5,h6,gF (by omega)⟩,fun hd'=>by rw [hd] at hd'; cases hd'⟩,fun hh=>?_⟩
  rw [(hh.2.2.2.1 hd).2.2]
  rfl
 ·obtain ⟨s,hsy⟩:∃ s,sy[o.i.s.toNat]? = some s:=⟨_,fP (by omega)⟩
  have hsym:l7 sy o.i.s=s:=by
   unfold l7
   rw [fY,hsy]
   rfl
  have hms:s.may:=hm s (fS hsy)
  obtain ⟨a,q3,c3,rfl,hc0⟩:=hs _ s hsy
  have hc:=hc0.ext H.gi
  refine fz (hpA H 1 rfl rfl) (fH (by omega) (gv (a:=a) ?_))
  refine fz hc.c0 (fz hc.c1 (fU hc.c2 ?_))
  refine fV H fun r40 h H=>?_
  have H:Hp hB [] h [⟨r17,true,fR,t.cs q n c⟩,⟨r19,true,fM,o.cs⟩,⟨r40,true,fK,[.int .i64 0,.int .i64 0,.slice none 0 0]⟩]:=H
  repeat first | with_reducible refine stA H 2 (by with_unfolding_all exact rfl) (by with_unfolding_all exact rfl) (by with_unfolding_all exact rfl) fun h H=>?_ | with_reducible refine st0 H 2 (by with_unfolding_all exact rfl) (by with_unfolding_all exact rfl) (by with_unfolding_all exact rfl) fun h H=>?_ | with_reducible refine stB H 2 (by with_unfolding_all exact rfl) (by with_unfolding_all exact rfl) (by with_unfolding_all exact rfl) fun h H=>?_
  have H:Hp hB [] h [⟨r17,true,fR,t.cs q n c⟩,⟨r19,true,fM,o.cs⟩,⟨r40,true,fK,[.int .i64 s.w,.int .i64 s.h,.slice q3 s.ws.length c3]⟩]:=H
  refine gT (hpA H 0 rfl rfl) (gP (fun h5=>?_) fun h5=>no H.gi fun hh=>by have:=(hh.2.2.2.2 hd).1; rw [h5] at this; cases this)
  refine fz (hpB H 1 rfl rfl) (fz (hpB H 1 rfl rfl) (fU (hpB H 1 rfl rfl) ?_))
  refine w9 (H.rdO ho.r) ho.w ho.l fun r h' hr e=>⟨_,rfl,?_⟩
  replace H:=H.ext e
  refine gP (fun h6=>?_) fun h6=>no H.gi fun hh=>by have:=hr.2 (hh.2.2.2.2 hd).2.1; rw [h6] at this; cases this
  have hmo:=hr.1 h6
  refine fz (hpB H 1 rfl rfl) (fz (hpA H 2 rfl rfl) (iA (fun h7=>?_) fun h7=>no H.gi fun hh=>h7 (by rw [(hh.2.2.2.2 hd).2.2.1,hsym])))
  refine fz (hpB H 1 rfl rfl) (fz (hpA H 2 rfl rfl) (iA (fun h8=>?_) fun h8=>no H.gi fun hh=>h8 (by rw [(hh.2.2.2.2 hd).2.2.2.1,hsym])))
  refine fz (hpB H 1 rfl rfl) (fz (hpB H 1 rfl rfl) (fU (hpB H 1 rfl rfl) ?_))
  refine fz (hpA H 2 rfl rfl) (fz (hpA H 2 rfl rfl) (fU (hpA H 2 rfl rfl) ?_))
  refine J7 (b1:=o.i.b) (b2:=s) (H.rdO ho.r) (H.rdO hc0.r1) ho.w hc0.w1 ho.l hc0.l1 hmo hms fun h' e=>⟨_,rfl,hk _ _ ?_ (H.gi.trans e)⟩
  rw [jN,decide_eq_false_iff_not]
  refine ⟨fun hh=>⟨⟨by omega,by omega⟩,h3,h4,(fun hd'=>by rw [hd] at hd'; cases hd'),fun _=>⟨h5,hmo,by rw [hsym]; exact h7,by rw [hsym]; exact h8,fun hw=>hh ⟨h7,h8,by rw [hsym] at hw; exact hw⟩⟩⟩,fun hh hw=>(hh.2.2.2.2 hd).2.2.2.2 (by rw [hsym]; exact hw.2.2)⟩
set_option maxHeartbeats 1000000 in
theorem Nd {t:Reg14} {q q2:Option Addr} {n c c2:Nat} {sy:List Bmp} {o:OwI} (hs:o7 hB q2 sy) (hm:xB sy) (ho:o.Vw hB) (hk:∀ r h',(r=true↔mC t.rf sy o.i)->gi hB h'->K (.bool r) h') :
  CP mY #[t.ag q n c,o.ag,.slice q2 sy.length c2] hB K Kp:=by
 refine uq ?_
 unfold nA
 have H:=Hp.nil hB []
 refine fV H fun r17 h H=>?_
 refine fV H fun r19 h H=>?_
 have H:Hp hB [] h [⟨r17,true,fR,t.cs q n c⟩,⟨r19,true,fM,o.cs⟩]:=H
 have no:∀ {h'},gi hB h'->¬ mC t.rf sy o.i->K (.bool false) h':=fun e hn=>hk _ _ ⟨(fun hh=>by cases hh),fun hh=>absurd hh hn⟩ e
 refine fz (hpA H 1 rfl rfl) (fL (fun h1=>no H.gi fun hh=>by have:=hh.1; omega) fun h1=>?_)
 refine fz (hpA H 1 rfl rfl) (fL (fun h2=>no H.gi fun hh=>by have:=hh.1; omega) fun h2=>?_)
 refine fz (hpA H 1 rfl rfl) (L5 ⟨_,rfl,oI (fun h3=>no H.gi fun hh=>h3 hh.2.1) fun h3=>?_⟩)
 refine fz (hpA H 1 rfl rfl) (L5 ⟨_,rfl,oI (fun h4=>no H.gi fun hh=>h4 hh.2.2.1) fun h4=>?_⟩)
 refine gT (hpA H 1 rfl rfl) (iM (fun hd=>?_) fun hd=>?_)
 ·refine fz (hpB H 1 rfl rfl) (iA (fun h5=>?_) fun h5=>no H.gi fun hh=>h5 (hh.2.2.2.1 hd).1)
  refine fz (hpB H 1 rfl rfl) (iA (fun h6=>?_) fun h6=>no H.gi fun hh=>h6 (hh.2.2.2.1 hd).2.1)
  refine fU (hpB H 1 rfl rfl) (hk _ _ ?_ H.gi)
  rw [beq_iff_eq]
  refine ⟨fun hh=>⟨⟨by omega,by omega⟩,h3,h4,fun _=>⟨h5,h6,gF (by omega)⟩,fun hd'=>by rw [hd] at hd'; cases hd'⟩,fun hh=>?_⟩
  rw [(hh.2.2.2.1 hd).2.2]
  rfl
 ·obtain ⟨s,hsy⟩:∃ s,sy[o.i.s.toNat]? = some s:=⟨_,fP (by omega)⟩
  have hsym:l7 sy o.i.s=s:=by
   unfold l7
   rw [fY,hsy]
   rfl
  have hms:s.may:=hm s (fS hsy)
  obtain ⟨a,q3,c3,rfl,hc0⟩:=hs _ s hsy
  have hc:=hc0.ext H.gi
  refine fz (hpA H 1 rfl rfl) (fH (by omega) (gv (a:=a) ?_))
  refine fz hc.c0 (fz hc.c1 (fU hc.c2 ?_))
  refine fV H fun r40 h H=>?_
  have H:Hp hB [] h [⟨r17,true,fR,t.cs q n c⟩,⟨r19,true,fM,o.cs⟩,⟨r40,true,fK,[.int .i64 0,.int .i64 0,.slice none 0 0]⟩]:=H
  repeat first | with_reducible refine stA H 2 (by with_unfolding_all exact rfl) (by with_unfolding_all exact rfl) (by with_unfolding_all exact rfl) fun h H=>?_ | with_reducible refine st0 H 2 (by with_unfolding_all exact rfl) (by with_unfolding_all exact rfl) (by with_unfolding_all exact rfl) fun h H=>?_ | with_reducible refine stB H 2 (by with_unfolding_all exact rfl) (by with_unfolding_all exact rfl) (by with_unfolding_all exact rfl) fun h H=>?_
  have H:Hp hB [] h [⟨r17,true,fR,t.cs q n c⟩,⟨r19,true,fM,o.cs⟩,⟨r40,true,fK,[.int .i64 s.w,.int .i64 s.h,.slice q3 s.ws.length c3]⟩]:=H
  refine gT (hpA H 0 rfl rfl) (gP (fun h5=>?_) fun h5=>no H.gi fun hh=>by have:=(hh.2.2.2.2 hd).1; rw [h5] at this; cases this)
  refine fz (hpB H 1 rfl rfl) (fz (hpB H 1 rfl rfl) (fU (hpB H 1 rfl rfl) ?_))
  refine KZ (H.rdO ho.r) ho.w ho.l fun r h' hr e=>⟨_,rfl,?_⟩
  replace H:=H.ext e
  refine gP (fun h6=>?_) fun h6=>no H.gi fun hh=>by have:=hr.2 (hh.2.2.2.2 hd).2.1; rw [h6] at this; cases this
  have hmo:=hr.1 h6
  refine fz (hpB H 1 rfl rfl) (fz (hpA H 2 rfl rfl) (iA (fun h7=>?_) fun h7=>no H.gi fun hh=>h7 (by rw [(hh.2.2.2.2 hd).2.2.1,hsym])))
  refine fz (hpB H 1 rfl rfl) (fz (hpA H 2 rfl rfl) (iA (fun h8=>?_) fun h8=>no H.gi fun hh=>h8 (by rw [(hh.2.2.2.2 hd).2.2.2.1,hsym])))
  refine fz (hpB H 1 rfl rfl) (fz (hpB H 1 rfl rfl) (fU (hpB H 1 rfl rfl) ?_))
  refine fz (hpA H 2 rfl rfl) (fz (hpA H 2 rfl rfl) (fU (hpA H 2 rfl rfl) ?_))
  refine F5 (H.rdO ho.r) (H.rdO hc0.r1) ho.l fun h' e=>⟨_,rfl,hk _ _ ?_ (H.gi.trans e)⟩
  rw [jN,decide_eq_false_iff_not]
  refine ⟨fun hh=>⟨⟨by omega,by omega⟩,h3,h4,(fun hd'=>by rw [hd] at hd'; cases hd'),fun _=>⟨h5,hmo,by rw [hsym]; exact h7,by rw [hsym]; exact h8,fun hw=>hh ⟨h7,h8,by rw [hsym] at hw; exact hw⟩⟩⟩,fun hh hw=>(hh.2.2.2.2 hd).2.2.2.2 (by rw [hsym]; exact hw.2.2)⟩
end
open Go.Ar (Dec idx iX iE)
section
variable (G R:Int->Int->Bool) (W m:Nat) (dx dy base:Int)
def dsF (n:Nat):List (Nat × Nat):=(List.range n).map fun i=>(kf G R W m dx dy base i,bf G W i)
theorem F7 (n:Nat):dsF G R W m dx dy base (n+1)=dsF G R W m dx dy base n++[(kf G R W m dx dy base n,bf G W n)]:=by
 unfold dsF
 rw [List.range_succ,nS]
 rfl
theorem Mm (n:Nat):(dsF G R W m dx dy base n).length=n:=by simp [dsF]
theorem QN (n:Nat):∀ d∈dsF G R W m dx dy base n,d.2<=1:=fun d hd=>by
 unfold dsF at hd
 obtain ⟨i,_,rfl⟩:=List.mem_map.1 hd
 exact toNat_le _
theorem Pf (L:List (Nat × Nat)):∀ k,runN W R dx dy (yA m base) k (G,cdL m L) = .inl (G,cdL m (L++dsF G R W m dx dy base k))
 | 0=>by simp [runN,dsF]
 | k+1=>by
  unfold runN
  rw [Pf L k]
  simp only [yA,I9]
  rw [F7,<- fC,CO]
  rfl
variable (hG:∀ x y:Int,¬ (0<=x/\x<W/\0<=y)->G x y=false)
include hG
theorem Rn {L:List (Nat × Nat)} {D:Nat->Dec} (hD:Walk L D) (hW:1<=W) {A:List (Nat × Nat)}:∀ k C,L=A++(dsF G R W m dx dy base k++C)->runN W R dx dy (stepG m base) k (fun _ _=>false,D A.length) = .inl (vI G W k,D (A++dsF G R W m dx dy base k).length)
 | 0,C,hL=>by
  have:vI G W 0=fun _ _=>false:=by
   funext x y
   unfold vI
   rw [decide_eq_false (by omega),nv]
  rw [this]
  simp [runN,dsF]
 | k+1,C,hL=>by
  have hL2:L=(A++dsF G R W m dx dy base k)++(kf G R W m dx dy base k,bf G W k)::C:=by
   rw [hL,F7]
   simp
  have hs:=hD.at hL2
  have hx:k % W<W:=iP _ (by omega)
  have hi2:k / W*W+k % W=k:=by rw [gS]; exact Nat.div_add_mod k W
  have h1:=On G R W dx dy hG (x:=k % W) (y:=k / W) hx
  have h2:=KS G W hG (x:=k % W) (y:=k / W) hx
  rw [hi2] at h1 h2
  unfold runN
  rw [Rn hD hW k ((kf G R W m dx dy base k,bf G W k)::C) (hL2.trans (fC _ _ _))]
  simp only [stepG]
  rw [h1]
  have hk:idx (base+((CM G R dx dy ((k % W:Nat):Int) ((k / W:Nat):Int):Nat):Int)) m=kf G R W m dx dy base k:=rfl
  rw [hk,hs]
  have hbit:decide (bf G W k=1)=G ((k % W:Nat):Int) ((k / W:Nat):Int):=by
   unfold bf
   cases G ((k % W:Nat):Int) ((k / W:Nat):Int) <;> rfl
  dsimp only
  rw [hbit,h2,F7]
  simp [tZ]
end
def HV (t:Reg14):Prop:=jX t.w t.h/\(0<=t.x/\t.x<=1048576)/\(0<=t.y/\t.y<=1048576)/\(0<=t.op/\t.op<=4)/\(0<=t.df/\t.df<=1)/\(0<=t.st/\t.st<=3)
def vm (t:Reg14) (sy:List Bmp) (l:List Ins):Prop:=xB sy/\HV t/\∀ i∈l,mC t.rf sy i
def arI (l:List Ins):Nat:=(l.map fun i=>i.b.w.toNat*i.b.h.toNat).sum
open Classical in
noncomputable def qz (t:Reg14) (sy:List Bmp) (l:List Ins):Int:=if ¬ vm t sy l then 140 else if 4096<sy.length\/16384<l.length\/1048576<arI l then 120 else 0
section
variable {t:Reg14} {sy:List Bmp} {l:List Ins}
theorem Ge (h:¬ vm t sy l):qz t sy l=140:=by unfold qz; rw [if_pos h]
theorem uX (h:vm t sy l) (h2:4096<sy.length\/16384<l.length\/1048576<arI l):qz t sy l=120:=by unfold qz; rw [if_neg (fun hh=>hh h),if_pos h2]
theorem IV (h:vm t sy l) (h2:¬ (4096<sy.length\/16384<l.length\/1048576<arI l)):qz t sy l=0:=by unfold qz; rw [if_neg (fun hh=>hh h),if_neg h2]
theorem uE (h:qz t sy l=0):vm t sy l/\sy.length<=4096/\l.length<=16384/\arI l<=1048576:=by
 by_cases h1:vm t sy l
 ·by_cases h2:4096<sy.length\/16384<l.length\/1048576<arI l
  ·rw [uX h1 h2] at h; cases h
  ·exact ⟨h1,by omega,by omega,by omega⟩
 ·rw [Ge h1] at h; cases h
theorem Kr (i:Ins) (l:List Ins):arI (i::l)=i.b.w.toNat*i.b.h.toNat+arI l:=rfl
theorem Gr (l:List Ins) (i:Ins):arI (l++[i])=arI l+i.b.w.toNat*i.b.h.toNat:=by
 unfold arI
 rw [nS,List.sum_append]
 simp
theorem Kq {a b:List Ins} (h:a.Perm b):arI a=arI b:=(h.map _).sum_nat
theorem mC.rN {rf:Bool} {i:Ins} (h:mC rf sy i):(i.b.w=0/\i.b.h=0)\/i.b.may:=by
 cases hd:i.d with
 | false=>exact .inl ⟨(h.2.2.2.1 hd).1,(h.2.2.2.1 hd).2.1⟩
 | true=>exact .inr (h.2.2.2.2 hd).2.1
theorem mC.nat {rf:Bool} {i:Ins} (h:mC rf sy i):∃ W X:Nat,i.b.w=(W:Int)/\i.b.h=(X:Int)/\W*X<=1048576:=by
 rcases h.rN with ⟨h1,h2⟩ | h1
 ·exact ⟨0,0,h1,h2,by omega⟩
 ·obtain ⟨W,X,e1,e2,hW1,hW2,hX1,hX2,hWX⟩:=jf h1.1
  exact ⟨W,X,e1,e2,hWX⟩
theorem PM:∀ (l:List Ins),(∀ i∈l,mC t.rf sy i)->arI l<=l.length*1048576
 | [],_=>km _
 | i::l,h=>by
  have ih:=PM l fun x hx=>h x (gK _ hx)
  obtain ⟨W,X,e1,e2,hWX⟩:=(h i (jc ..)).nat
  rw [Kr,gp,e1,e2,fD,fD,gZ]
  omega
end
theorem zp {rf:Bool} {sy:List Bmp} {i:Ins} (h:mC rf sy i):sy[i.s.toNat]? = some (l7 sy i.s):=by
 obtain ⟨s,hs⟩:∃ s,sy[i.s.toNat]? = some s:=⟨_,fP (by have:=h.1; omega)⟩
 unfold l7
 rw [fY,hs]
 rfl
def wdF:Nat->Nat->Nat->Nat
 | 0,_,w=>w
 | f+1,n,w=>if 2 ^ w<n then wdF f n (w+1) else w
def wid (n:Nat):Nat:=wdF 12 n 0
theorem NL {n:Nat} (h:n<=4096):∀ f w,w+f=12->n<=2 ^ wdF f n w/\wdF f n w<=12
 | 0,w,hw=>by
  obtain rfl:w=12:=by omega
  exact ⟨h,gg _⟩
 | f+1,w,hw=>by
  unfold wdF
  split
  ·exact NL h f (w+1) (by omega)
  ·exact ⟨by omega,by omega⟩
theorem H7 {n:Nat} (h:n<=4096):n<=2 ^ wid n/\wid n<=12:=NL h 12 0 rfl
def Bf:List (Nat × Nat):=nY 14337 1024 0 true
def KO (sy:List Bmp) (i:Ins):List (Nat × Nat):=dsF (jR i.b.ws i.b.w.toNat i.b.h.toNat) (jR (l7 sy i.s).ws (l7 sy i.s).w.toNat (l7 sy i.s).h.toNat) i.b.w.toNat 14337 0 0 6145 (i.b.h.toNat*i.b.w.toNat)
def DB (rf:Bool) (sy:List Bmp) (i:Ins):List (Nat × Nat):=if rf=true then (if i.d=true then [(idx 6144 14337,1)]++KO sy i else [(idx 6144 14337,0)]) else []
def zu (st:Nat) (y:Int):Int:=y-flo y st*2 ^ st
def rL (t:Reg14) (sy:List Bmp) (i:Ins):List (Nat × Nat) :=
 (if 0<t.st then nY 14337 1536 (zu t.st.toNat i.y) false else [])++(wx 14337 2048 (wid sy.length) i.s.toNat++DB t.rf sy i)
def Lq (t:Reg14) (i:Ins) (s f:Int):List (Nat × Nat):=nY 14337 0 (flo i.y t.st.toNat-s) false++nY 14337 512 (i.x-f) false
def m7 (t:Reg14) (sy:List Bmp):List Ins->Int->Int->Int->Bool->List (Nat × Nat)
 | [],_,_,_,b=>if b=true then Bf else []
 | i::l,s,f,x,b=>if b=true/\flo i.y t.st.toNat=s then nY 14337 1024 (i.x-x) false++(rL t sy i++m7 t sy l s f i.x true)
  else (if b=true then Bf else [])++(Lq t i s f++(rL t sy i++m7 t sy l (flo i.y t.st.toNat) i.x i.x true))
def yv (t:Reg14) (sy:List Bmp) (l:List Ins):List (Nat × Nat):=m7 t sy (rX t.st.toNat l) 0 0 0 false
def td (t:Reg14):Nat:=t.op.toNat+16*t.df.toNat+32*t.st.toNat+if t.rf=true then 8 else 0
def pH (t:Reg14) (n:Nat):List Nat:=grp t.x.toNat++(grp t.y.toNat++(grp t.w.toNat++(grp t.h.toNat++([td t]++grp n))))
def s7 (t:Reg14) (sy:List Bmp) (l:List Ins):List Nat:=pH t l.length++iX (iE (cdL 14337 (yv t sy l)))
noncomputable def yK (t:Reg14) (sy:List Bmp) (l:List Ins):List Nat:=if qz t sy l=0 then s7 t sy l else []
section
variable {t:Reg14} {sy:List Bmp}
theorem Hi:Bf.length<=39:=ow _ _ _ _
theorem Hj:∀ d∈Bf,d.2<=1:=zF _ _ _ _
theorem O0 {i:Ins} (hi:mC t.rf sy i) (hs:sy.length<=4096):(rL t sy i).length<=52+i.b.w.toNat*i.b.h.toNat:=by
 have h1:=ow 14337 1536 (zu t.st.toNat i.y) false
 have h2:=F6 14337 2048 (wid sy.length) i.s.toNat
 have h3:=(H7 hs).2
 have h4:(DB t.rf sy i).length<=1+i.b.w.toNat*i.b.h.toNat:=by
  unfold DB
  split
  ·split
   ·rw [fA]
    unfold KO
    rw [Mm,gS]
    exact gg _
   ·exact vr _ _
  ·exact km _
 unfold rL
 rw [fA,fA,h2]
 split
 ·omega
 ·show 0+_<=_
  omega
theorem JT {i:Ins}:∀ d∈rL t sy i,d.2<=1:=fun d hd=>by
 unfold rL at hd
 rcases List.mem_append.1 hd with hd | hd
 ·split at hd
  ·exact zF _ _ _ _ d hd
  ·cases hd
 rcases List.mem_append.1 hd with hd | hd
 ·exact Pk _ _ _ _ d hd
 unfold DB at hd
 split at hd
 ·split at hd
  ·rcases List.mem_append.1 hd with hd | hd
   ·rw [List.mem_singleton.1 hd]; exact gg _
   ·exact QN _ _ _ _ _ _ _ _ d hd
  ·rw [List.mem_singleton.1 hd]; exact km _
 ·cases hd
theorem PG {i:Ins} {s f:Int}:(Lq t i s f).length<=78:=by
 have h1:=ow 14337 0 (flo i.y t.st.toNat-s) false
 have h2:=ow 14337 512 (i.x-f) false
 unfold Lq
 rw [fA]
 omega
theorem PH {i:Ins} {s f:Int}:∀ d∈Lq t i s f,d.2<=1:=fun d hd=>by
 rcases List.mem_append.1 hd with hd | hd
 ·exact zF _ _ _ _ d hd
 ·exact zF _ _ _ _ d hd
theorem Fk (hs:sy.length<=4096):∀ (l:List Ins) (s f x:Int) (b:Bool),(∀ i∈l,mC t.rf sy i)->(m7 t sy l s f x b).length<=39+l.length*169+arI l
 | [],s,f,x,b,_=>by
  unfold m7
  split
  ·have:=Hi; omega
  ·exact km _
 | i::l,s,f,x,b,h=>by
  have hi:=O0 (h i (jc ..)) hs
  have h1:=Hi
  have h2:=PG (t:=t) (i:=i) (s:=s) (f:=f)
  have h3:=ow 14337 1024 (i.x-x) false
  have hl:∀ x' hx',_:=fun x' (hx':x'∈l)=>h x' (gK _ hx')
  unfold m7
  rw [gp,Kr,gZ]
  split
  ·have ih:=Fk hs l s f i.x true hl
   rw [fA,fA]
   omega
  ·have ih:=Fk hs l (flo i.y t.st.toNat) i.x i.x true hl
   rw [fA,fA,fA]
   have h4:(if b=true then Bf else []).length<=39:=by
    split
    ·exact h1
    ·exact km _
   omega
theorem Fm:∀ (l:List Ins) (s f x:Int) (b:Bool),∀ d∈m7 t sy l s f x b,d.2<=1
 | [],s,f,x,b=>fun d hd=>by
  unfold m7 at hd
  split at hd
  ·exact Hj d hd
  ·cases hd
 | i::l,s,f,x,b=>fun d hd=>by
  unfold m7 at hd
  split at hd
  ·rcases List.mem_append.1 hd with hd | hd
   ·exact zF _ _ _ _ d hd
   rcases List.mem_append.1 hd with hd | hd
   ·exact JT d hd
   ·exact Fm l _ _ _ _ d hd
  ·rcases List.mem_append.1 hd with hd | hd
   ·split at hd
    ·exact Hj d hd
    ·cases hd
   rcases List.mem_append.1 hd with hd | hd
   ·exact PH d hd
   rcases List.mem_append.1 hd with hd | hd
   ·exact JT d hd
   ·exact Fm l _ _ _ _ d hd
theorem Av (st:Nat) (l:List Ins):l.Perm (rX st l):=(Cs l).1.perm
theorem qI (st:Nat) (l:List Ins):(rX st l).length=l.length:=(Av st l).length_eq.symm
theorem s8 {st:Nat} {l:List Ins} {i:Ins}:i∈rX st l↔i∈l:=(Av st l).mem_iff.symm
theorem xz {l:List Ins} (h:∀ i∈l,mC t.rf sy i) (hs:sy.length<=4096) (hl:l.length<=16384) (ha:arI l<=1048576):(yv t sy l).length<=4000000/\∀ d∈yv t sy l,d.2<=1:=by
 have h1:=Fk (t:=t) hs (rX t.st.toNat l) 0 0 0 false fun i hi=>h i (s8.1 hi)
 rw [qI,<- Kq (Av t.st.toNat l)] at h1
 exact ⟨iL h1 (by omega),Fm _ _ _ _ _⟩
theorem By {l:List Ins} {s f x:Int} (h:∀ i,l[0]? = some i->flo i.y t.st.toNat≠s):m7 t sy l s f x true=Bf++m7 t sy l s f x false:=by
 cases l with
 | nil =>
  unfold m7
  rw [if_pos rfl,if_neg (by decide),fT]
 | cons i l =>
  unfold m7
  rw [if_neg (fun hh=>h i rfl hh.2),if_pos rfl,if_neg (fun hh=>by cases hh.1),if_neg (by decide),gd]
end
section
variable {hB:Heap} {K:VK} {Kp:PK}
theorem Kh {q:Option Addr} {c:Nat} {l:List Bmp} {fv:Value} (hv:o7 hB q l) (hl:l.length<=1000000000000)
  (hf:∀ h (b:Bmp) q1 c1 K1,gi hB h->rdO h q1 (b.ws.length*1) (il b.ws)->W64 b.ws->b.ws.length<140737488351300->(∀ (r:Bool) h',(r=true↔¬ b.may)->gi h h'->K1 (.bool r) h')->oy CP Kp fv [.agg #[.int .i64 b.w,.int .i64 b.h,.slice q1 b.ws.length c1]] h K1)
  (hk:∀ (r:Bool) h',(r=true↔¬ xB l)->gi hB h'->K (.bool r) h'):CP jd #[.slice q l.length c,fv] hB K Kp:=by
 refine mV ?_
 unfold jS
 refine nj ?_
 unfold ka
 refine ⟨fun m vs h'=>∃ i:Nat,i+m=l.length/\vs=[.int .i64 (i:Nat)]/\xB (l.take i)/\gi hB h',⟨l.length,0,by omega,rfl,(fun b hb=>by cases hb),gi.refl _⟩,?_⟩
 rintro m h u xx ⟨i,him,hxx,hm,e⟩
 injection hxx with hxx
 injection hxx with _ hxx
 subst xx
 refine fL (fun h1=>?_) fun h1=>?_
 ·obtain ⟨b,hb⟩:∃ b,l[i]? = some b:=⟨_,fP (by omega)⟩
  obtain ⟨a,q1,c1,rfl,hc⟩:=hv i b hb
  have hc:=hc.ext e
  refine fH (by omega) (gv (a:=a) ?_)
  rw [fD]
  refine fz hc.c0 (fz hc.c1 (fU hc.c2 ?_))
  refine hf h b q1 c1 _ e hc.r1 hc.w1 hc.l1 fun r h' hr e'=>?_
  refine ⟨_,rfl,?_⟩
  refine gP (fun h2=>?_) fun h2=>?_
  ·refine ⟨_,rfl,hk _ _ ?_ (e.trans e')⟩
   rw [decide_eq_true (by omega)]
   exact ⟨fun _ hh=>(hr.1 h2) (hh b (fS hb)),fun _=>rfl⟩
  ·refine fw (((i+1:Nat):Int)) (by exact fO _ _ (by omega) (by omega) (by omega)) ?_
   refine ⟨m-1,by omega,i+1,by omega,rfl,hm.take hb (Classical.byContradiction fun hn=>?_),e.trans e'⟩
   have:=hr.2 hn
   rw [h2] at this
   cases this
 ·refine ⟨_,rfl,hk _ _ ?_ e⟩
  rw [decide_eq_false (by omega)]
  rw [gz (by omega)] at hm
  exact ⟨(fun hh=>by cases hh),fun hh=>absurd hm hh⟩
theorem Pt {q:Option Addr} {c:Nat} {l:List Ins} {P:Ins->Prop} {fv:Value} (hv:rj hB q l) (hl:l.length<=1000000000000)
  (hf:∀ h (o:OwI) K1,gi hB h->o.Vw h->(∀ (r:Bool) h',(r=true↔¬ P o.i)->gi h h'->K1 (.bool r) h')->oy CP Kp fv [o.ag] h K1)
  (hk:∀ (r:Bool) h',(r=true↔¬ ∀ i∈l,P i)->gi hB h'->K (.bool r) h'):CP iB #[.slice q l.length c,fv] hB K Kp:=by
 obtain ⟨O,rfl,hr,hvw⟩:=hv
 rw [iu] at hr hl ⊢
 refine my ?_
 unfold jE
 refine mN ?_
 unfold jQ
 refine ⟨fun m vs h'=>∃ i:Nat,i+m=O.length/\vs=[.int .i64 (i:Nat)]/\(∀ o∈O.take i,P o.i)/\gi hB h',⟨O.length,0,by omega,rfl,(fun b hb=>by cases hb),gi.refl _⟩,?_⟩
 rintro m h u xx ⟨i,him,hxx,hm,e⟩
 injection hxx with hxx
 injection hxx with _ hxx
 subst xx
 refine fL (fun h1=>?_) fun h1=>?_
 ·obtain ⟨o,ho⟩:∃ o,O[i]? = some o:=⟨_,fP (by omega)⟩
  obtain ⟨a,ha,cell⟩:=l3 (oa e hr) ho
  refine fH (by omega) (iJ ha ?_)
  rw [fD]
  refine Nf cell ?_
  refine hf h o _ e ((hvw o (fS ho)).ext e) fun r h' hr e'=>?_
  refine ⟨_,rfl,?_⟩
  refine gP (fun h2=>?_) fun h2=>?_
  ·refine ⟨_,rfl,hk _ _ ?_ (e.trans e')⟩
   rw [decide_eq_true (by omega)]
   exact ⟨fun _ hh=>(hr.1 h2) (hh _ (List.mem_map.2 ⟨o,fS ho,rfl⟩)),fun _=>rfl⟩
  ·refine fw (((i+1:Nat):Int)) (by exact fO _ _ (by omega) (by omega) (by omega)) ?_
   refine ⟨m-1,by omega,i+1,by omega,rfl,fun x hx=>?_,e.trans e'⟩
   rw [kC ho] at hx
   rcases List.mem_append.1 hx with hx | hx
   ·exact hm x hx
   ·rw [List.mem_singleton.1 hx]
    refine Classical.byContradiction fun hn=>?_
    have:=hr.2 hn
    rw [h2] at this
    cases this
 ·refine ⟨_,rfl,hk _ _ ?_ e⟩
  rw [decide_eq_false (by omega)]
  rw [gz (by omega)] at hm
  refine ⟨(fun hh=>by cases hh),fun hh=>absurd (fun i hi=>?_) hh⟩
  obtain ⟨o,ho,rfl⟩:=List.mem_map.1 hi
  exact hm o ho
theorem OH {b:Bmp} {q1:Option Addr} {c1:Nat} (hr:rdO hB q1 (b.ws.length*1) (il b.ws)) (hw:W64 b.ws) (hl:b.ws.length<140737488351300) (hk:∀ (r:Bool) h',(r=true↔¬ b.may)->gi hB h'->K (.bool r) h') :
  CP wP #[.agg #[.int .i64 b.w,.int .i64 b.h,.slice q1 b.ws.length c1]] hB K Kp:=by
 refine DP ?_
 unfold zj
 have H:=Hp.nil hB []
 refine fV H fun r1 h H=>?_
 refine fz (hpA H 0 rfl rfl) (fz (hpA H 0 rfl rfl) (fU (hpA H 0 rfl rfl) ?_))
 refine w9 (H.rdO hr) hw hl fun r h' hr' e=>?_
 refine ⟨_,rfl,hk _ _ ?_ (H.gi.trans e)⟩
 cases r with
 | true=>simp; exact hr'.1 rfl
 | false=>simp; exact fun hm=>by have:=hr'.2 hm; cases this
theorem OG {t:Reg14} {q q2:Option Addr} {n c c2:Nat} {sy:List Bmp} {o:OwI} {a0 a1:Addr} (ct:∀ j v,(t.cs q n c)[j]? = some v->ic hB (a0.add j)=some v) (c1:ic hB a1=some (.slice q2 sy.length c2)) (hs:o7 hB q2 sy) (hm:xB sy) (ho:o.Vw hB)
  (hk:∀ (r:Bool) h',(r=true↔¬ mC t.rf sy o.i)->gi hB h'->K (.bool r) h'):CP pJ #[o.ag,.pointer (some a0),.pointer (some a1)] hB K Kp:=by
 refine DO ?_
 unfold zi
 have H:=Hp.nil hB []
 refine fV H fun r8 h H=>?_
 have H:Hp hB [] h [⟨r8,true,fM,o.cs⟩]:=H
 have cell:∀ j v,(t.cs q n c)[j]? = some v->ic h (a0.add j)=some v:=fun j v hv=>H.gi.cell (ct j v hv)
 refine fz (cell 0 _ rfl) (fz (cell 1 _ rfl) (fz (cell 2 _ rfl) (fz (cell 3 _ rfl) (fz (cell 4 _ rfl) (gT (cell 5 _ rfl) (fz (cell 6 _ rfl) (fz (cell 7 _ rfl) (fU (cell 8 _ rfl) ?_))))))))
 refine fU (H.gi.cell c1) ?_
 repeat first | with_reducible refine fz (by with_unfolding_all first | exact hpA H 0 rfl rfl | exact Hp.cell H 0 rfl rfl | exact hpB H 0 rfl rfl | exact hpC H 0 rfl rfl) ?_ | with_reducible refine fU (by with_unfolding_all first | exact hpA H 0 rfl rfl | exact Hp.cell H 0 rfl rfl | exact hpB H 0 rfl rfl | exact hpC H 0 rfl rfl) ?_ | with_reducible refine ja (by with_unfolding_all first | exact hpA H 0 rfl rfl | exact Hp.cell H 0 rfl rfl | exact hpB H 0 rfl rfl | exact hpC H 0 rfl rfl) ?_ | with_reducible refine gT (by with_unfolding_all first | exact hpA H 0 rfl rfl | exact Hp.cell H 0 rfl rfl | exact hpB H 0 rfl rfl | exact hpC H 0 rfl rfl) ?_ | with_reducible refine pj (by with_unfolding_all first | exact hpA H 0 rfl rfl | exact Hp.cell H 0 rfl rfl | exact hpB H 0 rfl rfl | exact hpC H 0 rfl rfl) ?_
 refine JR (t:=t) (hs.ext H.gi) hm (ho.ext H.gi) fun r h' hr e=>⟨_,rfl,hk _ _ ?_ (H.gi.trans e)⟩
 rw [jN,<- hr]
 cases r <;> simp
set_option maxHeartbeats 2000000 in
theorem Qx {t:Reg14} {q q2:Option Addr} {c c2:Nat} {sy:List Bmp} {l:List Ins} (hv:rj hB q l) (hs:o7 hB q2 sy) (hl:l.length<=1000000000000) (hsl:sy.length<=1000000000000) (hk:∀ (r:Bool) h',(r=true↔vm t sy l)->gi hB h'->K (.bool r) h') :
  CP Cg #[t.ag q l.length c,.slice q2 sy.length c2] hB K Kp:=by
 refine GL ?_
 unfold Ff
 have H:=Hp.nil hB []
 refine fV H fun r10 h H=>?_
 refine fV H fun r12 h H=>?_
 have H:Hp hB [] h [⟨r10,true,fR,t.cs q l.length c⟩,⟨r12,true,iF,[.slice q2 sy.length c2]⟩]:=H
 have no:∀ {h'},gi hB h'->¬ vm t sy l->K (.bool false) h':=fun e hn=>hk _ _ ⟨(fun hh=>by cases hh),fun hh=>absurd hh hn⟩ e
 refine fU (H.cell 1 rfl rfl) ?_
 refine Kh (hs.ext H.gi) hsl (fun h b q1 c1 K1 _ hr hw hl hk1=>?_) fun r h' hr e=>⟨_,rfl,?_⟩
 ·unfold oy
  simp only
  exact OH hr hw hl hk1
 replace H:=H.ext e
 refine gP (fun h1=>no H.gi fun hh=>hr.1 h1 hh.1) fun h1=>?_
 have hm:xB sy:=Classical.byContradiction fun hn=>by
  rw [hr.2 hn] at h1
  cases h1
 refine fz (hpA H 0 rfl rfl) (fz (hpA H 0 rfl rfl) ?_)
 refine IA (fun W X p qq h' hW hX hsz H'=>⟨_,_,rfl,?_⟩) fun hn=>⟨_,_,rfl,?_⟩
 rotate_left
 ·refine gN rfl (no H.gi fun hh=>hn hh.2.1.1)
 replace H:=H.ext H'.gi
 clear H'
 refine fZ rfl ?_
 refine fz (hpA H 0 rfl rfl) (qj ⟨_,rfl,oI (fun h2=>no H.gi fun hh=>h2 hh.2.1.2.1) fun h2=>?_⟩)
 refine fz (hpA H 0 rfl rfl) (qj ⟨_,rfl,oI (fun h3=>no H.gi fun hh=>h3 hh.2.1.2.2.1) fun h3=>?_⟩)
 refine fz (hpA H 0 rfl rfl) (fL (fun h4=>no H.gi fun hh=>by have:=hh.2.1.2.2.2.1; omega) fun h4=>?_)
 refine fz (hpA H 0 rfl rfl) (fL (fun h5=>no H.gi fun hh=>by have:=hh.2.1.2.2.2.1; omega) fun h5=>?_)
 have tail:∀ {c':Nat},(0<=t.df/\t.df<=1)->ldI h' ((⟨r10,0,none⟩:Addr).add 7) .i64 (fun x_36=>fI (decide (x_36<(0:Int))) (K (.bool false) h')<|ldI h' ((⟨r10,0,none⟩:Addr).add 7) .i64 fun x_37=>fI (decide (x_37 > (3:Int))) (K (.bool false) h') <|
   ldS h' ((⟨r10,0,none⟩:Addr).add 8) fun x_38 x_38n x_38c=>CP iB #[.slice x_38 x_38n x_38c, .func (.func pJ) #[] #[.pointer (some ⟨r10,0,none⟩),.pointer (some ⟨r12,0,none⟩)]] h' (fun v_39 h_40=>∃ (r_41:Bool),v_39 = .bool r_41/\(K (.bool (!r_41)) h_40)) (Kp)):=fun {_} hdf=>by
  refine fz (hpA H 0 rfl rfl) (fL (fun h6=>no H.gi fun hh=>by have:=hh.2.1.2.2.2.2.2; omega) fun h6=>?_)
  refine fz (hpA H 0 rfl rfl) (fL (fun h7=>no H.gi fun hh=>by have:=hh.2.1.2.2.2.2.2; omega) fun h7=>?_)
  refine fU (hpA H 0 rfl rfl) ?_
  refine Pt (P:=fun i=>mC t.rf sy i) (hv.ext H.gi) hl (fun h o K1 e ho hk1=>?_) fun r h' hr e=>⟨_,rfl,hk _ _ ?_ (H.gi.trans e)⟩
  ·unfold oy
   simp only
   have H:=H.ext e
   exact OG (t:=t) (sy:=sy) (q:=q) (n:=l.length) (c:=c) (fun j v hv=>hpA H 0 rfl (by rw [fN]; exact hv)) (H.cell 1 rfl rfl) (hs.ext H.gi) hm ho hk1
  ·rw [jN]
   constructor
   ·intro h8
    refine ⟨hm,⟨hsz,h2,h3,by omega,hdf,by omega⟩,Classical.byContradiction fun hn=>?_⟩
    rw [hr.2 hn] at h8
    cases h8
   ·intro hh
    cases r with
    | false=>rfl
    | true=>exact absurd hh.2.2 (hr.1 rfl)
 refine fz (hpA H 0 rfl rfl) (jg (fun h6=>?_) fun h6=>tail (c':=0) (by omega))
 refine fz (hpA H 0 rfl rfl) (jg (fun h7=>no H.gi fun hh=>by have:=hh.2.1.2.2.2.2.1; omega) fun h7=>tail (c':=0) (by omega))
set_option maxHeartbeats 2000000 in
theorem Er {t:Reg14} {q q2:Option Addr} {c c2:Nat} {sy:List Bmp} {l:List Ins} (hv:rj hB q l) (hs:o7 hB q2 sy) (hl:l.length<=1000000) (hsl:sy.length<=1000000000000) (hk:∀ h',gi hB h'->K (.int .i64 (qz t sy l)) h') :
  CP rq #[t.ag q l.length c,.slice q2 sy.length c2] hB K Kp:=by
 refine CQ ?_
 unfold xJ
 have H:=Hp.nil hB []
 refine fV H fun r10 h H=>?_
 have H:Hp hB [] h [⟨r10,true,fR,t.cs q l.length c⟩]:=H
 repeat first | with_reducible refine fz (by with_unfolding_all first | exact hpA H 0 rfl rfl | exact Hp.cell H 0 rfl rfl | exact hpB H 0 rfl rfl | exact hpC H 0 rfl rfl) ?_ | with_reducible refine fU (by with_unfolding_all first | exact hpA H 0 rfl rfl | exact Hp.cell H 0 rfl rfl | exact hpB H 0 rfl rfl | exact hpC H 0 rfl rfl) ?_ | with_reducible refine ja (by with_unfolding_all first | exact hpA H 0 rfl rfl | exact Hp.cell H 0 rfl rfl | exact hpB H 0 rfl rfl | exact hpC H 0 rfl rfl) ?_ | with_reducible refine gT (by with_unfolding_all first | exact hpA H 0 rfl rfl | exact Hp.cell H 0 rfl rfl | exact hpB H 0 rfl rfl | exact hpC H 0 rfl rfl) ?_ | with_reducible refine pj (by with_unfolding_all first | exact hpA H 0 rfl rfl | exact Hp.cell H 0 rfl rfl | exact hpB H 0 rfl rfl | exact hpC H 0 rfl rfl) ?_
 refine Qx (t:=t) (hv.ext H.gi) (hs.ext H.gi) (by omega) hsl fun r h' hr e=>⟨_,rfl,?_⟩
 replace H:=H.ext e
 refine iM (fun h1=>?_) fun h1=>?_
 ·have:=hk _ H.gi
  rwa [Ge (fun hh=>by rw [hr.2 hh] at h1; cases h1)] at this
 have hf:=hr.1 h1
 obtain ⟨O,hO,hro,hvw⟩:=hv
 have hOl:O.length=l.length:=by rw [<- hO,iu]
 refine fU (hpA H 0 rfl rfl) ?_
 refine ⟨fun m vs h'=>∃ i:Nat,i+m=l.length/\vs=[.int .i64 ((min (arI (l.take i)) 1048577:Nat):Int),.int .i64 (i:Nat)]/\Hp hB [] h' [⟨r10,true,fR,t.cs q l.length c⟩],⟨l.length,0,by omega,rfl,H⟩,?_⟩
 clear H
 rintro m h u ar xx ⟨i,him,hxx,H⟩
 injection hxx with hx1 hxx
 injection hxx with hx2 hxx
 injection hx1 with _ hx1
 injection hx2 with _ hx2
 subst ar xx
 refine fL (fun h5=>?_) fun h5=>?_
 ·obtain ⟨o,ho⟩:∃ o,O[i]? = some o:=⟨_,fP (by omega)⟩
  have hli:l[i]? = some o.i:=by rw [<- hO,gL,ho]; rfl
  obtain ⟨a,ha,cell⟩:=l3 (oa H.gi hro) ho
  refine fH (by omega) (iJ ha ?_)
  rw [fD]
  refine Nf cell ?_
  refine fV H fun r40 h H=>?_
  have H:Hp hB [] h [⟨r10,true,fR,t.cs q l.length c⟩,⟨r40,true,fM,[.int .i64 0,.int .i64 0,.int .i64 0,.bool false,.int .i64 0,.int .i64 0,.slice none 0 0]⟩]:=H
  repeat first | with_reducible refine stA H 1 (by with_unfolding_all exact rfl) (by with_unfolding_all exact rfl) (by with_unfolding_all exact rfl) fun h H=>?_ | with_reducible refine st0 H 1 (by with_unfolding_all exact rfl) (by with_unfolding_all exact rfl) (by with_unfolding_all exact rfl) fun h H=>?_ | with_reducible refine stB H 1 (by with_unfolding_all exact rfl) (by with_unfolding_all exact rfl) (by with_unfolding_all exact rfl) fun h H=>?_
  refine fz (hpB H 1 rfl rfl) (fz (hpB H 1 rfl rfl) ?_)
  obtain ⟨W,X,e1,e2,hWX⟩:=(hf.2.2 _ (fS hli)).nat
  have hA:arI (l.take (i+1))=arI (l.take i)+W*X:=by rw [kC hli,Gr,e1,e2,fD,fD]
  have hm:o.i.b.w*o.i.b.h=((W*X:Nat):Int):=by rw [e1,e2]; simp
  refine fw (((W*X:Nat):Int)) (by exact fO _ _ hm (by omega) (by omega)) ?_
  refine fw (((min (arI (l.take i)) 1048577+W*X:Nat):Int)) (by exact fO _ _ (by omega) (by omega) (by omega)) ?_
  refine fw (((min (arI (l.take (i+1))) 1048577:Nat):Int)) (by (rw [hA]; unfold JD; split <;> omega)) ?_
  refine fw (((i+1:Nat):Int)) (by exact fO _ _ (by omega) (by omega) (by omega)) ?_
  exact ⟨m-1,by omega,i+1,by omega,rfl,H.take 1⟩
 ·obtain rfl:i=l.length:=by omega
  rw [gz (gg _)]
  refine fL (fun h6=>?_) fun h6=>?_
  ·have:=hk _ H.gi
   rwa [uX hf (.inl (by omega))] at this
  refine fU (hpA H 0 rfl rfl) (fL (fun h7=>?_) fun h7=>?_)
  ·have:=hk _ H.gi
   rwa [uX hf (.inr (.inl (by omega)))] at this
  ·refine fL (fun h8=>?_) fun h8=>?_
   ·have:=hk _ H.gi
    rwa [uX hf (.inr (.inr (by omega)))] at this
   ·have:=hk _ H.gi
    rwa [IV hf (by omega)] at this
theorem JE {q:Option Addr} {c:Nat} {l:List Bmp} (hv:o7 hB q l) (hl:l.length<=1000000000000) (hk:∀ (r:Bool) h',(r=true↔xB l)->gi hB h'->K (.bool r) h'):CP pv #[.slice q l.length c] hB K Kp:=by
 refine x8 ?_
 unfold qQ
 refine ⟨fun m vs h'=>∃ i:Nat,i+m=l.length/\vs=[.int .i64 (i:Nat)]/\xB (l.take i)/\gi hB h',⟨l.length,0,by omega,rfl,(fun b hb=>by cases hb),gi.refl _⟩,?_⟩
 rintro m h u xx ⟨i,him,hxx,hm,e⟩
 injection hxx with hxx
 injection hxx with _ hxx
 subst xx
 refine fL (fun h1=>?_) fun h1=>?_
 ·obtain ⟨b,hb⟩:∃ b,l[i]? = some b:=⟨_,fP (by omega)⟩
  obtain ⟨a,q1,c1,rfl,hc⟩:=hv i b hb
  have hc:=hc.ext e
  refine fH (by omega) (gv (a:=a) ?_)
  rw [fD]
  refine fz hc.c0 (fz hc.c1 (fU hc.c2 ?_))
  refine KZ hc.r1 hc.w1 hc.l1 fun r h' hr e'=>?_
  refine ⟨_,rfl,?_⟩
  refine iM (fun h2=>?_) fun h2=>?_
  ·refine hk _ _ ⟨fun hh=>by (cases hh),fun hh=>?_⟩ (e.trans e')
   have:=hr.2 (hh b (fS hb))
   rw [h2] at this
   exact this
  ·refine fw (((i+1:Nat):Int)) (by exact fO _ _ (by omega) (by omega) (by omega)) ?_
   exact ⟨m-1,by omega,i+1,by omega,rfl,hm.take hb (hr.1 h2),e.trans e'⟩
 ·refine hk _ _ ⟨fun _=>?_,fun _=>rfl⟩ e
  rw [gz (by omega)] at hm
  exact hm
set_option maxHeartbeats 2000000 in
theorem Kn {t:Reg14} {q q2:Option Addr} {c c2:Nat} {sy:List Bmp} {l:List Ins} (hv:rj hB q l) (hs:o7 hB q2 sy) (hl:l.length<=1000000) (hsl:sy.length<=1000000000000) (hk:∀ h',gi hB h'->K (.int .i64 (qz t sy l)) h') :
  CP o0 #[t.ag q l.length c,.slice q2 sy.length c2] hB K Kp:=by
 refine AW ?_
 unfold va
 have H:=Hp.nil hB []
 refine fV H fun r10 h H=>?_
 have H:Hp hB [] h [⟨r10,true,fR,t.cs q l.length c⟩]:=H
 have no:∀ {h'},gi hB h'->¬ vm t sy l->K (.int .i64 140) h':=fun e hf=>by have:=hk _ e; rwa [Ge hf] at this
 refine JE (hs.ext H.gi) hsl fun r h' hr e=>⟨_,rfl,?_⟩
 replace H:=H.ext e
 refine iM (fun h1=>no H.gi fun hh=>by rw [hr.2 hh.1] at h1; cases h1) fun h1=>?_
 have hm:xB sy:=hr.1 h1
 refine fz (hpA H 0 rfl rfl) (fz (hpA H 0 rfl rfl) (Fu fun b hb=>⟨_,rfl,?_⟩))
 refine iM (fun h2=>no H.gi fun hh=>by rw [hb.2 hh.2.1.1] at h2; cases h2) fun h2=>?_
 have hsz:=hb.1 h2
 refine fz (hpA H 0 rfl rfl) (fL (fun h3=>no H.gi fun hh=>by have:=hh.2.1.2.1; omega) fun h3=>?_)
 refine fz (hpA H 0 rfl rfl) (fL (fun h4=>no H.gi fun hh=>by have:=hh.2.1.2.2.1; omega) fun h4=>?_)
 refine fz (hpA H 0 rfl rfl) (fL (fun h5=>no H.gi fun hh=>by have:=hh.2.1.2.1; omega) fun h5=>?_)
 refine fz (hpA H 0 rfl rfl) (fL (fun h6=>no H.gi fun hh=>by have:=hh.2.1.2.2.1; omega) fun h6=>?_)
 refine fz (hpA H 0 rfl rfl) (fL (fun h7=>no H.gi fun hh=>by have:=hh.2.1.2.2.2.1; omega) fun h7=>?_)
 refine fz (hpA H 0 rfl rfl) (fL (fun h8=>no H.gi fun hh=>by have:=hh.2.1.2.2.2.1; omega) fun h8=>?_)
 refine fz (hpA H 0 rfl rfl) (fL (fun h9=>no H.gi fun hh=>by have:=hh.2.1.2.2.2.2.1; omega) fun h9=>?_)
 refine fz (hpA H 0 rfl rfl) (fL (fun h10=>no H.gi fun hh=>by have:=hh.2.1.2.2.2.2.1; omega) fun h10=>?_)
 refine fz (hpA H 0 rfl rfl) (fL (fun h11=>no H.gi fun hh=>by have:=hh.2.1.2.2.2.2.2; omega) fun h11=>?_)
 refine fz (hpA H 0 rfl rfl) (fL (fun h12=>no H.gi fun hh=>by have:=hh.2.1.2.2.2.2.2; omega) fun h12=>?_)
 have hreg:HV t:=⟨hsz,by omega,by omega,by omega,by omega,by omega⟩
 obtain ⟨O,hO,hro,hvw⟩:=hv
 have hOl:O.length=l.length:=by rw [<- hO,iu]
 refine ⟨fun m vs h'=>∃ i:Nat,i+m=l.length/\vs=[.int .i64 ((arI (l.take i):Nat):Int),.int .i64 (i:Nat)]/\(∀ x∈l.take i,mC t.rf sy x)/\Hp hB [] h' [⟨r10,true,fR,t.cs q l.length c⟩],⟨l.length,0,by omega,rfl,(fun x hx=>by cases hx),H⟩,?_⟩
 clear H
 rintro m h u ar xx ⟨i,him,hxx,hok,H⟩
 injection hxx with hx1 hxx
 injection hxx with hx2 hxx
 injection hx1 with _ hx1
 injection hx2 with _ hx2
 subst ar xx
 refine fU (hpA H 0 rfl rfl) ?_
 refine fL (fun h5=>?_) fun h5=>?_
 ·obtain ⟨o,ho⟩:∃ o,O[i]? = some o:=⟨_,fP (by omega)⟩
  have hli:l[i]? = some o.i:=by rw [<- hO,gL,ho]; rfl
  obtain ⟨a,ha,cell⟩:=l3 (oa H.gi hro) ho
  have hnd:0<=((i:Nat):Int)/\((i:Nat):Int)<((l.length:Nat):Int):=by omega
  repeat first | with_reducible refine fz (by with_unfolding_all first | exact hpA H 0 rfl rfl | exact Hp.cell H 0 rfl rfl | exact hpB H 0 rfl rfl | exact hpC H 0 rfl rfl) ?_ | with_reducible refine fU (by with_unfolding_all first | exact hpA H 0 rfl rfl | exact Hp.cell H 0 rfl rfl | exact hpB H 0 rfl rfl | exact hpC H 0 rfl rfl) ?_ | with_reducible refine ja (by with_unfolding_all first | exact hpA H 0 rfl rfl | exact Hp.cell H 0 rfl rfl | exact hpB H 0 rfl rfl | exact hpC H 0 rfl rfl) ?_ | with_reducible refine gT (by with_unfolding_all first | exact hpA H 0 rfl rfl | exact Hp.cell H 0 rfl rfl | exact hpB H 0 rfl rfl | exact hpC H 0 rfl rfl) ?_ | with_reducible refine pj (by with_unfolding_all first | exact hpA H 0 rfl rfl | exact Hp.cell H 0 rfl rfl | exact hpB H 0 rfl rfl | exact hpC H 0 rfl rfl) ?_
  refine fH hnd (iJ ha ?_)
  rw [fD]
  refine Nf cell ?_
  refine Nd (t:=t) (hs.ext H.gi) hm ((hvw o (fS ho)).ext H.gi) fun r h' hr e=>⟨_,rfl,?_⟩
  replace H:=H.ext e
  have cell:∀ j v,o.cs[j]? = some v->ic h' ((a.add (i*7)).add j)=some v:=fun j v hv=>e.cell (cell j v hv)
  refine iM (fun h6=>no H.gi fun hh=>by rw [hr.2 (hh.2.2 _ (fS hli))] at h6; cases h6) fun h6=>?_
  have hio:=hr.1 h6
  obtain ⟨W,X,e1,e2,hWX⟩:=hio.nat
  refine fU (hpA H 0 rfl rfl) (fH hnd (iJ ha ?_))
  rw [add_zero']
  refine fz (cell 4 _ rfl) ?_
  refine fU (hpA H 0 rfl rfl) (fH hnd (iJ ha ?_))
  rw [tm]
  refine fz (cell 5 _ rfl) ?_
  have hok':∀ x∈l.take (i+1),mC t.rf sy x:=fun x hx=>by
   rw [kC hli] at hx
   rcases List.mem_append.1 hx with hx | hx
   ·exact hok x hx
   ·rw [List.mem_singleton.1 hx]; exact hio
  have hal:=PM (l.take (i+1)) hok'
  have hil:(l.take (i+1)).length<=1000000:=by rw [iC]; omega
  have hA:arI (l.take (i+1))=arI (l.take i)+W*X:=by rw [kC hli,Gr,e1,e2,fD,fD]
  have hmz:o.i.b.w*o.i.b.h=((W*X:Nat):Int):=by rw [e1,e2]; simp
  refine fw (((W*X:Nat):Int)) (by exact fO _ _ hmz (by omega) (by omega)) ?_
  refine fw (((arI (l.take (i+1)):Nat):Int)) (by exact fO _ _ (by omega) (by omega) (by omega)) ?_
  refine fw (((i+1:Nat):Int)) (by exact fO _ _ (by omega) (by omega) (by omega)) ?_
  exact ⟨m-1,by omega,i+1,by omega,rfl,hok',H⟩
 ·obtain rfl:i=l.length:=by omega
  rw [gz (gg _)] at hok ⊢
  have hf:vm t sy l:=⟨hm,hreg,hok⟩
  refine fL (fun h6=>?_) fun h6=>?_
  ·have:=hk _ H.gi
   rwa [uX hf (.inl (by omega))] at this
  refine fU (hpA H 0 rfl rfl) (fL (fun h7=>?_) fun h7=>?_)
  ·have:=hk _ H.gi
   rwa [uX hf (.inr (.inl (by omega)))] at this
  ·refine fL (fun h8=>?_) fun h8=>?_
   ·have:=hk _ H.gi
    rwa [uX hf (.inr (.inr (by omega)))] at this
   ·have:=hk _ H.gi
    rwa [IV hf (by omega)] at this
end
open Go.Ar (idx ju)
theorem Ml (y:Int) {st:Nat} (h:st<=3):flo y st=y / (2 ^ st:Int):=by
 unfold flo
 rw [Int.fdiv_eq_ediv_of_nonneg]
 rcases (by omega:st=0\/st=1\/st=2\/st=3) with rfl | rfl | rfl | rfl <;> decide
theorem EY {y:Int} {st:Nat} (h:st<=3):0<=zu st y/\zu st y<((2 ^ st:Nat):Int)/\flo y st*2 ^ st+zu st y=y:=by
 have e:=Ml y h
 unfold zu
 rcases (by omega:st=0\/st=1\/st=2\/st=3) with rfl | rfl | rfl | rfl
 all_goals
  simp only [Nat.reducePow,Int.reducePow] at *
  omega
theorem IL {y:Int} {st:Nat} (h:st<=3) (hy:-1048576<=y/\y<=1048576):-1048576<=flo y st/\flo y st<=1048576:=by
 have e:=Ml y h
 rcases (by omega:st=0\/st=1\/st=2\/st=3) with rfl | rfl | rfl | rfl
 all_goals
  simp only [Nat.reducePow,Int.reducePow] at *
  omega
theorem Qh {x:Int} {i:Nat} (hi:i<=64) {z:Int} (e:x*2 ^ i=z) (h:-9223372036854775808<=z/\z<9223372036854775808):lT .i64 x (i:Int)=z:=by
 unfold lT
 rw [fD,Nat.min_eq_left (by exact hi),e]
 exact i64_in _ h.1 h.2
theorem Qp {st:Nat} (h:st<=3):1<=2 ^ st/\2 ^ st<=8:=by
 rcases (by omega:st=0\/st=1\/st=2\/st=3) with rfl | rfl | rfl | rfl <;> decide
theorem Ik {y:Int} {st:Nat} (h:st<=3) (hy:-1048576<=y/\y<=1048576):lT .i64 (flo y st) (st:Int)=flo y st*2 ^ st:=by
 have h1:=EY (y:=y) h
 have h2:=Qp h
 exact Qh (by omega) rfl (by omega)
section
variable {hB h:Heap} {K:VK} {Kp:PK}
theorem lJ (hk:K (.tuple #[]) h):CP jh #[.int .i64 0] h K Kp:=by
 refine Gi ?_
 unfold Dd
 refine fZ (by rfl) ?_
 exact hk
theorem GZ {n:Nat} (hn:n<=4096) (hk:K (.int .i64 (wid n:Nat)) h):CP uw #[.int .i64 (n:Nat)] h K Kp:=by
 refine EF ?_
 unfold Bv
 refine ⟨fun m vs h'=>∃ w:Nat,w+m=12/\h'=h/\vs=[.int .i64 (w:Nat)]/\wdF m n w=wid n,⟨12,0,rfl,rfl,rfl,rfl⟩,?_⟩
 rintro m h' u xw ⟨w,hw,rfl,hxx,he⟩
 injection hxx with hx1 hxx
 injection hx1 with _ hx1
 subst xw
 have hp:=Be (w:=w) (by omega)
 refine fH (by omega) (fw ((2 ^ w:Nat):Int) (by exact Ct (by omega)) ?_)
 refine fL (fun h1=>?_) fun h1=>?_
 ·have hw12:w≠12:=fun hh=>by
   subst hh
   have:(2:Nat) ^ 12=4096:=by decide
   omega
  obtain ⟨m,rfl⟩:∃ k,m=k+1:=⟨m-1,by omega⟩
  unfold wdF at he
  rw [if_pos (by omega)] at he
  refine fw ((w+1:Nat):Int) (by exact fO _ _ (by omega) (by omega) (by omega)) ?_
  exact ⟨m,by omega,w+1,by omega,rfl,rfl,he⟩
 ·have e:w=wid n:=by
   rw [<- he]
   cases m with
   | zero=>rfl
   | succ m =>
    unfold wdF
    rw [if_neg (by omega)]
  rw [<- e] at hk
  exact hk
def cdE (rc p:Nat) (t:Reg14) (q:Option Addr) (n c:Nat) (q2:Option Addr) (ns c2:Nat):Ent:=⟨rc,true,C4,[.pointer (at0 p),.int .i64 t.x,.int .i64 t.y,.int .i64 t.w,.int .i64 t.h,.int .i64 t.op,.bool t.rf,.int .i64 t.df,.int .i64 t.st,.slice q n c,.slice q2 ns c2]⟩
variable {rc p qq r:Nat} {t:Reg14} {q q2:Option Addr} {n c c2:Nat} {sy:List Bmp} {L:List (Nat × Nat)} {rest:List Value} {X:List Ent}
theorem Kc {Y:List Ent} (H:Hp hB [] h (Y++ju p qq r (cdL 14337 L) rest)) (hL:L.length+64<=16777216) {base v:Int} {nn:Bool} (hf:0<=base/\base+(512:Nat)<=14337) (hr:pd v nn) (hv:-9223372036854775808<=v/\v<9223372036854775808)
  (hk:∀ r' rest' h',Hp hB [] h' (Y++ju p qq r' (cdL 14337 (L++nY 14337 base v nn)) rest')->K (.int .i64 0) h'):CP nt #[.pointer (at0 p),.int .i64 base,.agg #[.int .i64 v,.bool nn]] h K Kp:=by
 refine NC (m:=14337) (Hp.mv H) hL (by omega) (by omega) hf hr hv fun r' rest' h' H'=>?_
 exact hk r' rest' h' (Hp.pg H rfl H' rfl)
theorem E4 (H:Hp hB [] h ((cdE rc p t q n c q2 sy.length c2::X)++ju p qq r (cdL 14337 L) rest)) (hL:L.length+64<=16777216) {base v:Int} (hf:0<=base/\base+(512:Nat)<=14337) (hr:-2147483648<=v/\v<=2147483648)
  (hk:∀ r' rest' h',Hp hB [] h' ((cdE rc p t q n c q2 sy.length c2::X)++ju p qq r' (cdL 14337 (L++nY 14337 base v false)) rest')->K (.tuple #[]) h'):CP mo #[.pointer (some ⟨rc,0,none⟩),.int .i64 base,.int .i64 v] h K Kp:=by
 refine AN ?_
 unfold uI
 refine gv (a:=⟨rc,0,none⟩) (ja (hpA H 0 rfl rfl) ?_)
 refine Kc H hL hf (.inr hr) (by omega) fun r' rest' h' H=>⟨_,rfl,?_⟩
 exact lJ (hk r' rest' h' H)
theorem Ki {Y:List Ent} (H:Hp hB [] h (Y++ju p qq r (cdL 14337 L) rest)) (hL:L.length+64<=16777216)
  (hk:∀ r' rest' h',Hp hB [] h' (Y++ju p qq r' (cdL 14337 (L++Bf)) rest')->K (.int .i64 0) h'):CP nt #[.pointer (at0 p),.int .i64 1024,.agg #[.int .i64 0,.bool true]] h K Kp :=
 Kc H hL (by omega) (.inl rfl) (by omega) hk
theorem Ms {Y:List Ent} (H:Hp hB [] h (Y++ju p qq r (cdL 14337 L) rest)) (hL:L.length+64<=16777216) {ctx:Int} {bit:Nat} (hb:bit<=1)
  (hk:∀ r' rest' h',Hp hB [] h' (Y++ju p qq r' (cdL 14337 (L++[(idx ctx 14337,bit)])) rest')->K (.int .i64 0) h'):CP kJ #[.pointer (at0 p),.int .i64 ctx,.int .i64 (bit:Nat)] h K Kp:=by
 have hco:=sb (m:=14337) (L:=L) (by omega)
 refine Go.Ar.BH (ctx:=ctx) (bit:=bit) (Hp.mv H) hco.wf hco.done (by rw [hco.n]; omega) (by rw [hco.len]; decide) (by rw [hco.len]; decide) hb fun r' rest' h' H'=>?_
 have H:=Hp.pg H rfl H' rfl
 rw [hco.len,<- CO (m:=14337) L (idx ctx 14337,bit)] at H
 exact hk r' rest' h' H
theorem Sg {Y:List Ent} (H:Hp hB [] h (Y++ju p qq r (cdL 14337 L) rest)) (hL:L.length+64<=16777216) {w:Nat} (hw:w<=12) {id:Int} (hid:0<=id/\id<((2 ^ w:Nat):Int))
  (hk:∀ r' rest' h',Hp hB [] h' (Y++ju p qq r' (cdL 14337 (L++wx 14337 2048 w id.toNat)) rest')->K (.int .i64 0) h'):CP sV #[.pointer (at0 p),.int .i64 2048,.int .i64 (w:Nat),.int .i64 id] h K Kp:=by
 have hco:=sb (m:=14337) (L:=L) (by omega)
 have hp:=Be hw
 have hfit:uf 2048 w 14337:=⟨by omega,by omega⟩
 refine Mz (n0:=L.length) (m:=14337) (Hp.mv H) hco (by omega) (by omega) (by omega) (fun hn=>absurd ⟨by omega,by omega⟩ hn) (fun w' e hw' hn=>?_) (fun w' e hw' _ hn=>?_) fun w' x r' rest' h' e hw' _ e2 hx H'=>?_
 ·obtain rfl:w=w':=by omega
  exact absurd hfit hn
 ·obtain rfl:w=w':=by omega
  exact absurd hid hn
 ·obtain rfl:w=w':=by omega
  subst e2
  have H:=Hp.pg H rfl H' rfl
  rw [N8] at H
  rw [fD] at hk
  exact hk r' rest' h' H
theorem QT {Y:List Ent} (H:Hp hB [] h (Y++ju p qq r (cdL 14337 L) rest)) {b s:Bmp} (hb:b.may) (hs:s.may) {q1 q3:Option Addr} {c1 c3:Nat} (hr1:rdO h q1 (b.ws.length*1) (il b.ws)) (hw1:W64 b.ws) (hl1:b.ws.length<140737488351300) (hr2:rdO h q3 (s.ws.length*1) (il s.ws)) (hw2:W64 s.ws) (hl2:s.ws.length<140737488351300)
  (hL:L.length+b.h.toNat*b.w.toNat<=16777216)
  (hk:∀ r' rest' h',Hp hB [] h' (Y++ju p qq r' (cdL 14337 (L++dsF (jR b.ws b.w.toNat b.h.toNat) (jR s.ws s.w.toNat s.h.toNat) b.w.toNat 14337 0 0 6145 (b.h.toNat*b.w.toNat))) rest')->K (.int .i64 0) h') :
  CP uy #[.pointer (at0 p),.int .i64 6145,.agg #[.int .i64 b.w,.int .i64 b.h,.slice q1 b.ws.length c1],.agg #[.int .i64 s.w,.int .i64 s.h,.slice q3 s.ws.length c3],.int .i64 0,.int .i64 0] h K Kp:=by
 have hco:=sb (m:=14337) (L:=L) (by omega)
 refine Og (m:=14337) (n0:=L.length) (Hp.mv H) hco (by omega) (by omega) (base:=6145) (by omega) hr1 hw1 hl1 (fun h' e=>oa e hr2) hw2 hl2 (fun _=>hL) (fun h' hn _=>absurd ⟨hb,hs⟩ hn) (fun h' _ hn _=>absurd ⟨by omega,by omega⟩ hn) (fun h' _ _ hn _=>absurd (by omega) hn) fun s' r' rest' G h' _ _ _ hrun _ H'=>?_
 have H:=Hp.pg H rfl H' rfl
 unfold Rb at hrun
 rw [Pf] at hrun
 injection hrun with hrun
 injection hrun with _ hrun
 subst hrun
 exact hk r' rest' h' H
set_option maxHeartbeats 4000000 in
theorem QW {o:OwI} (H:Hp hB [] h ((cdE rc p t q n c q2 sy.length c2::X)++ju p qq r (cdL 14337 L) rest)) (hXw:X.all Ent.w=true) (hs:o7 hB q2 sy) (hm:xB sy) (hsl:sy.length<=4096) (hst:0<=t.st/\t.st<=3) (hi:mC t.rf sy o.i)
  (hov:∀ {h S},Hp hB [] h ((cdE rc p t q n c q2 sy.length c2::X)++S)->o.Vw h) (hL:L.length+52+o.i.b.w.toNat*o.i.b.h.toNat+64<=16777216)
  (hk:∀ r' rest' h',Hp hB [] h' ((cdE rc p t q n c q2 sy.length c2::X)++ju p qq r' (cdL 14337 (L++rL t sy o.i)) rest')->K (.tuple #[]) h') :
  CP sF #[.pointer (some ⟨rc,0,none⟩),o.ag] h K Kp:=by
 refine AO ?_
 unfold uJ
 obtain ⟨ST,hST⟩:∃ ST:Nat,t.st=(ST:Int):=⟨t.st.toNat,by omega⟩
 have hSTn:t.st.toNat=ST:=by omega
 have hSTle:ST<=3:=by omega
 have hoff:=EY (y:=o.i.y) hSTle
 have hp8:=Qp hSTle
 have hwid:=H7 hsl
 refine fV H fun r8 h H=>?_
 have H:=H.rot
 have H:Hp hB [] h ((⟨r8,true,fM,o.cs⟩::cdE rc p t q n c q2 sy.length c2::X)++ju p qq r (cdL 14337 L) rest):=H
 have dr:∀ {h S},Hp hB [] h ((⟨r8,true,fM,o.cs⟩::cdE rc p t q n c q2 sy.length c2::X)++S)->Hp hB [] h ((cdE rc p t q n c q2 sy.length c2::X)++S):=fun {h S} H=>Hp.suf (X:=[⟨r8,true,fM,o.cs⟩]) H
 obtain ⟨A1,hA1⟩:∃ A1,A1=if 0<t.st then nY 14337 1536 (zu ST o.i.y) false else []:=⟨_,rfl⟩
 have hA1l:A1.length<=39:=by
  rw [hA1]
  split
  ·exact ow _ _ _ _
  ·exact km _
 refine ⟨fun _ h'=>∃ r' rest',Hp hB [] h' ((⟨r8,true,fM,o.cs⟩::cdE rc p t q n c q2 sy.length c2::X)++ju p qq r' (cdL 14337 (L++A1)) rest'),?_,?_⟩
 ·refine gv (a:=⟨rc,0,none⟩) (fz (hpB H 1 rfl rfl) ?_)
  refine fL (fun h1=>?_) fun h1=>?_
  ·refine gv (a:=⟨rc,0,none⟩) (gv (a:=⟨rc,0,none⟩) ?_)
   refine fz (hpA H 0 rfl rfl) (fz (hpA H 0 rfl rfl) (fz (hpB H 1 rfl rfl) (fH (by omega) ?_)))
   rw [hST]
   refine fw _ (Aw (by omega)) ?_
   refine fz (hpB H 1 rfl rfl) (fH (by omega) ?_)
   rw [hST]
   refine fw _ (Ik hSTle hi.2.2.1) ?_
   refine fw (zu ST o.i.y) (by exact i64_in _ (by show _<=zu ST o.i.y; omega) (by show zu ST o.i.y<_; omega)) ?_
   have H:=H.perm (List.Perm.swap _ _ _)
   refine E4 (X:=⟨r8,true,fM,o.cs⟩::X) H (by omega) (by omega) (by omega) fun r' rest' h' H=>?_
   refine ⟨r',rest',?_⟩
   rw [hA1,if_pos (by omega)]
   exact H.perm (List.Perm.swap _ _ _)
  ·rw [hA1,if_neg (by omega),fT]
   exact ⟨r,rest,H⟩
 clear H
 rintro h u ⟨r,rest,H⟩
 refine gv (a:=⟨rc,0,none⟩) (gv (a:=⟨rc,0,none⟩) ?_)
 refine ja (hpA H 1 rfl rfl) (fU (hpA H 1 rfl rfl) (fz (hpA H 0 rfl rfl) ?_))
 refine GZ hsl ⟨_,rfl,gi.refl _,?_⟩
 have hid:=hi.1
 refine Sg H (by rw [fA]; omega) hwid.2 (by omega) fun r rest h H=>⟨_,rfl,lJ ?_⟩
 have hinsD:rL t sy o.i=A1++(wx 14337 2048 (wid sy.length) o.i.s.toNat++DB t.rf sy o.i):=by
  unfold rL
  rw [hA1,hSTn]
 have hidl:=F6 14337 2048 (wid sy.length) o.i.s.toNat
 obtain ⟨A2,hA2⟩:∃ A2,A2=(L++A1)++wx 14337 2048 (wid sy.length) o.i.s.toNat:=⟨_,rfl⟩
 have hA2l:A2.length<=L.length+51:=by rw [hA2,fA,fA,hidl]; omega
 have hfin:∀ Z,A2++Z=L++(A1++(wx 14337 2048 (wid sy.length) o.i.s.toNat++Z)):=fun Z=>by rw [hA2]; simp only [fC]
 rw [<- hA2] at H
 refine gv (a:=⟨rc,0,none⟩) (gT (hpB H 1 rfl rfl) ?_)
 refine iM (fun h1=>?_) fun h1=>?_
 ·refine hk r rest h ?_
  rw [hinsD,<- hfin]
  unfold DB
  rw [if_neg (by rw [h1]; decide),fT]
  exact dr H
 refine gT (hpA H 0 rfl rfl) (iM (fun h2=>?_) fun h2=>?_)
 ·refine gv (a:=⟨rc,0,none⟩) (ja (hpA H 1 rfl rfl) ?_)
  refine Ms (bit:=0) H (by omega) (by omega) fun r rest h H=>⟨_,rfl,lJ ?_⟩
  refine hk r rest h ?_
  rw [hinsD,<- hfin]
  unfold DB
  rw [if_pos h1,if_neg (by rw [h2]; decide)]
  exact dr H
 ·refine gv (a:=⟨rc,0,none⟩) (ja (hpA H 1 rfl rfl) ?_)
  refine Ms (bit:=1) H (by omega) (by omega) fun r rest h H=>⟨_,rfl,lJ ?_⟩
  refine gv (a:=⟨rc,0,none⟩) (gv (a:=⟨rc,0,none⟩) (ja (hpA H 1 rfl rfl) ?_))
  refine fz (hpB H 0 rfl rfl) (fz (hpB H 0 rfl rfl) (fU (hpB H 0 rfl rfl) (fU (hpA H 1 rfl rfl) (fz (hpA H 0 rfl rfl) (fH (by omega) ?_)))))
  obtain ⟨a,q3,c3,ha,hc0⟩:=hs _ _ (zp hi)
  have hc:=hc0.ext H.gi
  refine iJ ha ?_
  refine fz hc.c0 (fz hc.c1 (fU hc.c2 ?_))
  have hmay:=hi.2.2.2.2 h2
  have hov:=hov (dr H)
  refine QT (b:=o.i.b) (s:=l7 sy o.i.s) H hmay.2.1 (hm _ (fS (zp hi))) hov.r hov.w hov.l hc.r1 hc.w1 hc.l1 (by rw [fA,gJ,gS]; omega) fun r rest h H=>⟨_,rfl,lJ ?_⟩
  refine hk r rest h ?_
  rw [hinsD,<- hfin]
  unfold DB
  rw [if_pos h1,if_pos h2]
  unfold KO
  rw [<- fC]
  exact dr H
end
open Go.Ar (ju)
theorem mC.ws {rf:Bool} {sy:List Bmp} {i:Ins} (h:mC rf sy i):i.b.ws.length<=1048576:=by
 cases hd:i.d with
 | false=>rw [(h.2.2.2.1 hd).2.2]; exact km _
 | true =>
  have hm:=(h.2.2.2.2 hd).2.1
  obtain ⟨W,X,e1,e2,hW1,hW2,hX1,hX2,hWX⟩:=jf hm.1
  have:=hm.2.1
  rw [e1,e2,fD,fD] at this
  rw [this]
  exact rR hW1 hWX
theorem zq {t:Reg14} (h:0<=t.st/\t.st<=3):pZ t.st=t.st.toNat:=by
 unfold pZ
 rw [if_neg (by omega),if_neg (by omega)]
theorem th {α:Type} {l:List α} {k:Nat} {x:α} (h:l[k]? = some x):l.drop k=x::l.drop (k+1):=by
 obtain ⟨h1,rfl⟩:=List.getElem?_eq_some_iff.1 h
 exact EO h1
section
variable {hB h:Heap} {K:VK} {Kp:PK}
variable {rc p qq r:Nat} {t:Reg14} {q q2:Option Addr} {n c c2:Nat} {sy:List Bmp} {l:List Ins} {rest:List Value} {X:List Ent}
set_option maxHeartbeats 8000000 in
theorem Pu (H:Hp hB [] h ((cdE rc p t q l.length c q2 sy.length c2::X)++ju p qq r (cdL 14337 []) rest)) (hXw:X.all Ent.w=true) (hv:rj hB q l) (hs:o7 hB q2 sy) (hf:vm t sy l) (hsl:sy.length<=4096) (hl:l.length<=16384) (har:arI l<=1048576)
  (hk:∀ r' rest' h',Hp hB [] h' ((cdE rc p t q l.length c q2 sy.length c2::X)++ju p qq r' (cdL 14337 (yv t sy l)) rest')->K (.tuple #[]) h') :
  CP sG #[.pointer (some ⟨rc,0,none⟩)] h K Kp:=by
 refine AP ?_
 unfold uK
 have hst:=hf.2.1.2.2.2.2.2
 have hstl:t.st.toNat<=3:=by omega
 have hstI:((t.st.toNat:Nat):Int)=t.st:=by omega
 have hTl:=xz (t:=t) hf.2.2 hsl hl har
 refine gv (a:=⟨rc,0,none⟩) ?_
 refine fz (hpB H 0 rfl rfl) (fz (hpB H 0 rfl rfl) (fz (hpB H 0 rfl rfl) (fz (hpB H 0 rfl rfl) (fz (hpB H 0 rfl rfl) (gT (hpB H 0 rfl rfl) (fz (hpB H 0 rfl rfl) (fz (hpB H 0 rfl rfl) (fU (hpB H 0 rfl rfl) ?_))))))))
 refine xM (t:=t) (hv.ext H.gi) (by omega) (fun i hi=>iL (hf.2.2 i hi).ws (by decide)) fun R q' c' h' hL H'=>?_
 refine ⟨_,_,_,rfl,?_⟩
 replace H:=H.join H' hL.w
 clear H'
 rw [zq hst] at hL
 have hRw:=hL.w
 obtain ⟨O,E,h1,h2,h3,rfl⟩:=hL
 obtain ⟨S,hS⟩:∃ S,S=rX t.st.toNat l:=⟨_,rfl⟩
 rw [<- hS] at h2 h3
 have hSl:S.length=l.length:=by rw [hS]; exact qI _ _
 have hSok:∀ i∈S,mC t.rf sy i:=fun i hi=>hf.2.2 i (s8.1 (hS ▸ hi))
 rw [<- hSl]
 rw [<- hSl] at H
 obtain ⟨T,hT⟩:∃ T,T=yv t sy l:=⟨_,rfl⟩
 have hT0:m7 t sy S 0 0 0 false=T:=by rw [hT,hS]; rfl
 rw [<- hT] at hTl hk
 obtain ⟨Y,hY⟩:∃ Y,Y=X++(dsI O++E):=⟨_,rfl⟩
 have hYw:Y.all Ent.w=true:=by rw [hY,pP,hXw,hRw]; rfl
 have H:Hp hB [] h' ((cdE rc p t q S.length c q2 sy.length c2::Y)++ju p qq r (cdL 14337 []) rest):=by
  rw [hY]
  have H:Hp hB [] h' ((cdE rc p t q S.length c q2 sy.length c2::X)++(ju p qq r (cdL 14337 []) rest++(dsI O++E))):=H.asc
  have H:=Hp.swap H.Lr
  exact H.as (by simp only [gm,fC])
 have rdS:∀ {h Z},Hp hB [] h ((cdE rc p t q S.length c q2 sy.length c2::Y)++Z)->rdO h q' (S.length*7) (csI O):=fun {h Z} H=>Slot.vt h3 H fun e he=>by
  rw [hY]
  exact gV _ (gK _ (fX _ (fX _ he)))
 have rdV:∀ {o:OwI} {h Z},o∈O->Hp hB [] h ((cdE rc p t q S.length c q2 sy.length c2::Y)++Z)->o.Vw h:=fun {o h Z} ho H=>⟨Slot.vt (h1 o ho).s H fun e he=>by
  rw [hY]
  exact gV _ (gK _ (fX _ (gV _ (CL ho e he)))),(h1 o ho).w,(h1 o ho).l⟩
 have hOl:O.length=S.length:=by rw [<- h2,iu]
 refine ⟨fun m vs h'=>∃ (k:Nat) (ah fi x:Int) (A:List (Nat × Nat)) (r:Nat) (rest:List Value),k+m=S.length/\vs=[.int .i64 ah,.int .i64 fi,.int .i64 (k:Nat)]/\(-1048576<=ah/\ah<=1048576)/\(-1048576<=fi/\fi<=1048576)/\A++m7 t sy (S.drop k) ah fi x false=T /\
   Hp hB [] h' ((cdE rc p t q S.length c q2 sy.length c2::Y)++ju p qq r (cdL 14337 A) rest),⟨S.length,0,0,0,0,[],r,rest,by omega,rfl,by omega,by omega,hT0,H⟩,?_⟩
 clear H hT0
 rintro m h u xa xf xk ⟨k,ah,fi,x,A,r,rest,hkm,hxx,hah,hfi,hA,H⟩
 injection hxx with hx1 hxx
 injection hxx with hx2 hxx
 injection hxx with hx3 hxx
 injection hx1 with _ hx1
 injection hx2 with _ hx2
 injection hx3 with _ hx3
 subst xa xf xk
 have hAT:A.length<=T.length:=by rw [<- hA,fA]; omega
 refine fL (fun h5=>?_) fun h5=>?_
 rotate_left
 ·obtain rfl:k=S.length:=by omega
  rw [Bc] at hA
  unfold m7 at hA
  rw [if_neg (by decide),fT] at hA
  subst hA
  refine hk r rest h ?_
  rw [<- hSl]
  rw [hY] at H
  have H:=H.as (L':=((cdE rc p t q S.length c q2 sy.length c2::X)++(dsI O++E))++ju p qq r (cdL 14337 A) rest) (by simp only [gm,fC])
  have H:=Hp.swap H
  exact Hp.pre H
 obtain ⟨o,ho⟩:∃ o,O[k]? = some o:=⟨_,fP (by omega)⟩
 have hoS:S[k]? = some o.i:=by rw [<- h2,gL,ho]; rfl
 have hio:=hSok _ (fS hoS)
 have hfl:=IL hstl hio.2.2.1
 have hxb:=hio.2.1
 rw [th hoS] at hA
 unfold m7 at hA
 rw [if_neg (fun hh=>by cases hh.1),if_neg (by decide),gd] at hA
 unfold Lq at hA
 obtain ⟨a,ha,cell⟩:=l3 (rdS H) ho
 refine fH (by omega) (iJ ha (gv (a:=⟨rc,0,none⟩) ?_))
 rw [fD]
 refine fz (cell 1 _ rfl) (fz (hpB H 0 rfl rfl) (fH (by omega) ?_))
 rw [<- hstI]
 refine fw _ (Aw (by omega)) ?_
 obtain ⟨s,hs'⟩:∃ s,s=flo o.i.y t.st.toNat:=⟨_,rfl⟩
 rw [<- hs'] at hA hfl ⊢
 refine fw ((s-ah)) (by exact i64_in _ (by omega) (by omega)) ?_
 refine E4 H (by omega) (by omega) (by omega) fun r rest h H=>?_
 obtain ⟨a',ha',cell⟩:=l3 (rdS H) ho
 refine fH (by omega) (iJ ha' ?_)
 refine fz (cell 0 _ rfl) ?_
 refine fw ((o.i.x-fi)) (by exact i64_in _ (by omega) (by omega)) ?_
 have hw1:=ow 14337 0 (s-ah) false
 have hw2:=ow 14337 512 (o.i.x-fi) false
 refine E4 H (by rw [fA]; omega) (by omega) (by omega) fun r rest h H=>?_
 obtain ⟨a',ha',cell⟩:=l3 (rdS H) ho
 refine fH (by omega) (iJ ha' ?_)
 refine fz (cell 0 _ rfl) ?_
 obtain ⟨fx,hfx⟩:∃ fx,fx=o.i.x:=⟨_,rfl⟩
 rw [<- hfx] at hA H hxb hw2 ⊢
 refine ⟨fun m' vs h'=>∃ (k:Nat) (i:Ins) (A:List (Nat × Nat)) (r:Nat) (rest:List Value),k+m'=S.length/\S.length-k<=m/\vs=[.int .i64 (k:Nat)]/\S[k]? = some i/\flo i.y t.st.toNat=s/\A++(rL t sy i++m7 t sy (S.drop (k+1)) s fx i.x true)=T /\
   Hp hB [] h' ((cdE rc p t q S.length c q2 sy.length c2::Y)++ju p qq r (cdL 14337 A) rest),⟨S.length-k,k,o.i,_,r,rest,by omega,by omega,rfl,hoS,hs'.symm,by rw [<- hA,<- hfx]; simp only [fC],H⟩,?_⟩
 clear H hA hw1 hw2 hAT
 rintro m' h u xk ⟨k',i,A,r,rest,hkm',hkm2,hxx,hi,hsi,hA,H⟩
 injection hxx with hx1 hxx
 injection hx1 with _ hx1
 subst xk
 have hk':k'<S.length:=(List.getElem?_eq_some_iff.1 hi).1
 obtain ⟨o',ho'⟩:∃ o,O[k']? = some o:=⟨_,fP (by omega)⟩
 have hoi:o'.i=i:=by
  have:S[k']? = some o'.i:=by rw [<- h2,gL,ho']; rfl
  rw [hi] at this
  injection this with this
  exact this.symm
 subst hoi
 have hio':=hSok _ (fS hi)
 have hAl:A.length+(rL t sy o'.i).length<=T.length:=by rw [<- hA,fA,fA]; omega
 have hpx:o'.i.b.w.toNat*o'.i.b.h.toNat<=1048576:=by
  obtain ⟨W,XX,e1,e2,hWX⟩:=hio'.nat
  rw [e1,e2,fD,fD]
  exact hWX
 obtain ⟨a,ha,cell⟩:=l3 (rdS H) ho'
 refine fH (by omega) (iJ ha ?_)
 rw [fD]
 refine Nf cell ?_
 refine QW (X:=Y) H hYw hs hf.1 hsl hst hio' (fun H=>rdV (fS ho') H) (by omega) fun r rest h H=>?_
 obtain ⟨A',hA'⟩:∃ A',A'=A++rL t sy o'.i:=⟨_,rfl⟩
 rw [<- hA'] at H
 rw [<- fC,<- hA'] at hA
 have hA'l:A'.length<=T.length:=by rw [<- hA,fA]; omega
 clear hAl
 refine fw (((k'+1:Nat):Int)) (by exact fO _ _ (by omega) (by omega) (by omega)) ?_
 have fin:∀ {h r rest},(∀ i,(S.drop (k'+1))[0]? = some i->flo i.y t.st.toNat≠s)->Hp hB [] h ((cdE rc p t q S.length c q2 sy.length c2::Y)++ju p qq r (cdL 14337 (A'++Bf)) rest) ->
   ∃ m_15,m_15<m/\∃ (k:Nat) (ah fi x:Int) (A:List (Nat × Nat)) (r:Nat) (rest:List Value),k+m_15=S.length/\[Value.int .i64 s,.int .i64 fx,.int .i64 ((k'+1:Nat):Int)]=[Value.int .i64 ah,.int .i64 fi,.int .i64 (k:Nat)]/\(-1048576<=ah/\ah<=1048576)/\(-1048576<=fi/\fi<=1048576)/\A++m7 t sy (S.drop k) ah fi x false=T /\
   Hp hB [] h ((cdE rc p t q S.length c q2 sy.length c2::Y)++ju p qq r (cdL 14337 A) rest):=fun {h r rest} hcl H=>by
  refine ⟨S.length-(k'+1),by omega,k'+1,s,fx,o'.i.x,A'++Bf,r,rest,by omega,rfl,by omega,by omega,?_,H⟩
  rw [fC,<- By hcl]
  exact hA
 refine iA (fun h6=>?_) fun h6=>?_
 ·refine gv (a:=⟨rc,0,none⟩) (ja (hpA H 0 rfl rfl) ?_)
  refine Ki H (by omega) fun r rest h H=>⟨_,rfl,lJ ?_⟩
  refine fin (fun i hh=>?_) H
  rw [yH (by omega)] at hh
  cases hh
 obtain ⟨o2,ho2⟩:∃ o,O[k'+1]? = some o:=⟨_,fP (by omega)⟩
 have hoS2:S[k'+1]? = some o2.i:=by rw [<- h2,gL,ho2]; rfl
 have hd2:=th hoS2
 have hio2:=hSok _ (fS hoS2)
 obtain ⟨a2,ha2,cell2⟩:=l3 (rdS H) ho2
 refine fH (by omega) (iJ ha2 (gv (a:=⟨rc,0,none⟩) ?_))
 rw [fD]
 refine fz (cell2 1 _ rfl) (fz (hpB H 0 rfl rfl) (fH (by omega) ?_))
 rw [<- hstI]
 refine fw _ (Aw (by omega)) ?_
 refine jg (fun h7=>?_) fun h7=>?_
 ·refine gv (a:=⟨rc,0,none⟩) (ja (hpA H 0 rfl rfl) ?_)
  refine Ki H (by omega) fun r rest h H=>⟨_,rfl,lJ ?_⟩
  refine fin (fun i hh=>?_) H
  rw [hd2] at hh
  injection hh with hh
  subst hh
  exact h7
 obtain ⟨a1,ha1,cell1⟩:=l3 (rdS H) ho'
 have hb1:=hio'.2.1
 have hb2:=hio2.2.1
 refine fH (by omega) (iJ ha2 ?_)
 refine fw (((k':Nat):Int)) (by exact fO _ _ (by omega) (by omega) (by omega)) ?_
 refine fH (by omega) (iJ ha1 ?_)
 rw [fD,fD]
 refine fz (cell2 0 _ rfl) (fz (cell1 0 _ rfl) ?_)
 refine fw ((o2.i.x-o'.i.x)) (by exact i64_in _ (by omega) (by omega)) ?_
 refine E4 H (by omega) (by omega) (by omega) fun r rest h H=>?_
 refine ⟨m'-1,by omega,k'+1,o2.i,_,r,rest,by omega,by omega,rfl,hoS2,h7,?_,H⟩
 rw [<- hA,hd2,fC]
 congr 1
 rw [m7,if_pos ⟨rfl,h7⟩]
end
open Go.Ar (iX iE ju u8s gO ql)
theorem FZ:∀ l:List Nat,(l.flatMap grp).length<=11*l.length
 | []=>km _
 | x::l=>by
  have h1:=FZ l
  have h2:=(uk x).2
  rw [List.flatMap_cons,fA,gp]
  omega
def yC (t:Reg14):List Nat:=[t.x.toNat,t.y.toNat,t.w.toNat,t.h.toNat]
theorem FW (t:Reg14) (n:Nat):pH t n=((yC t).flatMap grp++[td t])++grp n:=by
 unfold pH yC
 simp only [List.flatMap_cons,List.flatMap_nil,fT,fC]
theorem w7 (t:Reg14) (n:Nat):(pH t n).length<=56:=by
 have h1:=FZ (yC t)
 have h2:=(uk n).2
 have h3:(yC t).length=4:=rfl
 rw [FW,fA,fA,gJ]
 omega
theorem EV {t:Reg14} (h:HV t):td t<128:=by
 unfold td
 have:=h.2.2.2
 split <;> omega
section
variable {hB h:Heap} {K:VK} {Kp:PK}
set_option maxHeartbeats 2000000 in
theorem NQ {t:Reg14} {q:Option Addr} {n c:Nat} (ht:HV t) (hn:n<=1000000) (hk:∀ D qo co h',Slot gA 1 D qo (pH t n).length co (u8s (pH t n))->Hp hB [] h' D->K (.slice qo (pH t n).length co) h') :
  CP Al #[t.ag q n c] hB K Kp:=by
 refine Gj ?_
 unfold De
 have hsz:=ht.1
 unfold jX at hsz
 have hx:=ht.2.1
 have hy:=ht.2.2.1
 have hop:=ht.2.2.2.1
 have hdf:=ht.2.2.2.2.1
 have hst:=ht.2.2.2.2.2
 have H:=Hp.nil hB []
 refine fV H fun r10 h H=>?_
 have H:Hp hB [] h [⟨r10,true,fR,t.cs q n c⟩]:=H
 refine Iy fun w h' H'=>?_
 have hw:WrL w [] [wrE w none 0 []]:=⟨none,0,[],Slot.nil _ _,rfl⟩
 replace H:=H.join H' rfl
 clear H'
 refine ⟨_,_,rfl,?_⟩
 refine lJ ?_
 refine fz (hpA H 0 rfl rfl) (fz (hpA H 0 rfl rfl) (fz (hpA H 0 rfl rfl) (fz (hpA H 0 rfl rfl) ?_)))
 refine fV H fun r22 h H=>?_
 have H:=H.rot
 obtain ⟨A,hA⟩:∃ A:List Ent,A=[⟨r22,true,gQ,[.int .i64 t.x,.int .i64 t.y,.int .i64 t.w,.int .i64 t.h]⟩,⟨r10,true,fR,t.cs q n c⟩]:=⟨_,rfl⟩
 have H:Hp hB [] h (A++[wrE w none 0 []]):=by rw [hA]; exact H
 refine ⟨fun m vs h'=>∃ (i:Nat) (L:List Ent),i+m=4/\vs=[.int .i64 (i:Nat)]/\WrL w (((yC t).take i).flatMap grp) L/\Hp hB [] h' (A++L),⟨4,0,_,rfl,rfl,hw,H⟩,?_⟩
 clear H hw
 rintro m h u xi ⟨i,L,him,hxx,hw,H⟩
 injection hxx with hx1 hxx
 injection hx1 with _ hx1
 subst xi
 have hgl:=FZ ((yC t).take i)
 have hti:((yC t).take i).length<=4:=by
  rw [iC]
  exact iL (Nat.min_le_right _ _) (gg 4)
 refine fL (fun h1=>?_) fun h1=>?_
 ·have step:∀ v:Int,0<=v/\v<=1048576->(yC t)[i]? = some v.toNat->ic h ⟨r22,i,none⟩=some (.int .i64 v)->ldI h ((⟨r22,0,none⟩:Addr).add (((i:Nat):Int).toNat*1)) .i64 (fun x_30=>fG (IntKind.u64.wrap x_30) fun z_31 =>
    CP mT #[.pointer (some ⟨w,0,none⟩),.int .u64 z_31] h (fun v_32 h_33=>∃ (r_34:Int),v_32 = .int .i64 r_34/\(CP jh #[.int .i64 r_34] h_33 (fun v_35 h_36=>fG (IntKind.i64.wrap (((i:Nat):Int)+(1:Int))) fun z_37 =>
     ∃ m_25,m_25<m/\∃ (i:Nat) (L:List Ent),i+m_25=4/\[Value.int .i64 z_37]=[.int .i64 (i:Nat)]/\WrL w (((yC t).take i).flatMap grp) L/\Hp hB [] h_36 (A++L)) (Kp))) (Kp)):=fun v hv hg hc=>by
   rw [fD,gu,gC,fN]
   refine fz hc ?_
   refine fw (((v.toNat:Nat):Int)) (by (rw [qD hv.1]; exact u64_in _ (by omega) (by omega))) ?_
   refine NN (Hp.mv H) hw (by omega) (by omega) fun L' h' hw' H'=>?_
   have H:=Hp.pg H hw.w H' hw'.w
   refine ⟨_,rfl,lJ ?_⟩
   refine fw (((i+1:Nat):Int)) (by exact fO _ _ (by omega) (by omega) (by omega)) ?_
   refine ⟨m-1,by omega,i+1,L',by omega,rfl,?_,H⟩
   rw [kC hg,qC]
   simpa using hw'
  refine fH (by omega) ?_
  rw [hA] at H
  rcases (by omega:i=0\/i=1\/i=2\/i=3) with rfl | rfl | rfl | rfl
  ·exact step t.x hx rfl (H.cell 0 rfl rfl)
  ·exact step t.y hy rfl (H.cell 0 rfl rfl)
  ·exact step t.w (by omega) rfl (H.cell 0 rfl rfl)
  ·exact step t.h (by omega) rfl (H.cell 0 rfl rfl)
 obtain rfl:i=4:=by omega
 have e4:(yC t).take 4=yC t:=rfl
 rw [e4] at hw hgl hti
 have rd:∀ {h:Heap} {L:List Ent},Hp hB [] h (A++L)->∀ j v,(t.cs q n c)[j]? = some v->ic h ((⟨r10,0,none⟩:Addr).add j)=some v:=fun {h L} H j v hv=>by
  rw [hA] at H
  exact hpA H 1 rfl (by rw [fN]; exact hv)
 refine fz (rd H 4 _ rfl) (fz (rd H 6 _ rfl) ?_)
 refine fw (((16:Int)*t.df)) (by exact i64_in _ (by omega) (by omega)) ?_
 refine fw ((t.op+16*t.df)) (by exact i64_in _ (by omega) (by omega)) ?_
 refine fz (rd H 7 _ rfl) ?_
 refine fw (((32:Int)*t.st)) (by exact i64_in _ (by omega) (by omega)) ?_
 refine fw ((t.op+16*t.df+32*t.st)) (by exact i64_in _ (by omega) (by omega)) ?_
 refine ⟨fun vs h'=>vs=[.int .i64 (td t:Nat)]/\h'=h,?_,?_⟩
 ·refine gT (rd H 5 _ rfl) (gP (fun h2=>?_) fun h2=>?_)
  ·refine fw ((t.op+16*t.df+32*t.st+8)) (by exact i64_in _ (by omega) (by omega)) ?_
   refine ⟨?_,rfl⟩
   unfold td
   rw [if_pos h2]
   congr 2
   omega
  ·refine ⟨?_,rfl⟩
   unfold td
   rw [if_neg (by rw [h2]; decide)]
   congr 2
   omega
 rintro h' u xh ⟨hxx,rfl⟩
 injection hxx with hx1 hxx
 injection hx1 with _ hx1
 subst xh
 have hhow:=EV ht
 refine fw (((td t:Nat):Int)) (by exact u64_in _ (by omega) (by omega)) ?_
 have h3:(yC t).length=4:=rfl
 refine Qn (Hp.mv H) hw (by omega) (by omega) fun L2 h2 hw2 H'=>?_
 have H:=Hp.pg H hw.w H' hw2.w
 clear H'
 refine ⟨_,rfl,lJ ?_⟩
 refine fU (rd H 8 _ rfl) ?_
 refine fw (((n:Nat):Int)) (by exact u64_in _ (by omega) (by omega)) ?_
 refine NN (Hp.mv H) hw2 (by omega) (by rw [fA,gJ]; omega) fun L3 h3 hw3 H'=>?_
 have H:=Hp.pg H hw2.w H' hw3.w
 clear H'
 refine ⟨_,rfl,lJ ?_⟩
 rw [<- FW] at hw3
 refine Px (Hp.mv H) hw3 (by have:=w7 t n; omega) fun D qo co h4 hsl H'=>?_
 have H:=Hp.pg H hw3.w H' (by rw [pP,hw3.w,hsl.w]; rfl)
 refine ⟨_,_,_,rfl,?_⟩
 exact hk D qo co h4 hsl (Hp.suf (Hp.suf H))
end
def tfl (e:Int):List PanicEntry:=[{ v := .iface mO (.agg #[.int .i64 e]),recovered:=false }]
theorem Jc {h:Heap} {r:Nat} {Kd:FrameMode->Heap->Prop} {Kdp:FrameMode->PK} (hk:Kd .returning h):kQ Go.Proofs.Tryz.prog lQ #[.pointer (some ⟨r,0,none⟩)] .returning h Kd Kdp :=
 ti (cap0:=⟨r,0,none⟩) (by unfold qF Jq; exact hk)
theorem Ry {h0 h:Heap} {FF:List Nat} {L:List Ent} {r:Nat} {K:VK} {Kp:PK} {e x:Int} (H:Hp h0 FF h ([⟨r,true,gR,[.int .i64 x]⟩]++L)) (hk:∀ h',Hp h0 FF h' L->K (.int .i64 e) h') :
  j5 (kQ Go.Proofs.Tryz.prog) (fun h=>ldI h ⟨r,0,none⟩ .i64 fun v=>K (.int .i64 v) h) Kp [{ target := .fn (.func lQ) #[.pointer (some ⟨r,0,none⟩)],args:=#[] }] (.panicking (tfl e)) h:=by
 show kQ Go.Proofs.Tryz.prog lQ #[.pointer (some ⟨r,0,none⟩)] _ h _ _
 refine ti (cap0:=⟨r,0,none⟩) ?_
 unfold qF
 refine FC ?_
 refine gN (by decide) ?_
 refine ⟨e,rfl,?_⟩
 refine fV H fun r6 h H=>?_
 have H:=H.rot
 refine stA H 0 rfl rfl rfl fun h H=>?_
 refine fz (hpA H 0 rfl rfl) ?_
 refine st0 H 1 rfl rfl rfl fun h H=>?_
 show ldI h ⟨r,0,none⟩ .i64 _
 refine fz (H.cell 1 rfl rfl) ?_
 have H:Hp h0 FF h ([⟨r6,true,mO,[.int .i64 e]⟩,⟨r,true,gR,[.int .i64 e]⟩]++L):=H
 exact hk h (Hp.suf H)
theorem Fh {h0 h:Heap} {FF:List Nat} {L:List Ent} {run:Value} {K:VK} {Kp:PK} (Post:List Ent->Prop) (PostB:Int->List Ent->Prop) (H:Hp h0 FF h L)
  (hrun:∀ {r:Nat} {h1:Heap} {K1:VK} {Kp1:PK},Hp h0 FF h1 ([⟨r,true,gR,[.int .i64 0]⟩]++L)->(∀ h2 L2,Post L2->Hp h0 FF h2 ([⟨r,true,gR,[.int .i64 0]⟩]++L2)->K1 (.tuple #[]) h2) ->
   (∀ e h2 L2,PostB e L2->Hp h0 FF h2 ([⟨r,true,gR,[.int .i64 0]⟩]++L2)->Kp1 (tfl e) h2)->oy (kW Go.Proofs.Tryz.prog) Kp1 run [] h1 K1)
  (hk0:∀ h' L',Post L'->Hp h0 FF h' L'->K (.int .i64 0) h') (hke:∀ e h' L',PostB e L'->Hp h0 FF h' L'->K (.int .i64 e) h'):CP sZ #[run] h K Kp:=by
 refine DQ ?_
 unfold zk
 refine fV H fun r1 h H=>?_
 have H:=H.rot
 refine hrun H (fun h2 L2 hp H=>?_) fun e h2 L2 hp H=>?_
 ·refine st0 H 0 rfl rfl rfl fun h H=>?_
  show kQ Go.Proofs.Tryz.prog lQ #[.pointer (some ⟨r1,0,none⟩)] .returning h _ _
  refine Jc ?_
  show ldI h ⟨r1,0,none⟩ .i64 _
  refine fz (H.cell 0 rfl rfl) ?_
  have H:Hp h0 FF h ([⟨r1,true,gR,[.int .i64 0]⟩]++L2):=H
  exact hk0 h L2 hp (Hp.suf H)
 ·exact Ry H fun h' H=>hke e h' L2 hp H
theorem Co {t:Reg14} {sy:List Bmp} {l:List Ins} (hf:vm t sy l) (hsl:sy.length<=4096) (hl:l.length<=16384) (ha:arI l<=1048576):(iX (iE (cdL 14337 (yv t sy l)))).length<=90000000:=by
 have h1:=(xz (t:=t) hf.2.2 hsl hl ha).1
 have h2:=sb (m:=14337) (L:=yv t sy l) (by omega)
 have h3:=Go.Ar.BL (cdL 14337 (yv t sy l))
 have h4:=h2.wf.len
 have h5:=h2.wf.n
 have h6:=h2.n
 omega
theorem J9 {t:Reg14} {sy:List Bmp} {l:List Ins} (h:qz t sy l≠0):yK t sy l=[]:=if_neg h
theorem EZ {t:Reg14} {sy:List Bmp} {l:List Ins} (h:qz t sy l=0):yK t sy l=s7 t sy l:=if_pos h
section
variable {hB:Heap} {K:VK} {Kp:PK} {t:Reg14} {q q2:Option Addr} {c c2:Nat} {sy:List Bmp} {l:List Ins}
set_option maxHeartbeats 8000000 in
theorem LL (hv:rj hB q l) (hs:o7 hB q2 sy) (hl:l.length<=1000000) (hsl:sy.length<=1000000000000)
  (hk:∀ D qo co h',Slot gA 1 D qo (yK t sy l).length co (u8s (yK t sy l))->Hp hB [] h' D->K (.tuple #[.slice qo (yK t sy l).length co,.int .i64 (qz t sy l)]) h') :
  CP s3 #[t.ag q l.length c,.slice q2 sy.length c2] hB K Kp:=by
 refine DS ?_
 unfold zm
 have H:=Hp.nil hB []
 refine fV H fun r10 h H=>?_
 refine fV H fun r12 h H=>?_
 refine fV H fun r14 h H=>?_
 have H:Hp hB [] h [⟨r10,true,fR,t.cs q l.length c⟩,⟨r12,true,iF,[.slice q2 sy.length c2]⟩,⟨r14,true,k7,[.slice none 0 0]⟩]:=H
 repeat first | with_reducible refine fz (by with_unfolding_all first | exact hpA H 0 rfl rfl | exact Hp.cell H 0 rfl rfl | exact hpB H 0 rfl rfl | exact hpC H 0 rfl rfl) ?_ | with_reducible refine fU (by with_unfolding_all first | exact hpA H 0 rfl rfl | exact Hp.cell H 0 rfl rfl | exact hpB H 0 rfl rfl | exact hpC H 0 rfl rfl) ?_ | with_reducible refine ja (by with_unfolding_all first | exact hpA H 0 rfl rfl | exact Hp.cell H 0 rfl rfl | exact hpB H 0 rfl rfl | exact hpC H 0 rfl rfl) ?_ | with_reducible refine gT (by with_unfolding_all first | exact hpA H 0 rfl rfl | exact Hp.cell H 0 rfl rfl | exact hpB H 0 rfl rfl | exact hpC H 0 rfl rfl) ?_ | with_reducible refine pj (by with_unfolding_all first | exact hpA H 0 rfl rfl | exact Hp.cell H 0 rfl rfl | exact hpB H 0 rfl rfl | exact hpC H 0 rfl rfl) ?_
 refine fU (H.cell 1 rfl rfl) ?_
 refine Er (t:=t) (hv.ext H.gi) (hs.ext H.gi) hl hsl fun h' e=>⟨_,rfl,?_⟩
 have H:=H.ext e
 refine jg (fun h1=>?_) fun h1=>?_
 ·refine st0 H 2 rfl rfl rfl fun h H=>?_
  refine fU (H.cell 2 rfl rfl) ?_
  rw [J9 h1] at hk
  exact hk [] none 0 h (Slot.nil _ _) (H.take 0)
 obtain ⟨hf,hsl4,hl16,har⟩:=uE h1
 rw [EZ h1,h1] at hk
 clear h1
 have hbl:=Co hf hsl4 hl16 har
 have hhl:=w7 t l.length
 refine Fh (fun L2=>∃ D qo co,L2=[⟨r10,true,fR,t.cs q l.length c⟩,⟨r12,true,iF,[.slice q2 sy.length c2]⟩,⟨r14,true,k7,[.slice qo (s7 t sy l).length co]⟩]++D/\Slot gA 1 D qo (s7 t sy l).length co (u8s (s7 t sy l))) (fun _ _=>False) H (fun {r h1 K1 Kp1} H hK1 hKp1=>?_) (fun h' L' hp H=>?_) fun e h' L' hp H=>hp.elim
 ·unfold oy
  simp only
  refine AR (cap0:=⟨r10,0,none⟩) (cap1:=⟨r12,0,none⟩) (cap2:=⟨r14,0,none⟩) ?_
  unfold uM
  obtain ⟨A,hA⟩:∃ A:List Ent,A=[⟨r,true,gR,[.int .i64 0]⟩,⟨r10,true,fR,t.cs q l.length c⟩,⟨r12,true,iF,[.slice q2 sy.length c2]⟩,⟨r14,true,k7,[.slice none 0 0]⟩]:=⟨_,rfl⟩
  have hAw:A.all Ent.w=true:=by rw [hA]; rfl
  have H:Hp hB [] h1 A:=by rw [hA]; exact H
  have rd:∀ {h:Heap} {X:List Ent},Hp hB [] h (A++X)->∀ j v,(t.cs q l.length c)[j]? = some v->ic h ((⟨r10,0,none⟩:Addr).add j)=some v:=fun {h X} H j v hv=>by
   rw [hA] at H
   exact hpA H 1 rfl (by rw [fN]; exact hv)
  refine Go.Ar.RM (n:=14337) (by omega) (by omega) fun p q' r0 h' H'=>?_
  replace H:=H.join H' rfl
  clear H'
  refine ⟨_,_,rfl,lJ ?_⟩
  refine fz (rd H 0 _ rfl) (fz (rd H 1 _ rfl) (fz (rd H 2 _ rfl) (fz (rd H 3 _ rfl) (fz (rd H 4 _ rfl) (gT (rd H 5 _ rfl) (fz (rd H 6 _ rfl) (fz (rd H 7 _ rfl) (fU (rd H 8 _ rfl) ?_))))))))
  refine fU (by rw [hA] at H; exact H.cell 2 rfl rfl) ?_
  refine fV H fun r17 h H=>?_
  have H:=H.rot
  have H:Hp hB [] h ((cdE r17 p t q l.length c q2 sy.length c2::A)++ju p q' r0 (cdL 14337 []) []):=H
  refine Pu H hAw hv hs hf hsl4 hl16 har fun r1 rest1 h H=>?_
  have hTl:=(xz (t:=t) hf.2.2 hsl4 hl16 har).1
  have hco:=sb (m:=14337) (L:=yv t sy l) (by omega)
  obtain ⟨S,hS⟩:∃ S,S=cdL 14337 (yv t sy l):=⟨_,rfl⟩
  rw [<- hS] at H hco hbl
  refine Go.Ar.Pd (Hp.mv H) hco.wf hco.done fun r3 rest3 o orest h' H'=>?_
  replace H:=Hp.pg H rfl H' rfl
  clear H'
  refine ⟨_,_,_,_,rfl,lJ ?_⟩
  have H:Hp hB [] h' (cdE r17 p t q l.length c q2 sy.length c2::(A++(ju p q' r3 (iE S) rest3++[⟨o,true,gA,u8s (iX (iE S))++orest⟩]))):=H
  have H:=Hp.suf (X:=[_]) H
  refine fz (rd H 0 _ rfl) (fz (rd H 1 _ rfl) (fz (rd H 2 _ rfl) (fz (rd H 3 _ rfl) (fz (rd H 4 _ rfl) (gT (rd H 5 _ rfl) (fz (rd H 6 _ rfl) (fz (rd H 7 _ rfl) (fU (rd H 8 _ rfl) ?_))))))))
  refine NQ (t:=t) hf.2.1 (by omega) fun D qo co h2 hsl H'=>?_
  replace H:=H.join H' hsl.w
  clear H'
  refine ⟨_,_,_,rfl,?_⟩
  have H:Hp hB [] h2 ((A++(ju p q' r3 (iE S) rest3++[⟨o,true,gA,u8s (iX (iE S))++orest⟩]))++(D++[])):=by rw [fT]; exact H
  refine Slot.Ls (m:=(iX (iE S)).length) (new:=u8s (iX (iE S))) hsl H rfl (by decide) (Hp.n9 (rest:=orest) H (gV _ (fX _ (fX _ (List.mem_singleton.2 rfl)))) (by rw [gO,gu])) (by rw [gO,gu]) (ql _) (by omega) fun D2 q4 c4 h3 hs2 H=>?_
  have hlen:(pH t l.length).length+(iX (iE S)).length=(s7 t sy l).length:=by
   unfold s7
   rw [<- hS,fA]
  have hbs:u8s (pH t l.length)++u8s (iX (iE S))=u8s (s7 t sy l):=by
   unfold s7
   rw [<- hS]
   simp [u8s]
  rw [hlen,hbs] at hs2
  rw [hlen]
  rw [hA] at H
  have H:Hp hB [] h3 ([⟨r,true,gR,[.int .i64 0]⟩,⟨r10,true,fR,t.cs q l.length c⟩,⟨r12,true,iF,[.slice q2 sy.length c2]⟩,⟨r14,true,k7,[.slice none 0 0]⟩]++(ju p q' r3 (iE S) rest3++[⟨o,true,gA,u8s (iX (iE S))++orest⟩])++D2):=H.as (by rw [fT])
  refine st0 H 3 rfl rfl rfl fun h H=>?_
  have H:Hp hB [] h ([⟨r,true,gR,[.int .i64 0]⟩,⟨r10,true,fR,t.cs q l.length c⟩,⟨r12,true,iF,[.slice q2 sy.length c2]⟩,⟨r14,true,k7,[.slice q4 (s7 t sy l).length c4]⟩]++(ju p q' r3 (iE S) rest3++[⟨o,true,gA,u8s (iX (iE S))++orest⟩])++D2):=H
  have H:=Hp.mid H
  exact hK1 h _ ⟨D2,q4,c4,rfl,hs2⟩ H
 ·obtain ⟨D,qo,co,rfl,hsl⟩:=hp
  refine ⟨_,rfl,?_⟩
  refine fZ (by rfl) ?_
  refine fU (H.cell 2 rfl rfl) ?_
  refine st0 H 2 rfl rfl rfl fun h H=>?_
  refine fU (H.cell 2 rfl rfl) ?_
  have H:Hp hB [] h ([⟨r10,true,fR,t.cs q l.length c⟩,⟨r12,true,iF,[.slice q2 sy.length c2]⟩,⟨r14,true,k7,[.slice qo (s7 t sy l).length co]⟩]++D):=H
  exact hk D qo co h hsl (Hp.suf H)
end
open Go.Ar (Dec idx iW BOk)
structure Strm (T:List (Nat × Nat)) (D:Nat->Dec) (b:List Nat) (e:Ent) (bp:Option Addr):Prop where
 w:Walk T D
 ok:∀ i,i<=T.length->Go.Ar.nh b 14337 i (D i)
 bo:BOk e bp b
 bl:b.length<140737488351300
 tl:T.length+64<=16777216
theorem Strm.dw {T:List (Nat × Nat)} {D:Nat->Dec} {b:List Nat} {e:Ent} {bp:Option Addr} (h:Strm T D b e bp) {p qd bc:Nat} {s:Dec}:(iW p qd e bp bc s).all Ent.w=true:=by simp [iW,Go.Ar.yM,h.bo.1]
def rtE (rr p:Nat) (t:Reg14) (q:Option Addr) (n c:Nat) (q2:Option Addr) (ns c2:Nat) (left rN:Int):Ent:=⟨rr,true,mX,[.pointer (at0 p),.int .i64 t.x,.int .i64 t.y,.int .i64 t.w,.int .i64 t.h,.int .i64 t.op,.bool t.rf,.int .i64 t.df,.int .i64 t.st,.slice q n c,.slice q2 ns c2,.int .i64 left,.int .i64 rN]⟩
section
variable {hB h:Heap} {K:VK} {Kp:PK}
theorem ku {b:Bool} (hb:b=false) (hk:K (.tuple #[]) h):CP ij #[.bool b] h K Kp:=by
 refine EE ?_
 unfold Bu
 exact fZ hb hk
theorem EP {b:Bool} (hb:b=false) (hk:K (.tuple #[]) h):CP oL #[.bool b] h K Kp:=by
 refine GM ?_
 unfold Fg
 exact fZ hb hk
variable {rr p qd bc:Nat} {e:Ent} {bp:Option Addr} {t:Reg14} {q q2:Option Addr} {n c c2:Nat} {sy:List Bmp} {T A B:List (Nat × Nat)} {D:Nat->Dec} {b:List Nat} {X:List Ent} {left rN:Int}
theorem Cq (hS:Strm T D b e bp) (H:Hp hB [] h ((rtE rr p t q n c q2 sy.length c2 left rN::X)++iW p qd e bp bc (D A.length))) {base v:Int} {nn:Bool} (eT:T=A++(nY 14337 base v nn++B)) (hr:pd v nn) (hf:0<=base/\base+(512:Nat)<=14337)
  (hk:∀ h',Hp hB [] h' ((rtE rr p t q n c q2 sy.length c2 left rN::X)++iW p qd e bp bc (D (A++nY 14337 base v nn).length))->K (.agg #[.int .i64 (if nn=true then 0 else v),.bool nn]) h') :
  CP kh #[.pointer (some ⟨rr,0,none⟩),.int .i64 base] h K Kp:=by
 refine xd ?_
 unfold pY
 have hAl:A.length<=T.length:=by rw [eT,fA]; omega
 have htl:=hS.tl
 refine fV H fun r1 h H=>?_
 have H:=H.rot
 have H:Hp hB [] h ((⟨r1,true,iz,[.int .i64 0,.bool false]⟩::rtE rr p t q n c q2 sy.length c2 left rN::X)++iW p qd e bp bc (D A.length)):=H
 refine gv (a:=⟨rr,0,none⟩) (ja (hpA H 1 rfl rfl) ?_)
 refine P0 (m:=14337) (n:=A.length) (Hp.mv H) hS.bo.1 hS.bo (hS.ok _ hAl) hS.bl (by omega) (by omega) (by omega) hf fun h' n' _ _ H'=>?_
 rw [R3 hS.w hr eT] at H' ⊢
 have H:=Hp.pg H hS.dw H' hS.dw
 clear H'
 refine ⟨_,_,_,rfl,?_⟩
 refine fV H fun r10 h H=>?_
 have H:=H.rot
 have H:Hp hB [] h (⟨r10,true,iz,[.int .i64 0,.bool false]⟩::((⟨r1,true,iz,[.int .i64 0,.bool false]⟩::rtE rr p t q n c q2 sy.length c2 left rN::X)++iW p qd e bp bc (D (A++nY 14337 base v nn).length))):=H
 refine stA H 0 rfl rfl rfl fun h H=>?_
 refine stA H 0 rfl rfl rfl fun h H=>?_
 refine ku rfl (lJ ?_)
 refine fz (hpA H 0 rfl rfl) (gT (hpA H 0 rfl rfl) ?_)
 refine stA H 1 rfl rfl rfl fun h H=>?_
 refine stA H 1 rfl rfl rfl fun h H=>?_
 refine fz (hpA H 1 rfl rfl) (gT (hpA H 1 rfl rfl) ?_)
 exact hk h (Hp.suf (X:=[_,_]) H)
theorem Rx {Y:List Ent} (hS:Strm T D b e bp) (H:Hp hB [] h (Y++iW p qd e bp bc (D A.length))) {w:Nat} {id:Int} (hid:0<=id/\id<((2 ^ w:Nat):Int)) (hw:w<=12) (eT:T=A++(wx 14337 2048 w id.toNat++B))
  (hk:∀ h',Hp hB [] h' (Y++iW p qd e bp bc (D (A++wx 14337 2048 w id.toNat).length))->K (.tuple #[.int .i64 id,.int .i64 0]) h') :
  CP sW #[.pointer (at0 p),.int .i64 2048,.int .i64 (w:Nat)] h K Kp:=by
 have hAl:A.length<=T.length:=by rw [eT,fA]; omega
 have htl:=hS.tl
 have hp:=Be hw
 have hfit:uf 2048 w 14337:=⟨by omega,by omega⟩
 refine MC (m:=14337) (n:=A.length) (Hp.mv H) hS.bo.1 hS.bo (hS.ok _ hAl) hS.bl (by omega) (by omega) (by omega) (fun hn=>absurd ⟨by omega,by omega⟩ hn) (fun w' e hw' hn=>?_) fun w' h' e hw' _ _ H'=>?_
 ·obtain rfl:w=w':=by omega
  exact absurd hfit hn
 obtain rfl:w=w':=by omega
 have hx:id.toNat<2 ^ w:=by omega
 rw [R4 hS.w hx eT] at H' ⊢
 have H:=Hp.pg H hS.dw H' hS.dw
 have hv:(((2 ^ w+id.toNat:Nat):Int)-((2 ^ w:Nat):Int))=id:=by omega
 rw [hv]
 exact hk h' H
theorem NR {Y:List Ent} (hS:Strm T D b e bp) (H:Hp hB [] h (Y++iW p qd e bp bc (D A.length))) {ctx:Int} {bit:Nat} (eT:T=A++([(idx ctx 14337,bit)]++B))
  (hk:∀ h',Hp hB [] h' (Y++iW p qd e bp bc (D (A++[(idx ctx 14337,bit)]).length))->K (.tuple #[.int .i64 (bit:Nat),.int .i64 0]) h') :
  CP kG #[.pointer (at0 p),.int .i64 ctx] h K Kp:=by
 have hAl:A.length<=T.length:=by rw [eT,fA]; omega
 have htl:=hS.tl
 have hok:=hS.ok _ hAl
 have hat:=hS.w.at eT
 refine Go.Ar.wv (ctx:=ctx) (Hp.mv H) (by rw [hok.b]; exact hS.bo) hok.wf (by rw [hok.b]; exact hS.bl) (by rw [hok.n]; omega) (by rw [hok.len]; decide) (by rw [hok.len]; decide) fun h' H'=>?_
 rw [hok.len] at H' ⊢
 dsimp only at hat
 rw [hat] at H' ⊢
 have H:=Hp.pg H hS.dw H' hS.dw
 rw [fA,gJ] at hk
 exact hk h' H
theorem Qs {W X:Nat} {ws:List Nat} (hm:sE (W:Int) (X:Int) ws):Gx W X ws:=fun y hy x k1 k2=>FI hm hy k1 k2
theorem P9 {Y:List Ent} (hS:Strm T D b e bp) (H:Hp hB [] h (Y++iW p qd e bp bc (D A.length))) {m s:Bmp} (hm:m.may) (hmw:W64 m.ws) (hs:s.may) (hw:m.w=s.w) (hh:m.h=s.h) {q3:Option Addr} {c3:Nat} (hr2:rdO h q3 (s.ws.length*1) (il s.ws)) (hw2:W64 s.ws) (hl2:s.ws.length<140737488351300)
  (eT:T=A++(dsF (jR m.ws m.w.toNat m.h.toNat) (jR s.ws s.w.toNat s.h.toNat) m.w.toNat 14337 0 0 6145 (m.h.toNat*m.w.toNat)++B))
  (hk:∀ Dm qo co h',Slot gj 1 Dm qo m.ws.length co (il m.ws)->Hp hB [] h' (Y++(iW p qd e bp bc (D (A++dsF (jR m.ws m.w.toNat m.h.toNat) (jR s.ws s.w.toNat s.h.toNat) m.w.toNat 14337 0 0 6145 (m.h.toNat*m.w.toNat)).length)++Dm))->K (.tuple #[.agg #[.int .i64 m.w,.int .i64 m.h,.slice qo m.ws.length co],.int .i64 0]) h') :
  CP uz #[.pointer (at0 p),.int .i64 6145,.int .i64 s.w,.int .i64 s.h,.agg #[.int .i64 s.w,.int .i64 s.h,.slice q3 s.ws.length c3],.int .i64 0,.int .i64 0] h K Kp:=by
 have hlen:A.length+m.h.toNat*m.w.toNat<=T.length:=by
  rw [eT,fA,fA,Mm]
  omega
 have htl:=hS.tl
 have hok:=hS.ok A.length (by omega)
 obtain ⟨mw,mh,ms⟩:=m
 obtain ⟨W,XX,e1,e2,hW1,hW2,hX1,hX2,hWX⟩:=jf hm.1
 have e1:mw=W:=e1
 have e2:mh=XX:=e2
 subst e1 e2
 dsimp only at hw hh
 rw [<- hw,<- hh] at eT hk ⊢
 simp only [fD] at hlen eT hk ⊢
 have hms:sE ((W:Nat):Int) ((XX:Nat):Int) s.ws:=by
  have:=hs
  unfold Bmp.may at this
  rw [<- hw,<- hh] at this
  exact this
 refine Oh (m:=14337) (n0:=A.length) (base:=6145) (Hp.mv H) (by rw [hok.b]; exact hS.bo) hS.bl hok (by omega) (by omega) hr2 hw2 hl2 (fun _=>by simp only [fD]; omega) fun er w' b' bs s' Dm qo co h' hget hsl H'=>?_
 rcases hget with ⟨hn,_⟩ | ⟨_,hn,_⟩ | ⟨_,_,hn,_⟩ | ⟨_,_,_,hn,_⟩ | ⟨_,_,_,_,rfl,rfl,rfl,hrun,hbl,hbw,hpz,_⟩
 ·exact absurd hms hn
 ·exact absurd hm.1 hn
 ·exact absurd ⟨by omega,by omega⟩ hn
 ·exact absurd (by omega) hn
 simp only [fD] at hrun hbl hpz
 have hdr:=Rn (jR ms W XX) (jR s.ws W XX) W 14337 0 0 6145 (O7 _ _ _) hS.w hW1 (XX*W) B eT
 rw [Oo] at hdr
 have hrr:=hrun.symm.trans hdr
 injection hrr with hrr
 injection hrr with h1 h2
 have hbs:bs=ms:=O8 hbl (xR hm) hbw hmw hpz (Qs hm) h1
 subst hbs h2
 have H:=Hp.pg H hS.dw H' (by rw [pP,hS.dw,hsl.w]; rfl)
 exact hk Dm qo co h' hsl H
theorem La {i:Ins} (h:i.d=true->t.rf=true):rL t sy i=(if 0<t.st then nY 14337 1536 (zu t.st.toNat i.y) false else [])++(wx 14337 2048 (wid sy.length) i.s.toNat++((if t.rf=true then [(idx 6144 14337,i.d.toNat)] else [])++(if i.d=true then KO sy i else []))):=by
 unfold rL DB
 congr 2
 cases hd:i.d with
 | false =>
  cases t.rf <;> simp
 | true =>
  rw [h hd]
  simp
set_option maxHeartbeats 8000000 in
theorem Qa (hS:Strm T D b e bp) {i:Ins} {l0:List Ins} {R:List Ent} (H:Hp hB [] h ((rtE rr p t q l0.length c q2 sy.length c2 left rN::(X++R))++iW p qd e bp bc (D A.length))) (hXw:X.all Ent.w=true) (hL:ma R q c l0) (hl0:l0.length<=1000000) (eT:T=A++(rL t sy i++B))
  (hs:o7 hB q2 sy) (hm:xB sy) (hsl:sy.length<=4096) (hst:0<=t.st/\t.st<=3) (hi:mC t.rf sy i) (hiw:W64 i.b.ws) (hleft:1<=left/\left<=1000000) (har:0<=rN/\rN+i.b.w*i.b.h<=1048576)
  (hk:∀ R' q' c' h',ma R' q' c' (l0++[i])->Hp hB [] h' ((rtE rr p t q' (l0.length+1) c' q2 sy.length c2 (left-1) (rN+i.b.w*i.b.h)::(X++R'))++iW p qd e bp bc (D (A++rL t sy i).length))->K (.tuple #[]) h') :
  CP rl #[.pointer (some ⟨rr,0,none⟩),.int .i64 (flo i.y t.st.toNat),.int .i64 i.x] h K Kp:=by
 refine zI ?_
 unfold tv
 obtain ⟨ST,hST⟩:∃ ST:Nat,t.st=(ST:Int):=⟨t.st.toNat,by omega⟩
 have hSTn:t.st.toNat=ST:=by omega
 have hSTle:ST<=3:=by omega
 have hoff:=EY (y:=i.y) hSTle
 have hfl:=IL (y:=i.y) hSTle hi.2.2.1
 have hp8:=Qp hSTle
 have hwid:=H7 hsl
 have hid:=hi.1
 have hrf:i.d=true->t.rf=true:=fun hd=>(hi.2.2.2.2 hd).1
 rw [La hrf,hSTn] at eT hk
 rw [hSTn]
 obtain ⟨A1,hA1⟩:∃ A1,A1=if 0<t.st then nY 14337 1536 (zu ST i.y) false else []:=⟨_,rfl⟩
 obtain ⟨A2,hA2⟩:∃ A2,A2=wx 14337 2048 (wid sy.length) i.s.toNat:=⟨_,rfl⟩
 obtain ⟨A3,hA3⟩:∃ A3,A3=if t.rf=true then [(idx 6144 14337,i.d.toNat)] else []:=⟨_,rfl⟩
 obtain ⟨A4,hA4⟩:∃ A4,A4=if i.d=true then KO sy i else []:=⟨_,rfl⟩
 rw [<- hA1,<- hA2,<- hA3,<- hA4] at eT hk
 have eT:T=A++(A1++(A2++(A3++(A4++B)))):=by rw [eT]; simp only [fC]
 refine qj ⟨_,rfl,ku (by rw [decide_eq_true hi.2.1]; rfl) ?_⟩
 refine gv (a:=⟨rr,0,none⟩) (fz (hpB H 0 rfl rfl) (fH (by omega) ?_))
 rw [hST]
 refine fw _ (Ik hSTle hi.2.2.1) ?_
 refine fV H fun r9 h H=>?_
 have H:=H.rot
 have H:Hp hB [] h (⟨r9,true,fM,[.int .i64 0,.int .i64 0,.int .i64 0,.bool false,.int .i64 0,.int .i64 0,.slice none 0 0]⟩::((rtE rr p t q l0.length c q2 sy.length c2 left rN::(X++R))++iW p qd e bp bc (D A.length))):=H
 repeat first | with_reducible refine stA H 0 (by with_unfolding_all exact rfl) (by with_unfolding_all exact rfl) (by with_unfolding_all exact rfl) fun h H=>?_ | with_reducible refine st0 H 0 (by with_unfolding_all exact rfl) (by with_unfolding_all exact rfl) (by with_unfolding_all exact rfl) fun h H=>?_ | with_reducible refine stB H 0 (by with_unfolding_all exact rfl) (by with_unfolding_all exact rfl) (by with_unfolding_all exact rfl) fun h H=>?_
 obtain ⟨Rc,hRc⟩:∃ Rc:Int->Int->Bool->Bmp->Option Addr->Nat->Ent,Rc=fun y s d m qo co=>⟨r9,true,fM,[.int .i64 i.x,.int .i64 y,.int .i64 s,.bool d,.int .i64 m.w,.int .i64 m.h,.slice qo m.ws.length co]⟩:=⟨_,rfl⟩
 have hRcd:∀ y s d m qo co,Rc y s d m qo co=⟨r9,true,fM,[.int .i64 i.x,.int .i64 y,.int .i64 s,.bool d,.int .i64 m.w,.int .i64 m.h,.slice qo m.ws.length co]⟩:=fun y s d m qo co=>by rw [hRc]
 have H:Hp hB [] h ((Rc (flo i.y ST*2 ^ ST) 0 false ⟨0,0,[]⟩ none 0::rtE rr p t q l0.length c q2 sy.length c2 left rN::(X++R))++iW p qd e bp bc (D A.length)):=by rw [hRcd]; exact H
 refine ⟨fun _ h'=>Hp hB [] h' ((Rc i.y 0 false ⟨0,0,[]⟩ none 0::rtE rr p t q l0.length c q2 sy.length c2 left rN::(X++R))++iW p qd e bp bc (D (A++A1).length)),?_,?_⟩
 ·refine gv (a:=⟨rr,0,none⟩) (fz (hpB H 1 rfl rfl) ?_)
  refine fL (fun h1=>?_) fun h1=>?_
  ·rw [if_pos (by omega)] at hA1
   rw [hA1] at eT
   have H:=H.perm (List.Perm.swap _ _ _)
   refine Cq (X:=Rc (flo i.y ST*2 ^ ST) 0 false ⟨0,0,[]⟩ none 0::(X++R)) hS H eT (.inr (by omega)) (by omega) fun h H=>?_
   rw [<- hA1] at H
   have H:=H.perm (List.Perm.swap _ _ _)
   refine ⟨_,_,rfl,?_⟩
   refine fV H fun r27 h H=>?_
   have H:=H.rot
   rw [hRcd] at H
   have H:Hp hB [] h (⟨r27,true,iz,[.int .i64 0,.bool false]⟩::((⟨r9,true,fM,[.int .i64 i.x,.int .i64 (flo i.y ST*2 ^ ST),.int .i64 0,.bool false,.int .i64 0,.int .i64 0,.slice none 0 0]⟩::rtE rr p t q l0.length c q2 sy.length c2 left rN::(X++R))++iW p qd e bp bc (D (A++A1).length))):=H
   refine stA H 0 rfl rfl rfl fun h H=>?_
   refine stA H 0 rfl rfl rfl fun h H=>?_
   refine gT (hpA H 0 rfl rfl) (fZ rfl ?_)
   refine fz (hpA H 0 rfl rfl) (fL (fun h2=>by omega) fun h2=>?_)
   refine gv (a:=⟨rr,0,none⟩) (fz (hpA H 0 rfl rfl) (fz (hpB H 2 rfl rfl) (fH (by omega) ?_)))
   rw [hST]
   refine fw _ (Ct (by omega)) ?_
   refine ku (by rw [decide_eq_false (by omega)]) ?_
   refine fz (hpA H 1 rfl rfl) (fz (hpA H 0 rfl rfl) ?_)
   refine fw i.y (by show IntKind.i64.wrap (flo i.y ST*2 ^ ST+zu ST i.y)=i.y; rw [hoff.2.2]; exact i64_in _ (by have:=hi.2.2.1; omega) (by have:=hi.2.2.1; omega)) ?_
   refine stA H 1 rfl rfl rfl fun h H=>?_
   rw [hRcd]
   exact Hp.suf (X:=[_]) H
  ·rw [if_neg (by omega)] at hA1
   have hST0:ST=0:=by omega
   rw [hA1,fT]
   have e1:flo i.y ST*2 ^ ST=i.y:=by
    have:(2 ^ ST:Nat)=1:=by rw [hST0]
    omega
   rw [e1] at H
   exact H
 clear H
 rintro h u H
 have rdR:∀ {h:Heap} {y s:Int} {d:Bool} {m:Bmp} {qo:Option Addr} {co:Nat} {Z:List Ent},Hp hB [] h (Rc y s d m qo co::Z)->∀ j v,[Value.int .i64 i.x,.int .i64 y,.int .i64 s,.bool d,.int .i64 m.w,.int .i64 m.h,.slice qo m.ws.length co][j]? = some v->ic h ((⟨r9,0,none⟩:Addr).add j)=some v:=fun {h y s d m qo co Z} H j v hv=>by
  rw [hRcd] at H
  exact hpA H 0 rfl (by rw [fN]; exact hv)
 refine fz (rdR H 1 _ rfl) ?_
 refine qj ⟨_,rfl,ku (by rw [decide_eq_true hi.2.2.1]; rfl) ?_⟩
 refine gv (a:=⟨rr,0,none⟩) (gv (a:=⟨rr,0,none⟩) ?_)
 refine ja (hpA H 1 rfl rfl) (fU (hpA H 1 rfl rfl) ?_)
 refine GZ hsl ⟨_,rfl,gi.refl _,?_⟩
 have eT:T=(A++A1)++(A2++(A3++(A4++B))):=by rw [eT]; simp only [fC]
 rw [hA2] at eT
 refine Rx hS H (id:=i.s) (by omega) hwid.2 eT fun h H=>?_
 rw [<- hA2] at H eT
 refine ⟨_,_,rfl,?_⟩
 rw [hRcd] at H
 refine stA H 0 rfl rfl rfl fun h H=>?_
 have H:Hp hB [] h ((Rc i.y i.s false ⟨0,0,[]⟩ none 0::rtE rr p t q l0.length c q2 sy.length c2 left rN::(X++R))++iW p qd e bp bc (D (A++A1++A2).length)):=by rw [hRcd]; exact H
 refine lJ ?_
 refine gv (a:=⟨rr,0,none⟩) (fz (rdR H 2 _ rfl) (fU (hpA H 1 rfl rfl) ?_))
 refine ku (by rw [decide_eq_false (by omega)]) ?_
 have eT:T=(A++A1++A2)++(A3++(A4++B)):=by rw [eT]; simp only [fC]
 refine ⟨fun _ h'=>Hp hB [] h' ((Rc i.y i.s i.d ⟨0,0,[]⟩ none 0::rtE rr p t q l0.length c q2 sy.length c2 left rN::(X++R))++iW p qd e bp bc (D (A++A1++A2++A3).length)),?_,?_⟩
 ·refine gv (a:=⟨rr,0,none⟩) (gT (hpB H 1 rfl rfl) (gP (fun h1=>?_) fun h1=>?_))
  ·rw [if_pos h1] at hA3
   rw [hA3] at eT
   refine gv (a:=⟨rr,0,none⟩) (ja (hpA H 1 rfl rfl) ?_)
   refine NR hS H eT fun h H=>⟨_,_,rfl,lJ ?_⟩
   rw [<- hA3] at H
   have e1:(((i.d.toNat:Nat):Int) == (1:Int))=i.d:=by cases i.d <;> rfl
   rw [e1]
   rw [hRcd] at H
   refine stA H 0 rfl rfl rfl fun h H=>?_
   rw [hRcd]
   exact H
  ·rw [if_neg (by rw [h1]; decide)] at hA3
   have e1:i.d=false:=Bool.eq_false_iff.2 fun hh=>by
    rw [hrf hh] at h1
    cases h1
   rw [hA3,fT,e1]
   exact H
 clear H
 rintro h u H
 have eT:T=(A++A1++A2++A3)++(A4++B):=by rw [eT]; simp only [fC]
 have hfin:A++A1++A2++A3++A4=A++(A1++(A2++(A3++A4))):=by simp only [fC]
 obtain ⟨A5,hA5⟩:∃ A5,A5=A++A1++A2++A3:=⟨_,rfl⟩
 rw [<- hA5] at H eT hfin
 rw [<- hfin] at hk
 refine ⟨fun _ h'=>∃ o:OwI,o.i=i/\o.Ok/\Hp hB [] h' ((⟨r9,true,fM,o.cs⟩::rtE rr p t q l0.length c q2 sy.length c2 left (rN+i.b.w*i.b.h)::(X++R))++(iW p qd e bp bc (D (A5++A4).length)++o.D)),?_,?_⟩
 ·refine gv (a:=⟨rr,0,none⟩) (fU (hpA H 1 rfl rfl) (fz (rdR H 2 _ rfl) (fH (by omega) ?_)))
  obtain ⟨a,q3,c3,ha,hc0⟩:=hs _ _ (zp hi)
  have hc:=hc0.ext H.gi
  refine iJ ha ?_
  refine fz hc.c0 (fz hc.c1 (fU hc.c2 ?_))
  obtain ⟨s,hsd⟩:∃ s,s=l7 sy i.s:=⟨_,rfl⟩
  rw [<- hsd] at hc0 hc ⊢
  refine fV H fun r104 h H=>?_
  have H:=H.rot
  have H:Hp hB [] h (⟨r104,true,fK,[.int .i64 0,.int .i64 0,.slice none 0 0]⟩::((Rc i.y i.s i.d ⟨0,0,[]⟩ none 0::rtE rr p t q l0.length c q2 sy.length c2 left rN::(X++R))++iW p qd e bp bc (D A5.length))):=H
  repeat first | with_reducible refine stA H 0 (by with_unfolding_all exact rfl) (by with_unfolding_all exact rfl) (by with_unfolding_all exact rfl) fun h H=>?_ | with_reducible refine st0 H 0 (by with_unfolding_all exact rfl) (by with_unfolding_all exact rfl) (by with_unfolding_all exact rfl) fun h H=>?_ | with_reducible refine stB H 0 (by with_unfolding_all exact rfl) (by with_unfolding_all exact rfl) (by with_unfolding_all exact rfl) fun h H=>?_
  rw [hRcd] at H
  have H:Hp hB [] h ((⟨r104,true,fK,[.int .i64 s.w,.int .i64 s.h,.slice q3 s.ws.length c3]⟩::⟨r9,true,fM,[.int .i64 i.x,.int .i64 i.y,.int .i64 i.s,.bool i.d,.int .i64 0,.int .i64 0,.slice none 0 0]⟩::rtE rr p t q l0.length c q2 sy.length c2 left rN::(X++R))++iW p qd e bp bc (D A5.length)):=H
  refine gT (hpA H 1 rfl rfl) (gP (fun h1=>?_) fun h1=>?_)
  ·have hmay:=hi.2.2.2.2 h1
   rw [<- hsd] at hmay
   have hsmay:s.may:=hsd ▸ hm _ (fS (zp hi))
   rw [if_pos h1] at hA4
   obtain ⟨W,XX,e1,e2,hW1,hW2,hX1,hX2,hWX⟩:=jf hsmay.1
   have hmul:s.w*s.h=((W*XX:Nat):Int):=by rw [e1,e2]; simp
   have hmul2:i.b.w*i.b.h=((W*XX:Nat):Int):=by rw [hmay.2.2.1,hmay.2.2.2.1,hmul]
   refine gv (a:=⟨rr,0,none⟩) (fz (hpA H 2 rfl rfl) (fz (hpA H 0 rfl rfl) (fz (hpA H 0 rfl rfl) ?_)))
   refine fw (((W*XX:Nat):Int)) (by exact fO _ _ hmul (by omega) (by omega)) ?_
   rw [hmul2] at har ⊢
   refine fw ((rN+((W*XX:Nat):Int))) (by exact i64_in _ (by omega) (by omega)) ?_
   refine gv (a:=⟨rr,0,none⟩) ?_
   refine stA H 2 rfl rfl rfl fun h H=>?_
   have H:Hp hB [] h ((⟨r104,true,fK,[.int .i64 s.w,.int .i64 s.h,.slice q3 s.ws.length c3]⟩::⟨r9,true,fM,[.int .i64 i.x,.int .i64 i.y,.int .i64 i.s,.bool i.d,.int .i64 0,.int .i64 0,.slice none 0 0]⟩::rtE rr p t q l0.length c q2 sy.length c2 left (rN+((W*XX:Nat):Int))::(X++R))++iW p qd e bp bc (D A5.length)):=H
   refine gv (a:=⟨rr,0,none⟩) (fz (hpA H 2 rfl rfl) ?_)
   refine EP (by rw [decide_eq_false (by omega)]) ?_
   refine gv (a:=⟨rr,0,none⟩) (ja (hpA H 2 rfl rfl) ?_)
   refine fz (hpA H 0 rfl rfl) (fz (hpA H 0 rfl rfl) (fz (hpA H 0 rfl rfl) (fz (hpA H 0 rfl rfl) (fU (hpA H 0 rfl rfl) ?_))))
   rw [hA4] at eT
   unfold KO at eT hA4
   rw [<- hsd] at eT hA4
   refine P9 (m:=i.b) (s:=s) hS H hmay.2.1 hiw hsmay hmay.2.2.1 hmay.2.2.2.1 (H.rdO hc0.r1) hc0.w1 hc0.l1 eT fun Dm qo co h hsl H=>?_
   rw [<- hA4] at H
   refine ⟨_,_,_,_,_,_,rfl,?_⟩
   refine stB H 1 rfl rfl rfl fun h H=>?_
   refine stB H 1 rfl rfl rfl fun h H=>?_
   refine stB H 1 rfl rfl rfl fun h H=>?_
   have hib:i.b.ws.length<=1048576:=hi.ws
   obtain ⟨o,ho⟩:∃ o:OwI,o=⟨i,qo,co,Dm⟩:=⟨_,rfl⟩
   have hoi:o.i=i:=by rw [ho]
   have hoOk:o.Ok:=by rw [ho]; exact ⟨hsl,hiw,by show i.b.ws.length<_; omega⟩
   have H:Hp hB [] h ((⟨r104,true,fK,[.int .i64 s.w,.int .i64 s.h,.slice q3 s.ws.length c3]⟩::⟨r9,true,fM,o.cs⟩::rtE rr p t q l0.length c q2 sy.length c2 left (rN+((W*XX:Nat):Int))::(X++R))++(iW p qd e bp bc (D (A5++A4).length)++o.D)):=by rw [ho]; exact H
   have hov:rdO h o.q (o.i.b.ws.length*1) (il o.i.b.ws):=Slot.vt hoOk.s H fun e he=>fX _ (fX _ he)
   refine lJ ?_
   refine fz (hpB H 1 rfl rfl) (fz (hpB H 1 rfl rfl) (fU (hpB H 1 rfl rfl) ?_))
   refine fz (hpA H 0 rfl rfl) (fz (hpA H 0 rfl rfl) (fU (hpA H 0 rfl rfl) ?_))
   refine J7 (b1:=o.i.b) (b2:=s) hov (H.rdO hc0.r1) hoOk.w hc0.w1 hoOk.l hc0.l1 (by rw [hoi]; exact hmay.2.1) hsmay fun h' e=>⟨_,rfl,?_⟩
   have H:=H.ext e
   refine ku (by rw [hoi]; exact decide_eq_false fun hh=>hmay.2.2.2.2 hh.2.2) ?_
   exact ⟨o,hoi,hoOk,Hp.suf (X:=[_]) H⟩
  ·rw [if_neg (by rw [h1]; decide)] at hA4
   have hz:=hi.2.2.2.1 h1
   refine ⟨⟨i,none,0,[]⟩,rfl,⟨?_,hiw,by rw [hz.2.2]; decide⟩,?_⟩
   ·show Slot gj 1 [] none i.b.ws.length 0 (il i.b.ws)
    rw [hz.2.2]
    exact Slot.nil _ _
   ·have e0:(⟨i,none,0,[]⟩:OwI).cs=[.int .i64 i.x,.int .i64 i.y,.int .i64 i.s,.bool i.d,.int .i64 0,.int .i64 0,.slice none 0 0]:=by
     show [Value.int .i64 i.x,.int .i64 i.y,.int .i64 i.s,.bool i.d,.int .i64 i.b.w,.int .i64 i.b.h,.slice none i.b.ws.length 0]=_
     rw [hz.1,hz.2.1,hz.2.2]
     rfl
    rw [e0,hz.1,hz.2.1,hA4,fT,Int.zero_mul,Int.add_zero,fT]
    exact Hp.suf (X:=[_]) H
 clear H rdR
 rintro h u ⟨o,hoi,hoOk,H⟩
 refine gv (a:=⟨rr,0,none⟩) (fU (hpB H 1 rfl rfl) ?_)
 repeat first | with_reducible refine fz (by with_unfolding_all first | exact hpA H 0 rfl rfl | exact Hp.cell H 0 rfl rfl | exact hpB H 0 rfl rfl | exact hpC H 0 rfl rfl) ?_ | with_reducible refine fU (by with_unfolding_all first | exact hpA H 0 rfl rfl | exact Hp.cell H 0 rfl rfl | exact hpB H 0 rfl rfl | exact hpC H 0 rfl rfl) ?_ | with_reducible refine ja (by with_unfolding_all first | exact hpA H 0 rfl rfl | exact Hp.cell H 0 rfl rfl | exact hpB H 0 rfl rfl | exact hpC H 0 rfl rfl) ?_ | with_reducible refine gT (by with_unfolding_all first | exact hpA H 0 rfl rfl | exact Hp.cell H 0 rfl rfl | exact hpB H 0 rfl rfl | exact hpC H 0 rfl rfl) ?_ | with_reducible refine pj (by with_unfolding_all first | exact hpA H 0 rfl rfl | exact Hp.cell H 0 rfl rfl | exact hpB H 0 rfl rfl | exact hpC H 0 rfl rfl) ?_
 refine fV H fun r160 h H=>?_
 have hoD:=hoOk.s.w
 have hRw:=hL.w
 have H:Hp hB [] h (((⟨r9,true,fM,o.cs⟩::rtE rr p t q l0.length c q2 sy.length c2 left (rN+i.b.w*i.b.h)::X)++iW p qd e bp bc (D (A5++A4).length))++R++(o.D++[⟨r160,true,fM,o.cs⟩])):=by
  have H:Hp hB [] h (((⟨r9,true,fM,o.cs⟩::rtE rr p t q l0.length c q2 sy.length c2 left (rN+i.b.w*i.b.h)::X)++R++iW p qd e bp bc (D (A5++A4).length))++(o.D++[⟨r160,true,fM,o.cs⟩])):=H.as (by simp only [gm,fC]; rfl)
  refine H.perm (rO _ ?_)
  rw [fC,fC]
  exact tu _ jB
 refine hL.app hoOk H hl0 fun R' q' c' h' hL' H=>?_
 rw [hoi] at hL'
 have H:=Hp.swap H
 have H:Hp hB [] h' (⟨r9,true,fM,o.cs⟩::rtE rr p t q l0.length c q2 sy.length c2 left (rN+i.b.w*i.b.h)::((X++R')++iW p qd e bp bc (D (A5++A4).length))):=H
 refine gv (a:=⟨rr,0,none⟩) ?_
 refine stB H 1 rfl rfl rfl fun h H=>?_
 refine gv (a:=⟨rr,0,none⟩) (fz (hpA H 1 rfl rfl) ?_)
 refine fw ((left-1)) (by exact i64_in _ (by omega) (by omega)) ?_
 refine gv (a:=⟨rr,0,none⟩) ?_
 refine stA H 1 rfl rfl rfl fun h H=>?_
 refine hk R' q' c' h hL' ?_
 exact Hp.suf (X:=[⟨r9,true,fM,o.cs⟩]) H
end
end Go.Bm
