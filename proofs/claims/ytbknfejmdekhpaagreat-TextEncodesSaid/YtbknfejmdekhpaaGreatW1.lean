/- W1: put together by wip/tools/bundle.py: Den. -/
import Derived.Orders
import Derived.OrdersHeld
import Derived.Scope
import Derived.KernelRfl
import Derived.IntWalk
import Derived.Laws.BitsLemmas
import Derived.ChangeArms
import Derived.SizedLaws
import Derived.Lib.SmallJoins
import Derived.Defers
import Derived.Recover
set_option linter.unusedVariables false
set_option linter.unusedSimpArgs false
set_option maxRecDepth 100000
namespace Go
abbrev fA:=@List.length_append
abbrev fB:=@Nat.le_of_ble_eq_true
abbrev fC:=@List.append_assoc
abbrev fD:=@Int.toNat_natCast
abbrev fN:=@Nat.zero_add
abbrev fP:=@List.getElem?_eq_getElem
abbrev fS:=@List.mem_of_getElem?
abbrev fT:=@List.append_nil
abbrev fX:=@List.mem_append_right
abbrev fY:=@List.getD_eq_getElem?_getD
abbrev gd:=@List.nil_append
abbrev gg:=@Nat.le_refl
abbrev gk:=@List.getElem?_append_left
abbrev gm:=@List.cons_append
abbrev gp:=@List.length_cons
abbrev gr:=@Nat.add_zero
abbrev gu:=@Nat.mul_one
abbrev gz:=@List.take_of_length_le
abbrev gB:=@List.length_set
abbrev gD:=@Nat.mul_le_mul_right
abbrev gF:=@List.eq_nil_of_length_eq_zero
abbrev gH:=@Bool.and_eq_true
abbrev gI:=@Nat.lt_or_ge
abbrev gJ:=@List.length_singleton
abbrev gK:=@List.mem_cons_of_mem
abbrev gL:=@List.getElem?_map
abbrev gM:=@List.getElem?_append_right
abbrev gS:=@Nat.mul_comm
abbrev gV:=@List.mem_append_left
abbrev gW:=@List.getElem?_concat_length
abbrev gZ:=@Nat.add_mul
abbrev ig:=@Option.some.inj
abbrev im:=@Nat.pow_le_pow_right
abbrev iq:=@List.getElem?_eq_none
abbrev ir:=@Nat.lt_of_le_of_lt
abbrev iu:=@List.length_map
abbrev iC:=@List.length_take
abbrev iD:=@List.getElem?_set_self
abbrev iG:=@Nat.mul_assoc
abbrev iH:=@Nat.sub_self
abbrev iI:=@Nat.two_pow_pos
abbrev iK:=@Nat.lt_of_lt_of_le
abbrev iL:=@Nat.le_trans
abbrev iP:=@Nat.mod_lt
abbrev iS:=@Nat.eq_of_beq_eq_true
abbrev iT:=@List.take_append_drop
abbrev iZ:=@List.length_nil
abbrev jc:=@List.mem_cons_self
abbrev jk:=@Nat.mul_lt_mul_of_pos_right
abbrev jl:=@List.set_append_right
abbrev jm:=@Bool.true_and
abbrev jq:=@Nat.pow_add
abbrev jr:=@List.take_append_of_le_length
abbrev jA:=@Nat.pow_succ
abbrev jB:=@List.perm_append_comm
abbrev jC:=@Nat.mod_eq_of_lt
abbrev jH:=@Nat.and_two_pow_sub_one_eq_mod
abbrev jN:=@Bool.not_eq_true'
abbrev j3:=@List.getElem?_set_ne
abbrev j9:=@Bool.false_eq_true
abbrev km:=@Nat.zero_le
abbrev kn:=@Nat.one_mul
abbrev kz:=@Nat.div_le_self
abbrev kA:=@List.length_drop
abbrev kK:=@Nat.zero_mul
abbrev kL:=@Array.getElem?_eq_none
abbrev kR:=@Nat.and_one_is_mod
abbrev kS:=@List.getElem?_drop
abbrev k6:=@List.take_succ_eq_append_getElem
abbrev lf:=@Nat.div_eq_of_lt
abbrev lE:=@Nat.mul_right_comm
abbrev lF:=@Nat.add_sub_cancel
abbrev lI:=@List.flatten_singleton
abbrev lO:=@Bool.or_eq_true
abbrev mb:=@List.getElem?_cons_succ
abbrev mc:=@List.set_append_left
abbrev mq:=@Nat.lt_of_mul_lt_mul_right
abbrev mU:=@Nat.testBit_and
abbrev m3:=@Nat.zero_testBit
abbrev m4:=@List.drop_append_of_le_length
abbrev nm:=@List.getElem?_cons_zero
abbrev nu:=@List.take_zero
abbrev nv:=@Bool.false_and
abbrev nR:=@Nat.two_pow_add_eq_or_of_lt
abbrev nS:=@List.map_append
abbrev nT:=@Int.natCast_mul
abbrev oO:=@Nat.eq_zero_or_pos
abbrev oP:=@List.getElem?_toArray
abbrev oQ:=@Array.mem_of_getElem?
abbrev o8:=@Nat.testBit_or
abbrev pE:=@List.getElem?_of_mem
abbrev pN:=@Nat.lt_trichotomy
abbrev pO:=@List.ext_getElem?
abbrev pP:=@List.all_append
abbrev qA:=@Nat.add_sub_cancel_left
abbrev qB:=@List.flatten_append
abbrev qC:=@List.flatMap_append
abbrev qD:=@Int.toNat_of_nonneg
abbrev rO:=@List.Perm.append_right
abbrev rT:=@List.set_cons_succ
abbrev tq:=@Nat.testBit_two_pow_sub_one
abbrev tr:=@Nat.pow_zero
abbrev tu:=@List.Perm.append_left
abbrev tZ:=@Nat.add_assoc
abbrev ua:=@List.all_cons
abbrev uC:=@List.getLast?_concat
abbrev vp:=@List.drop_zero
abbrev vq:=@Nat.lt_succ_self
abbrev vr:=@Nat.le_add_right
abbrev vT:=@Nat.succ_mul
abbrev vU:=@List.getElem?_take_of_lt
abbrev vV:=@Array.setIfInBounds_comm
abbrev xE:=@Nat.testBit_mod_two_pow
abbrev xF:=@List.set_cons_zero
abbrev yF:=@Nat.div_div_eq_div_mul
abbrev yG:=@List.length_pos_of_mem
abbrev yH:=@List.drop_of_length_le
abbrev yI:=@Array.getElem?_push_lt
abbrev y1:=@Array.getElem?_setIfInBounds_ne
abbrev An:=@Nat.sub_zero
abbrev Ao:=@List.length_replicate
abbrev Bc:=@List.drop_length
abbrev Bl:=@Nat.eq_of_testBit_eq
abbrev Bn:=@List.mem_of_mem_drop
abbrev Ch:=@List.map_drop
abbrev C6:=@Nat.div_one
abbrev C7:=@List.take_left'
abbrev C8:=@List.cons.injEq
abbrev Ew:=@List.mem_replicate
abbrev Ex:=@List.map_set
abbrev EO:=@List.drop_eq_getElem_cons
abbrev Gz:=@Nat.le_of_lt_succ
abbrev GA:=@List.foldl_append
abbrev GP:=@Nat.mul_pos
abbrev GQ:=@List.pairwise_singleton
abbrev GR:=@List.map_take
abbrev GS:=@List.map_cons
end Go
namespace Go.Den
abbrev Heap:=Array Obj
abbrev VK := Value → Heap → Prop
abbrev PK := List PanicEntry → Heap → Prop
def ic (h:Heap) (a:Addr):Option Value :=
 match h[a.block]? with
 | some (.cells c _ _)=>if a.spot.isSome then none else c[a.off]?
 | _=>none
def vL (h:Heap) (a:Addr):Bool :=
 match h[a.block]? with
 | some (.cells _ _ (lo,hi))=>lo<=a.off && a.off<hi
 | _=>false
def zA (h:Heap) (a:Addr) (v:Value):Heap :=
 h.modify a.block fun
  | .cells c elem frozen => .cells (if a.spot.isSome then c else c.setIfInBounds a.off v) elem frozen
  | o=>o
theorem Mr (w:World) (a:Addr):w.cell? a=ic w.heap a:=rfl
theorem No (w:World) (a:Addr):w.frozen? a=vL w.heap a:=rfl
theorem Io (w:World) (a:Addr) (v:Value):(w.setCell a v).heap=zA w.heap a v:=rfl
def keeps (w w':World):Prop:=w'.os=w.os/\w'.tape=w.tape/\w'.output=w.output
theorem keeps.refl (w:World):keeps w w:=⟨rfl,rfl,rfl⟩
theorem keeps.trans {a b c:World} (h:keeps a b) (k:keeps b c):keeps a c :=
 ⟨k.1.trans h.1,k.2.1.trans h.2.1,k.2.2.trans h.2.2⟩
def wpS (P:Program) (qt:Bool) {α:Type}:Sem α->Heap->(α->Heap->Prop)->Prop
 | .pure a,h,K=>K a h
 | .load _ a k,h,K=>∃ v,ic h a=some v/\wpS P qt (k v) h K
 | .store _ a v k,h,K=>qt=false/\v.oneCell'=true/\(ic h a).isSome=true/\vL h a=false/\wpS P qt k (zA h a v) K
 | .new o k,h,K=>qt=false/\wpS P qt (k h.size) (h.push o) K
 | .shape r k,h,K=>wpS P qt (k (match h[r]? with | some (.cells c elem _)=>some (elem,c.size) | _=>none)) h K
 | .freeze _ _ _,_,_=>False
 | .frozen a k,h,K=>wpS P qt (k (vL h a)) h K
 | .getObj r k,h,K=>match h[r]? with
  | some (.cells ..)=>False
  | some o=>wpS P qt (k o) h K
  | none=>False
 | .setObj r o k,h,K=>match h[r]? with
  | some (.cells ..)=>False
  | some _=>qt=false/\wpS P qt k (h.setIfInBounds r o) K
  | none=>False
 | .choose x k,h,K=>qt=false/\if x.forced then wpS P qt (k 0) h K else ∀ t,wpS P qt (k (x.cut t)) h K
 | .sys _ _,_,_=>False
 | .program k,h,K=>wpS P qt (k P) h K
 | .mark _ k,h,K=>wpS P qt k h K
 | .halt _,_,_=>False
theorem Ci {P:Program} {qt:Bool} {α:Type} (s:Sem α):∀ {h:Heap} {K:α->Heap->Prop},wpS P qt s h K->∀ {w:World},w.heap=h ->
  ∃ a w',s.run P w = .ok a w'/\keeps w w'/\(qt=true->w'=w)/\K a w'.heap:=by
 induction s with
 | pure a=>intro h K H w hw; exact ⟨a,w,rfl,keeps.refl w,fun _=>rfl,hw ▸ H⟩
 | load m a k ih =>
  intro h K ⟨v,hv,H⟩ w hw
  subst hw
  obtain ⟨x,w',hr,hk,hq,hK⟩:=ih v H rfl
  refine ⟨x,w',?_,hk,hq,hK⟩
  simp only [Sem.run,Mr,hv]
  exact hr
 | store m a v k ih =>
  intro h K ⟨h0,h1,h2,h3,H⟩ w hw
  subst hw
  obtain ⟨x,w',hr,hk,hq,hK⟩:=ih H (w:=w.setCell a v) (Io w a v)
  refine ⟨x,w',?_,hk,fun e=>(by rw [h0] at e; cases e),hK⟩
  obtain ⟨u,hu⟩:=Option.isSome_iff_exists.1 h2
  rw [<- hr]
  cases v <;> first | (simp [Value.oneCell'] at h1; done) | simp [Sem.run,Mr,hu,No,h3]
 | new o k ih =>
  intro h K ⟨h0,H⟩ w hw
  subst hw
  obtain ⟨x,w',hr,hk,hq,hK⟩:=ih _ H (w:={ w with heap:=w.heap.push o }) rfl
  exact ⟨x,w',hr,hk,fun e=>(by rw [h0] at e; cases e),hK⟩
 | shape r k ih =>
  intro h K H w hw
  subst hw
  obtain ⟨x,w',hr,hk,hq,hK⟩:=ih _ H (w:=w) rfl
  exact ⟨x,w',hr,hk,hq,hK⟩
 | freeze a n k ih=>intro h K H; exact H.elim
 | frozen a k ih =>
  intro h K H w hw
  subst hw
  obtain ⟨x,w',hr,hk,hq,hK⟩:=ih _ H (w:=w) rfl
  exact ⟨x,w',hr,hk,hq,hK⟩
 | getObj r k ih =>
  intro h K H w hw
  subst hw
  simp only [wpS] at H
  split at H
  ·exact H.elim
  ·rename_i o hn ho
   obtain ⟨x,w',hr,hk,hq,hK⟩:=ih _ H (w:=w) rfl
   refine ⟨x,w',?_,hk,hq,hK⟩
   simp only [Sem.run,ho]
   exact hr
  ·exact H.elim
 | setObj r o k ih =>
  intro h K H w hw
  subst hw
  simp only [wpS] at H
  split at H
  ·exact H.elim
  ·rename_i o' hn ho
   obtain ⟨h0,H⟩:=H
   obtain ⟨x,w',hr,hk,hq,hK⟩:=ih H (w:={ w with heap:=w.heap.setIfInBounds r o }) rfl
   refine ⟨x,w',?_,hk,fun e=>(by rw [h0] at e; cases e),hK⟩
   simp only [Sem.run,ho]
   exact hr
  ·exact H.elim
 | choose y k ih =>
  intro h K H w hw
  subst hw
  simp only [wpS] at H
  obtain ⟨h0,H⟩:=H
  by_cases hy:y.forced=true
  ·rw [if_pos hy] at H
   obtain ⟨x,w',hr,hk,hq,hK⟩:=ih _ H (w:=w) rfl
   refine ⟨x,w',?_,hk,hq,hK⟩
   simp only [Sem.run,hy,if_true]
   exact hr
  ·rw [if_neg hy] at H
   obtain ⟨x,w',hr,hk,hq,hK⟩:=ih _ (H (w.tape w.drawn y)) (w:={ w with drawn:=w.drawn+1 }) rfl
   refine ⟨x,w',?_,hk,fun e=>(by rw [h0] at e; cases e),hK⟩
   simp only [Sem.run,hy]
   exact hr
 | sys c k ih=>intro h K H; exact H.elim
 | program k ih =>
  intro h K H w hw
  subst hw
  obtain ⟨x,w',hr,hk,hq,hK⟩:=ih _ H (w:=w) rfl
  exact ⟨x,w',hr,hk,hq,hK⟩
 | mark m k ih =>
  intro h K H w hw
  subst hw
  obtain ⟨x,w',hr,hk,hq,hK⟩:=ih H (w:=w) rfl
  exact ⟨x,w',hr,hk,hq,hK⟩
 | halt x=>intro h K H; exact H.elim
theorem fQ {P:Program} {qt:Bool} {α β:Type} (s:Sem α) (f:α->Sem β):∀ (h:Heap) (K:β->Heap->Prop),
  wpS P qt (s >>= f) h K=wpS P qt s h fun a h'=>wpS P qt (f a) h' K:=by
 have key:∀ (h:Heap) (K:β->Heap->Prop),wpS P qt (s.bind f) h K=wpS P qt s h fun a h'=>wpS P qt (f a) h' K:=by
  induction s with
  | pure a=>intro h K; rfl
  | load m a k ih=>intro h K; simp only [Sem.bind,wpS,ih]
  | store m a v k ih=>intro h K; simp only [Sem.bind,wpS,ih]
  | new o k ih=>intro h K; simp only [Sem.bind,wpS,ih]
  | shape r k ih=>intro h K; simp only [Sem.bind,wpS,ih]
  | freeze a n k ih=>intro h K; simp only [Sem.bind,wpS]
  | frozen a k ih=>intro h K; simp only [Sem.bind,wpS,ih]
  | getObj r k ih=>intro h K; simp only [Sem.bind,wpS,ih]
  | setObj r o k ih=>intro h K; simp only [Sem.bind,wpS,ih]
  | choose q k ih=>intro h K; simp only [Sem.bind,wpS,ih]
  | sys c k ih=>intro h K; simp only [Sem.bind,wpS]
  | program k ih=>intro h K; simp only [Sem.bind,wpS,ih]
  | mark m k ih=>intro h K; simp only [Sem.bind,wpS,ih]
  | halt x=>intro h K; simp only [Sem.bind,wpS]
 exact key
theorem ie {P:Program} {qt:Bool} {α:Type} (a:α) (h:Heap) (K:α->Heap->Prop):wpS P qt (pure a:Sem α) h K=K a h:=rfl
theorem y2 {P:Program} {qt:Bool} {α:Type} (s:Sem α):∀ {h:Heap} {K K':α->Heap->Prop},wpS P qt s h K->(∀ a h,K a h->K' a h)->wpS P qt s h K':=by
 induction s with
 | pure a=>intro h K K' H m; exact m _ _ H
 | load _ a k ih=>intro h K K' ⟨v,hv,H⟩ m; exact ⟨v,hv,ih v H m⟩
 | store _ a v k ih=>intro h K K' ⟨h0,h1,h2,h3,H⟩ m; exact ⟨h0,h1,h2,h3,ih H m⟩
 | new o k ih=>intro h K K' ⟨h0,H⟩ m; exact ⟨h0,ih _ H m⟩
 | shape r k ih=>intro h K K' H m; exact ih _ H m
 | freeze a n k ih=>intro h K K' H m; exact H
 | frozen a k ih=>intro h K K' H m; exact ih _ H m
 | getObj r k ih =>
  intro h K K' H m
  simp only [wpS] at H ⊢
  split
  ·rename_i ho; simp only [ho] at H
  ·rename_i o hn ho
   split at H
   ·exact H.elim
   ·rename_i o2 hn2 ho2
    have:o=o2:=ig (ho.symm.trans ho2)
    subst this
    exact ih _ H m
   ·exact H.elim
  ·rename_i ho; simp only [ho] at H
 | setObj r o k ih =>
  intro h K K' H m
  simp only [wpS] at H ⊢
  split
  ·rename_i ho; simp only [ho] at H
  ·rename_i o1 hn ho
   split at H
   ·exact H.elim
   ·exact ⟨H.1,ih H.2 m⟩
   ·exact H.elim
  ·rename_i ho; simp only [ho] at H
 | choose q k ih =>
  intro h K K' H m
  simp only [wpS] at H ⊢
  obtain ⟨h0,H⟩:=H
  refine ⟨h0,?_⟩
  split
  ·rename_i hq; rw [if_pos hq] at H; exact ih _ H m
  ·rename_i hq; rw [if_neg hq] at H; exact fun t=>ih _ (H t) m
 | sys c k ih=>intro h K K' H m; exact H
 | program k ih=>intro h K K' H m; exact ih _ H m
 | mark _ k ih=>intro h K K' H m; exact ih H m
 | halt x=>intro h K K' H m; exact H
def fW (p:Prop) [Decidable p] (K:Prop):Prop:=if p then K else False
theorem jt {p:Prop} [Decidable p] {K:Prop}:fW p K↔p/\K:=by
 unfold fW; by_cases h:p <;> simp [h]
theorem fH {p:Prop} [Decidable p] {K:Prop} (h:p) (k:K):fW p K:=jt.2 ⟨h,k⟩
def ptr:Option Addr->(Addr->Prop)->Prop
 | some a,K=>K a
 | none,_=>False
def fI (b:Bool) (X Y:Prop):Prop:=match b with
 | true=>X
 | false=>Y
theorem gP {b:Bool} {X Y:Prop} (h:b=true->X) (k:b=false->Y):fI b X Y:=by
 cases b
 ·exact k rfl
 ·exact h rfl
inductive CT where
 | int (k:IntKind) | bool | ptr | slc | str | any
def exC:CT->(Value->Prop)->Prop
 | .int k,p=>∃ x:Int,p (.int k x)
 | .bool,p=>∃ b:Bool,p (.bool b)
 | .ptr,p=>∃ q:Option Addr,p (.pointer q)
 | .slc,p=>∃ (q:Option Addr) (n c:Nat),p (.slice q n c)
 | .str,p=>∃ s:ByteArray,p (.string s)
 | .any,p=>∃ v:Value,p v
theorem J6:∀ (t:CT) (p:Value->Prop),exC t p->∃ v,p v
 | .int _,_,⟨_,h⟩=>⟨_,h⟩
 | .bool,_,⟨_,h⟩=>⟨_,h⟩
 | .ptr,_,⟨_,h⟩=>⟨_,h⟩
 | .slc,_,⟨_,_,_,h⟩=>⟨_,h⟩
 | .str,_,⟨_,h⟩=>⟨_,h⟩
 | .any,_,⟨_,h⟩=>⟨_,h⟩
def R8:List CT->(List Value->Prop)->Prop
 | [],p=>p []
 | t::ts,p=>exC t fun v=>R8 ts fun vs=>p (v::vs)
theorem HD:∀ (ts:List CT) (p:List Value->Prop),R8 ts p->∃ vs,p vs
 | [],_,h=>⟨[],h⟩
 | t::ts,_,h=>by
  obtain ⟨v,hv⟩:=J6 t _ h
  obtain ⟨vs,h'⟩:=HD ts _ hv
  exact ⟨_,h'⟩
def ldI (h:Heap) (a:Addr) (k:IntKind) (K:Int->Prop):Prop:=∃ x,ic h a=some (.int k x)/\K x
def ldB (h:Heap) (a:Addr) (K:Bool->Prop):Prop:=∃ x,ic h a=some (.bool x)/\K x
def ldP (h:Heap) (a:Addr) (K:Option Addr->Prop):Prop:=∃ x,ic h a=some (.pointer x)/\K x
def ldS (h:Heap) (a:Addr) (K:Option Addr->Nat->Nat->Prop):Prop:=∃ q n c,ic h a=some (.slice q n c)/\K q n c
def ldT (h:Heap) (a:Addr) (K:ByteArray->Prop):Prop:=∃ s,ic h a=some (.string s)/\K s
def ldV (h:Heap) (a:Addr) (K:Value->Prop):Prop:=∃ v,ic h a=some v/\K v
def ldC (h:Heap) (a:Addr):CT->(Value->Prop)->Prop
 | .int k,K=>ldI h a k fun x=>K (.int k x)
 | .bool,K=>ldB h a fun b=>K (.bool b)
 | .ptr,K=>ldP h a fun q=>K (.pointer q)
 | .slc,K=>ldS h a fun q n c=>K (.slice q n c)
 | .str,K=>ldT h a fun s=>K (.string s)
 | .any,K=>ldV h a K
theorem JK {h:Heap} {a:Addr}:∀ {t:CT} {K:Value->Prop},ldC h a t K->∃ v,ic h a=some v/\K v
 | .int _,_,⟨_,h⟩=>⟨_,h⟩
 | .bool,_,⟨_,h⟩=>⟨_,h⟩
 | .ptr,_,⟨_,h⟩=>⟨_,h⟩
 | .slc,_,⟨_,_,_,h⟩=>⟨_,h⟩
 | .str,_,⟨_,h⟩=>⟨_,h⟩
 | .any,_,⟨_,h⟩=>⟨_,h⟩
def OM (h:Heap) (a:Addr):Nat->List CT->(List Value->Prop)->Prop
 | _,[],K=>K []
 | i,t::ts,K=>ldC h (a.add i) t fun v=>OM h a (i+1) ts fun vs=>K (v::vs)
def stV (h:Heap) (a:Addr) (v:Value) (K:Heap->Prop):Prop :=
 v.oneCell'=true/\(ic h a).isSome=true/\vL h a=false/\K (zA h a v)
def qH (h:Heap) (a:Addr):Nat->List Value->(Heap->Prop)->Prop
 | _,[],K=>K h
 | i,v::vs,K=>stV h (a.add i) v fun h'=>qH h' a (i+1) vs K
def S4 (f:TypeId->Option (List CT)):List TypeId->Option (List CT)
 | []=>some []
 | t::ts=>match f t,S4 f ts with
  | some x,some y=>some (x++y)
  | _,_=>none
def SC (x:List CT):Nat->List CT
 | 0=>[]
 | n+1=>x++SC x n
def cts (P:Program):Nat->TypeId->Option (List CT)
 | 0,_=>none
 | f+1,t=>match P.underlying t with
  | some (.int k)=>some [.int k]
  | some .bool=>some [.bool]
  | some (.pointer _)=>some [.ptr]
  | some (.slice _)=>some [.slc]
  | some .string=>some [.str]
  | some (.struct fs)=>S4 (cts P f) (fs.toList.map (·.type))
  | some (.array n e)=>match Nat.ble n 8 with
   | true=>(match cts P f e with
    | some x=>some (SC x n)
    | none=>none)
   | false=>none
  | some _=>some [.any]
  | none=>none
def tA (P:Program) (t:TypeId):Bool:=match P.underlying t with
 | some (.struct _) | some (.array _ _)=>true
 | _=>false
def qn (P:Program) (t:TypeId):Option Nat:=match P.info? t with
 | some i=>some i.size
 | none=>none
def FD (h:Heap) (a:Addr) (n:Nat) (cs:List Value):Prop:=cs.length=n/\∀ j v,cs[j]? = some v->ic h (a.add j)=some v
def Bh (P:Program) (t:TypeId) (h:Heap) (a:Addr) (K:Value->Prop):Prop :=
 match tA P t with
 | false=>(match cts P 1 t with
  | some [c]=>ldC h a c K
  | _=>False)
 | true=>match cts P 8 t,qn P t with
  | some ts,some n=>(match Nat.beq ts.length n with
   | true=>OM h a 0 ts fun vs=>K (.agg vs.toArray)
   | false=>False)
  | none,some n=>∃ cs:List Value,FD h a n cs/\K (.agg cs.toArray)
  | _,_=>False
def KC (P:Program) (t:TypeId) (h:Heap) (a:Addr) (v:Value) (K:Heap->Prop):Prop :=
 match tA P t,qn P t with
 | false,some 1=>stV h a v K
 | true,some n=>(match v with
  | .agg cs=>fW (cs.toList.length=n) (qH h a 0 cs.toList K)
  | _=>False)
 | _,_=>False
def jo (op:BinOp) (k:IntKind) (x y:Int):Int:=bits op k x y
def lT (k:IntKind) (x y:Int):Int:=k.wrap (x*2 ^ (min y.toNat k.bits))
def l8 (k:IntKind) (x y:Int):Int:=x.fdiv (2 ^ (min y.toNat k.bits))
def OZ (op:BinOp) (k:IntKind) (x:Int) (k':IntKind) (y:Int) (K:Value->Prop):Prop:=match op with
 | .shl=>fW (0<=y) (K (.int k (lT k x y)))
 | .shr=>fW (0<=y) (K (.int k (l8 k x y)))
 | .add=>fW (k=k') (K (.int k (k.wrap (x+y))))
 | .sub=>fW (k=k') (K (.int k (k.wrap (x-y))))
 | .mul=>fW (k=k') (K (.int k (k.wrap (x*y))))
 | .quo=>fW (k=k'/\y≠0) (K (.int k (k.wrap (x.tdiv y))))
 | .rem=>fW (k=k'/\y≠0) (K (.int k (x.tmod y)))
 | .and=>fW (k=k') (K (.int k (jo .and k x y)))
 | .or=>fW (k=k') (K (.int k (jo .or k x y)))
 | .xor=>fW (k=k') (K (.int k (jo .xor k x y)))
 | .andNot=>fW (k=k') (K (.int k (jo .andNot k x y)))
 | .eql=>fW (k=k') (K (.bool (x == y)))
 | .neq=>fW (k=k') (K (.bool (x != y)))
 | .lss=>fW (k=k') (K (.bool (decide (x<y))))
 | .leq=>fW (k=k') (K (.bool (decide (x<=y))))
 | .gtr=>fW (k=k') (K (.bool (decide (x > y))))
 | .geq=>fW (k=k') (K (.bool (decide (x≥y))))
def eqD (op:BinOp) (r:Bool) (K:Value->Prop):Prop:=match op with
 | .eql=>K (.bool r)
 | .neq=>K (.bool (!r))
 | _=>False
def K7 (P:Program) (t:TypeId) (c:TypeDesc->Bool):Bool:=match P.underlying t with
 | some d=>c d
 | none=>false
def isB:TypeDesc->Bool
 | .bool=>true
 | _=>false
def isP:TypeDesc->Bool
 | .pointer _=>true
 | _=>false
def isS:TypeDesc->Bool
 | .slice _=>true
 | _=>false
def Cl (b:Bool) (K:Prop):Prop:=match b with
 | true=>K
 | false=>False
def Nu (P:Program) (op:BinOp) (t:TypeId) (x y:Value) (K:Value->Prop):Prop:=match x,y with
 | .int k a,.int k' b=>OZ op k a k' b K
 | .bool a,.bool b=>Cl (K7 P t isB) (eqD op (a == b) K)
 | .pointer p,.pointer none=>Cl (K7 P t isP) (eqD op p.isNone K)
 | .slice p _ _,.slice none _ _=>Cl (K7 P t isS) (eqD op p.isNone K)
 | _,_=>False
def unD (op:UnOp) (x:Value) (K:Value->Prop):Prop:=match op,x with
 | .neg,.int k n=>K (.int k (k.wrap (0-n)))
 | .xor,.int k n=>K (.int k (jo .xor k (if k.signed then -1 else k.max) n))
 | .not,.bool b=>K (.bool (!b))
 | _,_=>False
def mu (cells:List Value):Nat->List Value->List Value
 | _,[]=>cells
 | off,v::vs=>mu (cells.set off v) (off+1) vs
def Eo:List (Nat × Nat × Value)->List Value->(List Value->Prop)->Prop
 | [],cells,K=>K cells
 | (off,size,v)::rest,cells,K=>fW (v.cells.toList.length=size/\off+size<=cells.length) (Eo rest (mu cells off v.cells.toList) K)
def Cz (P:Program) (fs:Array Field):List (Nat × Value)->Option (List (Nat × Nat × Value))
 | []=>some []
 | (i,v)::rest=>match fs[i]? with
  | none=>none
  | some f=>match qn P f.type,Cz P fs rest with
   | some n,some l=>some ((f.offset,n,v)::l)
   | _,_=>none
def Fw (size:Nat):List (Nat × Value)->List (Nat × Nat × Value)
 | []=>[]
 | (i,v)::rest=>(i*size,size,v)::Fw size rest
def rQ (P:Program) (t:TypeId):Option (List Value):=match P.info? t with
 | some i=>(match i.zero with
  | some z=>some z.cells.toList
  | none=>none)
 | none=>none
def l9 (z:List Value):Nat->List Value
 | 0=>[]
 | n+1=>z++l9 z n
def E7 (P:Program):List Field->Bool
 | []=>true
 | f::fs=>match P.info? f.type with
  | some _=>E7 P fs
  | none=>false
def z9 (P:Program) (t:TypeId) (parts:List (Nat × Value)) (K:Value->Prop):Prop :=
 match P.underlying t,rQ P t with
 | some (.struct fs),some z=>(match Cz P fs parts,E7 P fs.toList with
  | some l,true=>Eo l z fun cs=>K (.agg cs.toArray)
  | _,_=>False)
 | some (.array _ e),some z=>(match qn P e with
  | some n=>Eo (Fw n parts) z fun cs=>K (.agg cs.toArray)
  | none=>False)
 | _,_=>False
def vO (P:Program) (t:TypeId) (len:Nat) (parts:List (Nat × Value)) (h:Heap) (K:VK):Prop :=
 match P.underlying t with
 | some (.slice e)=>(match qn P e,rQ P e with
  | some n,some z=>fW (len*n<=16777216/\z.length=n/\0<n) (Eo (Fw n parts) (l9 z len) fun cs =>
    K (.slice (some ⟨h.size,0,none⟩) len len) (h.push (.cells cs.toArray e)))
  | _,_=>False)
 | _=>False
section
variable {P:Program} {qt:Bool}
theorem gG {t:TypeId} {d:TypeDesc} (hu:P.underlying t=some d) (h:Heap) (K:TypeDesc->Heap->Prop) :
  wpS P qt (underlying t) h K=K d h:=by
 unfold underlying
 rw [fQ]
 simp only [program,wpS,hu]
 rfl
theorem kT {t:TypeId} {i:TypeInfo} (hi:P.info? t=some i) (h:Heap) (K:TypeInfo->Heap->Prop) :
  wpS P qt (typeInfo t) h K=K i h:=by
 unfold typeInfo
 rw [fQ]
 simp only [program,wpS,hi]
 rfl
theorem kY {t:TypeId} {n:Nat} (hn:qn P t=some n) (h:Heap) (K:Nat->Heap->Prop):wpS P qt (sizeOf t) h K=K n h:=by
 unfold qn at hn
 split at hn
 ·rename_i i hi
  simp only [Option.some.injEq] at hn
  subst hn
  unfold sizeOf
  rw [fQ,kT hi]
  rfl
 ·cases hn
theorem ll {t:TypeId} {i:TypeInfo} {z:Value} (hi:P.info? t=some i) (hz:i.zero=some z) (h:Heap) (K:VK) :
  wpS P qt (zeroValue t) h K=K z h:=by
 unfold zeroValue
 rw [fQ,kT hi]
 simp only [hz]
 rfl
theorem pX {t:TypeId} {z:List Value} (hz:rQ P t=some z):∃ i v,P.info? t=some i/\i.zero=some v/\v.cells.toList=z:=by
 unfold rQ at hz
 split at hz
 ·rename_i i hi
  split at hz
  ·rename_i v hv
   exact ⟨i,v,hi,hv,ig hz⟩
  ·cases hz
 ·cases hz
theorem KG {t:TypeId} {n:Nat} (hn:qn P t=some n):∃ i,P.info? t=some i/\i.size=n:=by
 unfold qn at hn
 split at hn
 ·rename_i i hi
  exact ⟨i,hi,ig hn⟩
 ·cases hn
theorem zy (t:TypeId) {d:TypeDesc} (hu:P.underlying t=some d) (h:Heap) (K:Bool->Heap->Prop) :
  wpS P qt (isAgg t) h K=K (tA P t) h:=by
 unfold isAgg tA
 rw [fQ,gG hu,hu]
 cases d <;> rfl
theorem ND (a:Addr) (m:Mode) (h:Heap) (K:VK):wpS P qt (load a m) h K = ∃ v,ic h a=some v/\K v h:=rfl
theorem GV (a:Addr) (v:Value) (m:Mode) (h:Heap) (K:Unit->Heap->Prop) :
  wpS P qt (store a v m) h K=(qt=false/\v.oneCell'=true/\(ic h a).isSome=true/\vL h a=false/\K () (zA h a v)):=rfl
theorem wY (a:Addr) (h:Heap) (K:Array Value->Heap->Prop):∀ (vs:List Value) (i:Nat) (acc:Array Value),
  (∀ j v,vs[j]? = some v->ic h (a.add (i+j))=some v)->K (acc++vs.toArray) h->wpS P qt (loadCellsFrom a i vs.length acc) h K
 | [],_,acc,_,H=>by simpa [loadCellsFrom,ie] using H
 | v::vs,i,acc,hc,H=>by
  simp only [gp,loadCellsFrom]
  rw [fQ,ND]
  refine ⟨v,by simpa using hc 0 v rfl,?_⟩
  refine wY a h K vs (i+1) (acc.push v) (fun j u hu=>?_) (by simpa using H)
  have:=hc (j+1) u (by simpa using hu)
  rw [show i+1+j=i+(j+1) by omega]
  exact this
theorem xS {a:Addr} {h:Heap} {K:Array Value->Heap->Prop} {n:Nat} {vs:List Value} (hr:FD h a n vs) (H:K vs.toArray h) :
  wpS P qt (loadCells a n) h K:=by
 unfold loadCells
 rw [<- hr.1]
 exact wY a h K vs 0 #[] (fun j v hj=>by rw [fN]; exact hr.2 j v hj) (by simpa using H)
theorem Hq {h:Heap} {a:Addr}:∀ {ts:List CT} {i:Nat} {K:List Value->Prop},OM h a i ts K ->
  ∃ vs,vs.length=ts.length/\(∀ j v,vs[j]? = some v->ic h (a.add (i+j))=some v)/\K vs
 | [],_,_,H=>⟨[],rfl,by simp,H⟩
 | t::ts,i,K,H=>by
  obtain ⟨v,hv,H⟩:=JK H
  obtain ⟨vs,hl,hc,H⟩:=Hq H
  refine ⟨v::vs,by simp [hl],fun j u hu=>?_,H⟩
  cases j with
  | zero=>simp at hu; subst hu; exact hv
  | succ j =>
   have:=hc j u (by simpa using hu)
   rw [show i+(j+1)=i+1+j by omega]
   exact this
theorem Em {t:TypeId} {h:Heap} {a:Addr} {K:VK} (H:Bh P t h a fun v=>K v h):wpS P qt (loadVar t a) h K:=by
 unfold Bh at H
 unfold loadVar
 cases hu:P.underlying t with
 | none =>
  simp only [tA,hu,cts] at H
 | some d =>
 rw [fQ,zy t hu]
 cases hg:tA P t with
 | false =>
  simp only [hg] at H
  split at H
  ·rename_i c hc
   obtain ⟨v,hv,hk⟩:=JK H
   simp only [j9,if_false]
   exact ⟨v,hv,hk⟩
  ·exact H.elim
 | true =>
  simp only [hg] at H
  simp only [if_true]
  split at H
  ·rename_i ts n hts hn
   split at H
   ·rename_i hl
    have hl:=iS hl
    obtain ⟨vs,hvl,hvc,hk⟩:=Hq H
    rw [fQ,kY hn,fQ]
    exact xS ⟨hvl.trans hl,fun j v hj=>by have:=hvc j v hj; rwa [fN] at this⟩ (by rw [ie]; exact hk)
   ·exact H.elim
  ·rename_i n hts hn
   obtain ⟨cs,hr,hk⟩:=H
   rw [fQ,kY hn,fQ]
   exact xS hr (by rw [ie]; exact hk)
  ·exact H.elim
theorem uP {a:Addr} {K:Unit->Heap->Prop}:∀ {vs:List Value} {h:Heap} {i:Nat},qH h a i vs (fun h'=>K () h')->wpS P false (storeCells a vs i) h K
 | [],h,i,H=>by unfold storeCells; exact H
 | v::vs,h,i,⟨h1,h2,h3,H⟩=>by
  unfold storeCells
  rw [fQ,GV]
  exact ⟨rfl,h1,h2,h3,uP H⟩
theorem IW {v:Value} (h:v.oneCell'=true):v.cells=#[v]:=by cases v <;> first | rfl | cases h
theorem Ii {t:TypeId} {h:Heap} {a:Addr} {v:Value} {K:Unit->Heap->Prop} (H:KC P t h a v fun h'=>K () h'):wpS P false (storeVar t a v) h K:=by
 unfold KC at H
 unfold storeVar
 split at H
 ·rename_i hg hn
  rw [fQ,kY hn]
  have hc:=IW H.1
  have hadd:a.add 0=a:=by simp [Addr.add]
  simp only [hc,List.size_toArray,gp,iZ,ne_eq,not_true,if_false]
  unfold storeCells
  rw [fQ,hadd,GV]
  exact ⟨rfl,H.1,H.2.1,H.2.2.1,by unfold storeCells; exact H.2.2.2⟩
 ·rename_i n hg hn
  split at H
  ·rename_i cs
   obtain ⟨hl,H⟩:=jt.1 H
   rw [fQ,kY hn]
   have:¬ (Value.agg cs).cells.size≠n:=by simp [Value.cells]; simpa using hl
   rw [if_neg this]
   exact uP H
  ·exact H.elim
 ·exact H.elim
theorem K9 {op:BinOp} {k k':IntKind} {x y:Int} {h:Heap} {K:VK} (t:TypeId) (H:OZ op k x k' y fun v=>K v h) :
  wpS P qt (binOp op t (.int k x) (.int k' y)) h K:=by
 cases op <;> simp only [OZ] at H <;> (have hk:=(jt.1 H).1; have H':=(jt.1 H).2; clear H) <;> first
  | (have hy:¬ y<0:=by omega
     simp only [binOp,Op.shift,if_neg hy]
     exact H')
  | (subst hk
     simp only [binOp,Op.intArith,Op.intBits,Op.intCmp,if_neg (show ¬ (k≠k) by simp)]
     exact H')
  | (obtain ⟨hk,hy⟩:=hk
     subst hk
     simp only [binOp,Op.intDiv,if_neg hy,if_neg (show ¬ (k≠k) by simp)]
     exact H')
theorem rV {b:Bool} {K:Prop}:Cl b K↔b=true/\K:=by cases b <;> simp [Cl]
theorem wZ {t:TypeId} {c:TypeDesc->Bool} (h:K7 P t c=true):∃ d,P.underlying t=some d/\c d=true:=by
 unfold K7 at h
 split at h
 ·rename_i d hd
  exact ⟨d,hd,h⟩
 ·cases h
theorem OV {d:TypeDesc} (h:isB d=true):d = .bool:=by cases d <;> first | rfl | cases h
theorem OU {d:TypeDesc} (h:isP d=true):∃ e,d = .pointer e:=by cases d <;> first | exact ⟨_,rfl⟩ | cases h
theorem OT {d:TypeDesc} (h:isS d=true):∃ e,d = .slice e:=by cases d <;> first | exact ⟨_,rfl⟩ | cases h
theorem DD {t e:TypeId} (hu:P.underlying t=some (.pointer e)) (p:Option Addr) (h:Heap) (K:Bool->Heap->Prop) (d:Nat) :
  wpS P qt (Op.equalIn (d+1) t (.pointer p) (.pointer none)) h K=K p.isNone h:=by
 unfold Op.equalIn
 rw [fQ,gG hu]
 cases p <;> rfl
theorem BN {t e:TypeId} (hu:P.underlying t=some (.slice e)) (p:Option Addr) (n c n' c':Nat) (h:Heap) (K:Bool->Heap->Prop) (d:Nat) :
  wpS P qt (Op.equalIn (d+1) t (.slice p n c) (.slice none n' c')) h K=K p.isNone h:=by
 unfold Op.equalIn
 rw [fQ,gG hu]
 cases p <;> rfl
theorem CI {t:TypeId} (hu:P.underlying t=some .bool) (a b:Bool) (h:Heap) (K:Bool->Heap->Prop) (d:Nat) :
  wpS P qt (Op.equalIn (d+1) t (.bool a) (.bool b)) h K=K (a == b) h:=by
 unfold Op.equalIn
 rw [fQ,gG hu]
 rfl
theorem w8 {op:BinOp} {t:TypeId} {x y:Value} {r:Bool} {h:Heap} {K:VK} (X Y:Operand)
  (hg:(op = .eql\/op = .neq)->wpS P qt (eqGuard op t X Y x y) h fun _ h'=>h'=h)
  (hb:(op = .eql->binOp op t x y=do pure (.bool (<- Op.equal t x y)))/\(op = .neq->binOp op t x y=do pure (.bool (!(<- Op.equal t x y)))))
  (he:∀ K':Bool->Heap->Prop,wpS P qt (Op.equal t x y) h K'=K' r h) (H:eqD op r fun v=>K v h) :
  wpS P qt (do eqGuard op t X Y x y; binOp op t x y) h K:=by
 rw [fQ]
 unfold eqD at H
 split at H
 ·refine y2 _ (hg (.inl rfl)) fun _ h' e=>?_
  subst e
  rw [hb.1 rfl,fQ,he]
  exact H
 ·refine y2 _ (hg (.inr rfl)) fun _ h' e=>?_
  subst e
  rw [hb.2 rfl,fQ,he]
  exact H
 ·exact H.elim
theorem Lp {op:BinOp} {t:TypeId} {x y:Value} {h:Heap} {K:VK} (X Y:Operand) (H:Nu P op t x y fun v=>K v h) :
  wpS P qt (do eqGuard op t X Y x y; binOp op t x y) h K:=by
 have hm:Op.maxDepth=9999+1:=rfl
 unfold Nu at H
 split at H
 ·rename_i k a k' b
  rw [fQ]
  have hg:eqGuard op t X Y (.int k a) (.int k' b)=pure ():=by
   unfold eqGuard
   cases op <;> rfl
  rw [hg,ie]
  exact K9 t H
 ·rename_i a b
  obtain ⟨ht,H⟩:=rV.1 H
  obtain ⟨d,hu,hd⟩:=wZ ht
  obtain rfl:=OV hd
  refine w8 X Y (fun h=>?_) ⟨fun e=>by subst e; rfl,fun e=>by subst e; rfl⟩ (fun K'=>by unfold Op.equal; rw [hm,CI hu]) H
  rcases h with rfl | rfl <;> rfl
 ·rename_i p
  obtain ⟨ht,H⟩:=rV.1 H
  obtain ⟨d,hu,hd⟩:=wZ ht
  obtain ⟨e,rfl⟩:=OU hd
  refine w8 X Y (fun h=>?_) ⟨fun e=>by subst e; cases p <;> rfl,fun e=>by subst e; cases p <;> rfl⟩ (fun K'=>by unfold Op.equal; rw [hm,DD hu]) H
  rcases h with rfl | rfl <;> rfl
 ·rename_i p n c n' c'
  obtain ⟨ht,H⟩:=rV.1 H
  obtain ⟨d,hu,hd⟩:=wZ ht
  obtain ⟨e,rfl⟩:=OT hd
  refine w8 X Y (fun h=>?_) ⟨fun e=>by subst e; rfl,fun e=>by subst e; rfl⟩ (fun K'=>by unfold Op.equal; rw [hm,BN hu]) H
  rcases h with rfl | rfl <;> rfl
 ·exact H.elim
theorem ME {op:UnOp} {x:Value} {h:Heap} {K:VK} (H:unD op x fun v=>K v h):wpS P qt (Op.unary op x) h K:=by
 unfold unD at H
 split at H
 ·exact H
 ·exact H
 ·exact H
 ·exact H.elim
theorem nq:∀ (vs cells:List Value) (off:Nat),(mu cells off vs).length=cells.length
 | [],_,_=>rfl
 | v::vs,cells,off=>by simp [mu,nq vs]
theorem Hw:∀ (vs:List Value) (off k:Nat) (cells:Array Value),
  ((vs.zipIdx k).foldl (fun (cs:Array Value) (x:Value × Nat)=>cs.setIfInBounds (off+x.2) x.1) cells).toList=mu cells.toList (off+k) vs
 | [],_,_,_=>rfl
 | v::vs,off,k,cells=>by
  simp only [List.zipIdx_cons,List.foldl_cons,mu]
  rw [Hw vs off (k+1),Array.toList_setIfInBounds]
  rfl
theorem vM (place:Nat->Option (Nat × Nat)):∀ (parts:List (Nat × Value)) (l:List (Nat × Nat × Value)) (cells:List Value) (K:List Value->Prop),
  (parts.map fun x=>(place x.1).map fun y=>(y.1,y.2,x.2))=l.map some->Eo l cells K->∃ cs,Instr.fill place cells.toArray parts=some cs/\K cs.toList
 | [],[],cells,K,_,H=>⟨cells.toArray,rfl,by simpa [Eo] using H⟩
 | [],_::_,_,_,h,_=>by simp at h
 | _::_,[],_,_,h,_=>by simp at h
 | (i,v)::parts,(off,size,v')::l,cells,K,hp,H=>by
  simp only [GS,C8] at hp
  obtain ⟨h1,h2⟩:=hp
  cases hpl:place i with
  | none=>rw [hpl] at h1; cases h1
  | some os =>
   obtain ⟨o,s⟩:=os
   rw [hpl] at h1
   simp only [Option.map_some,Option.some.injEq,Prod.mk.injEq] at h1
   obtain ⟨rfl,rfl,rfl⟩:=h1
   obtain ⟨⟨hs,hb⟩,H⟩:=jt.1 H
   obtain ⟨cs,hc,hk⟩:=vM place parts l _ K h2 H
   refine ⟨cs,?_,hk⟩
   have hs':v.cells.size=s:=by simpa using hs
   simp only [Instr.fill,hpl]
   have:¬ ((v.cells.size≠s || decide (o+v.cells.size > cells.toArray.size))=true):=by simp [hs']; omega
   rw [if_neg this]
   rw [<- hc]
   congr 1
   apply Array.toList_inj.1
   have:=Hw v.cells.toList o 0 cells.toArray
   simp only [gr] at this
   rw [<- this]
   rw [<- Array.foldl_toList]
   simp only [Array.toList_zipIdx]
theorem Cy {fs:Array Field}:∀ {parts:List (Nat × Value)} {l:List (Nat × Nat × Value)},Cz P fs parts=some l ->
  ∀ (pl:Array (Nat × Nat)),(∀ (i:Nat) (f:Field),fs[i]? = some f->∀ n,qn P f.type=some n->pl[i]? = some (f.offset,n)) ->
  (parts.map fun x=>(pl[x.1]?).map fun y=>(y.1,y.2,x.2))=l.map some
 | [],l,h,_,_=>by simp [Cz] at h; subst h; rfl
 | (i,v)::rest,l,h,pl,hpl=>by
  unfold Cz at h
  split at h
  ·cases h
  ·rename_i f hf
   split at h
   ·rename_i n l' hn hl'
    simp only [Option.some.injEq] at h
    subst h
    simp only [GS]
    rw [hpl i f hf n hn,Cy hl' pl hpl]
    rfl
   ·cases h
theorem El:∀ (fs:List Field),(∀ f∈fs,∃ i,P.info? f.type=some i)->∀ (h:Heap) (K:List (Nat × Nat)->Heap->Prop),
  K (fs.map fun f=>(f.offset,((P.info? f.type).map (·.size)).getD 0)) h->wpS P qt (fs.mapM fun f=>do pure (f.offset,<- sizeOf f.type)) h K
 | [],_,h,K,H=>by simp only [List.mapM_nil,ie]; exact H
 | f::fs,hf,h,K,H=>by
  obtain ⟨i,hi⟩:=hf f (by simp)
  simp only [List.mapM_cons]
  rw [fQ,fQ]
  unfold sizeOf
  rw [fQ,kT hi,ie,ie,fQ]
  refine El fs (fun g hg=>hf g (by simp [hg])) h _ ?_
  rw [ie]
  simpa [hi] using H
theorem C2:∀ {fs:List Field},E7 P fs=true->∀ f∈fs,∃ i,P.info? f.type=some i
 | [],_,f,hf=>by cases hf
 | g::fs,h,f,hf=>by
  unfold E7 at h
  split at h
  ·rename_i i hi
   rcases List.mem_cons.1 hf with rfl | hf
   ·exact ⟨i,hi⟩
   ·exact C2 h f hf
  ·cases h
theorem IY {t:TypeId} {parts:Array (Nat × Value)} {h:Heap} {K:VK}
  (H:z9 P t parts.toList fun v=>K v h):wpS P qt (Instr.build t parts) h K:=by
 unfold z9 at H
 split at H
 ·rename_i fs z hu hz
  obtain ⟨i,v,hi,hv,hvz⟩:=pX hz
  split at H
  ·rename_i l hl hall
   unfold Instr.build
   rw [fQ,ll hi hv,fQ,gG hu]
   simp only []
   rw [fQ,Array.mapM_eq_mapM_toList]
   have hmap:∀ (s:Sem (List (Nat × Nat))) (K':Array (Nat × Nat)->Heap->Prop),wpS P qt (List.toArray <$> s) h K'=wpS P qt s h fun l h'=>K' l.toArray h':=fun s K'=>by
    show wpS P qt (s.bind (fun a=>pure a.toArray)) h K'=_
    exact fQ s _ h K'
   rw [hmap]
   refine El fs.toList (C2 hall) h _ ?_
   obtain ⟨cs,hc,hk⟩:=vM (((fs.toList.map fun f=>(f.offset,((P.info? f.type).map (·.size)).getD 0)).toArray)[·]?) parts.toList l z _
    (Cy hl _ (fun i f hf n hn=>by
     obtain ⟨inf,h1,h2⟩:=KG hn
     have:fs.toList[i]? = some f:=by simpa using hf
     simp [this,h1,h2])) H
   have hz':v.cells=z.toArray:=by rw [<- hvz]
   rw [hz',hc]
   simpa [ie] using hk
  ·exact H.elim
 ·rename_i m e z hu hz
  obtain ⟨i,v,hi,hv,hvz⟩:=pX hz
  split at H
  ·rename_i n hn
   unfold Instr.build
   rw [fQ,ll hi hv,fQ,gG hu]
   simp only []
   rw [fQ,kY hn]
   obtain ⟨cs,hc,hk⟩:=vM (fun i=>some (i*n,n)) parts.toList (Fw n parts.toList) z _ (by
    generalize parts.toList=ps
    induction ps with
    | nil=>rfl
    | cons p ps ih=>obtain ⟨a,b⟩:=p; simp only [GS,Fw,ih]; rfl) H
   have hz':v.cells=z.toArray:=by rw [<- hvz]
   rw [hz',hc]
   simpa [ie] using hk
  ·exact H.elim
 ·exact H.elim
theorem qp (z:List Value):∀ n,(l9 z n).length=n*z.length
 | 0=>by simp [l9]
 | n+1=>by simp [l9,qp z n,vT,Nat.add_comm]
theorem Jp (z:List Value) (hz:0<z.length):∀ (n j:Nat),j<n*z.length->(l9 z n)[j]? = z[j % z.length]?
 | 0,j,h=>by omega
 | n+1,j,h=>by
  unfold l9
  by_cases hj:j<z.length
  ·rw [gk hj,jC hj]
  ·rw [gM (by omega),Jp z hz n (j-z.length) (by rw [vT] at h; omega)]
   congr 1
   exact (Nat.mod_eq_sub_mod (by omega)).symm
theorem uV (z:Array Value) (n:Nat) (hz:0<z.size):((Array.range (n*z.size)).map fun i=>z[i % z.size]!)=(l9 z.toList n).toArray:=by
 have hzl:z.toList.length=z.size:=by simp
 apply Array.ext_getElem?
 intro j
 by_cases hj:j<n*z.size
 ·have h1:=Jp z.toList (by omega) n j (by rw [hzl]; exact hj)
  rw [hzl] at h1
  have hm:j % z.size<z.size:=iP _ hz
  simp [h1,hj,hm]
 ·have:(l9 z.toList n).length<=j:=by rw [qp,hzl]; omega
  simp [this,hj]
theorem C0 {t:TypeId} {len:Nat} {parts:Array (Nat × Value)} {h:Heap} {K:VK}
  (H:vO P t len parts.toList h K):wpS P false (Instr.buildSlice t len parts) h K:=by
 unfold vO at H
 split at H
 ·rename_i e hu
  split at H
  ·rename_i n z hn hz
   obtain ⟨i,v,hi,hv,hvz⟩:=pX hz
   obtain ⟨⟨hle,hzl,hpos⟩,H⟩:=jt.1 H
   unfold Instr.buildSlice
   rw [fQ,gG hu]
   simp only []
   rw [fQ,kY hn]
   have h24:¬ (len*n > 2 ^ 24):=by have:(2:Nat) ^ 24=16777216:=rfl; omega
   rw [if_neg h24]
   have hvs:v.cells.size=n:=by have:v.cells.toList.length=n:=by rw [hvz]; exact hzl
                               simpa using this
   obtain ⟨cs,hc,hk⟩:=vM (fun i=>some (i*n,n)) parts.toList (Fw n parts.toList) (l9 z len) _ (by
    generalize parts.toList=ps
    induction ps with
    | nil=>rfl
    | cons p ps ih=>obtain ⟨a,b⟩:=p; simp only [GS,Fw,ih]; rfl) H
   have hcells:∀ zz:Array Value,(len*n=0->zz=#[])->(len*n≠0->zz=v.cells) ->
     ((Array.range (len*n)).map fun i=>zz[i % zz.size]!)=(l9 z len).toArray:=fun zz h0 h1=>by
    by_cases hl:len*n=0
    ·have hl0:len=0:=by
      rcases Nat.mul_eq_zero.1 hl with h | h
      ·exact h
      ·omega
     subst hl0
     simp [l9]
    ·rw [h1 hl]
     have:=uV v.cells len (by omega)
     rw [hvs] at this
     rw [hvs,this,hvz]
   by_cases hl:len*n=0
   ·rw [if_pos hl,fQ,ie,hcells #[] (fun _=>rfl) (fun h=>absurd hl h),hc]
    simp only []
    rw [fQ]
    unfold newRow
    rw [fQ]
    simpa [newObj,wpS,ie] using hk
   ·rw [if_neg hl,fQ,ll hi hv,fQ,ie,hcells v.cells (fun h=>absurd h hl) (fun _=>rfl),hc]
    simp only []
    rw [fQ]
    unfold newRow
    rw [fQ]
    simpa [newObj,wpS,ie] using hk
  ·exact H.elim
 ·exact H.elim
end
def rdO (h:Heap) (q:Option Addr) (n:Nat) (cs:List Value):Prop:=match q with
 | some a=>FD h a n cs
 | none=>cs=[]
def yu (c:Nat):Nat:=if c=0 then 140737488355328 else 70368744177664
theorem HS (c:Nat):70368744177664<=yu c:=by unfold yu; split <;> decide
def l4 (h:Heap) (e sz by_:Nat) (z:List Value) (base:Option Addr) (n c:Nat) (src:Option Addr) (m:Nat) (K:Option Addr->Nat->Nat->Heap->Prop):Prop :=
 ∃ new:List Value,rdO h src (m*sz) new /\
  if n+m<=c then (match base with
   | some a=>qH h (a.add (n*sz)) 0 new fun h'=>K base (n+m) c h'
   | none=>K none (n+m) c h)
  else (n+m)*by_<=yu c/\∃ old:List Value,rdO h base (n*sz) old /\
   ∀ cap,n+m<=cap->K (some ⟨h.size,0,none⟩) (n+m) cap (h.push (.cells (old++new++l9 z (cap-(n+m))).toArray e))
def Th (h:Heap) (e sz by_:Nat) (z:List Value) (base:Option Addr) (n c:Nat) (i:Int) (K:Option Addr->Nat->Nat->Heap->Prop):Prop :=
 (0<=i/\i<=70368744177664/\i.toNat*by_<=140737488355328) /\
  if n+i.toNat<=c then (match base with
   | some a=>qH h (a.add (n*sz)) 0 (l9 z i.toNat) fun h'=>K base (n+i.toNat) c h'
   | none=>K none (n+i.toNat) c h)
  else (n+i.toNat)*by_<=yu c/\∃ old:List Value,rdO h base (n*sz) old /\
   ∀ cap,n+i.toNat<=cap->K (some ⟨h.size,0,none⟩) (n+i.toNat) cap (h.push (.cells (old++l9 z i.toNat++l9 z (cap-(n+i.toNat))).toArray e))
def S5 (h:Heap) (sz:Nat) (base:Option Addr) (dl:Nat) (src:Option Addr) (sl:Nat) (K:Nat->Heap->Prop):Prop :=
 ∃ new:List Value,rdO h src (Nat.min sl dl*sz) new/\(match base with
  | some a=>qH h a 0 new fun h'=>K (Nat.min sl dl) h'
  | none=>K (Nat.min sl dl) h)
def Gm (P:Program) (t:TypeId):Option Nat:=match P.info? t with
 | some i=>some i.bytes
 | none=>none
def KU:Option TypeDesc->Bool
 | some (.int _)=>false
 | some _=>true
 | none=>false
def Sj (P:Program) (sT xT:TypeId) (s x:Value) (h:Heap) (K:VK):Prop :=
 match P.underlying sT,KU (P.underlying xT),s,x with
 | some (.slice e),true,.slice base n c,.slice src m _=>(match qn P e,Gm P e,rQ P e with
  | some sz,some by_,some (z0::z)=>(match Nat.ble by_ 1048576 && Nat.blt 0 by_ with
   | true=>l4 h e sz by_ (z0::z) base n c src m fun q n' c' h'=>K (.slice q n' c') h'
   | false=>False)
  | _,_,_=>False)
 | _,_,_,_=>False
def PN (P:Program) (sT xT:TypeId) (s:Value) (i:Int) (h:Heap) (K:VK):Prop :=
 match P.underlying sT,P.underlying xT,s with
 | some (.slice e),some (.int _),.slice base n c=>(match qn P e,Gm P e,rQ P e with
  | some sz,some by_,some (z0::z)=>(match Nat.ble by_ 1048576 && Nat.blt 0 by_ && Nat.beq sz (z0::z).length with
   | true=>Th h e sz by_ (z0::z) base n c i fun q n' c' h'=>K (.slice q n' c') h'
   | false=>False)
  | _,_,_=>False)
 | _,_,_=>False
def Sk (P:Program) (sT xT:TypeId) (s x:Value) (h:Heap) (K:VK):Prop:=match x with
 | .int _ i=>PN P sT xT s i h K
 | y=>Sj P sT xT s y h K
def Se (P:Program) (dT:TypeId) (d s:Value) (h:Heap) (K:VK):Prop :=
 match P.underlying dT,d,s with
 | some (.slice e),.slice base dl _,.slice src sl _=>(match qn P e with
  | some sz=>S5 h sz base dl src sl fun n h'=>K (.int .i64 (n:Int)) h'
  | none=>False)
 | _,_,_=>False
def we (q:Option Addr) (m l sz:Nat):Option Addr:=if m=l then q else q.map fun a=>a.add (l*sz)
def GN (x:Value) (y:Nat) (K:Nat->Prop):Prop:=match x with
 | .int _ i=>fW (0<=i/\i<=(y:Int)) (K i.toNat)
 | _=>False
theorem oY {x:Value} {y:Nat} {K K':Nat->Prop} (H:GN x y K) (hk:∀ n,K n->K' n):GN x y K':=by
 unfold GN at H ⊢
 split at H
 ·exact fH (jt.1 H).1 (hk _ (jt.1 H).2)
 ·exact H.elim
def FK (x:Option Value) (d y:Nat) (K:Nat->Prop):Prop:=match x with
 | none=>K d
 | some v=>GN v y K
theorem Du {d y:Nat} {K:Nat->Prop} (H:FK none d y K):K d:=H
theorem oU {v:Value} {d y:Nat} {K:Nat->Prop} (H:FK (some v) d y K):GN v y K:=H
def Ji (P:Program) (t:TypeId) (x:Value) (lo hi mx:Option Value) (K:Value->Prop):Prop :=
 match P.underlying t,x with
 | some (.slice e),.slice q len cap=>(match qn P e with
  | some sz=>(match mx.isSome && hi.isNone with
   | true=>False
   | false=>FK mx cap cap fun m=>FK hi len m fun h=>FK lo 0 h fun l=>K (.slice (we q m l sz) (h-l) (m-l)))
  | none=>False)
 | some .string, .string s=>(match mx with
  | none=>FK hi s.size s.size fun h=>FK lo 0 h fun l=>K (.string (s.extract l h))
  | some _=>False)
 | _,_=>False
def mkD (P:Program) (t:TypeId) (len cap:Value) (h:Heap) (K:VK):Prop :=
 match P.underlying t,len,cap with
 | some (.slice e),.int _ l,.int _ c=>(match qn P e,Gm P e,rQ P e with
  | some sz,some by_,some (z0::z)=>(match Nat.beq (z0::z).length sz with
   | true=>fW (0<=l/\l<=c/\c<=9223372036854775807/\(by_:Int)*c<=281474976710656)
     (K (.slice (some ⟨h.size,0,none⟩) l.toNat c.toNat) (h.push (.cells (l9 (z0::z) c.toNat).toArray e)))
   | false=>False)
  | _,_,_=>False)
 | _,_,_=>False
def JD (x y:Int):Int:=if y<x then y else x
def Qy (x y:Int):Int:=if y > x then y else x
def JC (k:IntKind) (x:Int):List Value->(Value->Prop)->Prop
 | [],K=>K (.int k x)
 | .int _ y::rest,K=>JC k (JD x y) rest K
 | _::_,_=>False
def JF (k:IntKind) (x:Int):List Value->(Value->Prop)->Prop
 | [],K=>K (.int k x)
 | .int _ y::rest,K=>JF k (Qy x y) rest K
 | _::_,_=>False
inductive RT where
 | cell (t:CT) | agg (ts:List CT) | big (n:Nat)
def SB (P:Program) (t:TypeId):Option RT:=match tA P t with
 | false=>(match cts P 1 t with
  | some [c]=>some (.cell c)
  | _=>none)
 | true=>(match cts P 8 t,qn P t with
  | some ts,_=>some (.agg ts)
  | none,some n=>some (.big n)
  | none,none=>none)
def Ra (P:Program):List TypeId->Option (List RT)
 | []=>some []
 | t::ts=>match SB P t,Ra P ts with
  | some r,some rs=>some (r::rs)
  | _,_=>none
def exR:RT->(Value->Prop)->Prop
 | .cell t,p=>exC t p
 | .agg ts,p=>R8 ts fun vs=>p (.agg vs.toArray)
 | .big n,p=>∃ cs:List Value,cs.length=n/\p (.agg cs.toArray)
def R7:List RT->(List Value->Prop)->Prop
 | [],p=>p []
 | r::rs,p=>exR r fun v=>R7 rs fun vs=>p (v::vs)
def Mv (P:Program) (ts:List TypeId) (v:Value) (K:Value->Prop):Prop:=match ts with
 | []=>K v
 | [t]=>(match SB P t with
  | some r=>exR r fun v'=>v=v'/\K v'
  | none=>False)
 | t::u::ts=>(match Ra P (t::u::ts) with
  | some rs=>R7 rs fun vs=>v = .tuple vs.toArray/\K (.tuple vs.toArray)
  | none=>False)
abbrev gl:=FuncId->Array Value->Heap->(VK)->(PK)->Prop
structure CallOK (P:Program) (C:gl):Prop where
 mono:∀ {g args h K K' Kp Kp'},C g args h K Kp->(∀ v h,K v h->K' v h)->(∀ c h,Kp c h->Kp' c h)->C g args h K' Kp'
 enter:∀ {g args h K Kp},C g args h K Kp->∃ fn,P.funcs[g]? = some fn/\(fn.name == "runtime.NumGoroutine")=false/\fn.body.isNone=false
 calls:∀ {g args h K Kp},C g args h K Kp->∀ {w:World},w.heap=h->Calls P g args w fun e w'=>keeps w w'/\match e with
  | .returned v=>K v w'.heap
  | .panicked c=>Kp c w'.heap
  | .outgrown=>False
def oy (C:gl) (Kp:PK) (f:Value) (args:List Value) (h:Heap) (K:VK):Prop :=
 match f with
 | .func (.func g) first captured=>C g (first.toList++args++captured.toList).toArray h K Kp
 | _=>False
def Rd:TypeDesc->Bool
 | .pointer _=>false
 | _=>true
def OF (P:Program) (t:TypeId) (name:String):Option FuncId:=match P.info? t with
 | some i=>(match i.methods.find? (·.name == name) with
  | some m=>(match m.path.toList,m.func,P.underlying t with
   | [],some (f,false),some d=>(match Rd d with
    | true=>some f
    | false=>none)
   | _,_,_=>none)
  | none=>none)
 | none=>none
def IG (P:Program) (C:gl) (recv:Value) (name:String) (args:List Value) (h:Heap) (K:VK) (Kp:PK):Prop:=match recv with
 | .iface t v=>(match OF P t name with
  | some f=>C f (v::args).toArray h K Kp
  | none=>False)
 | _=>False
def Ah (P:Program) (t:TypeId) (v:Value) (K:Value->Prop):Prop:=match P.underlying t with
 | some (.tuple ts)=>Mv P ts.toList v K
 | some _=>Mv P [t] v K
 | none=>False
def IE (P:Program) (t:TypeId) (x:Value) (K:Value->Prop):Prop:=match P.underlying t,x with
 | some (.slice _),.slice _ n _=>K (.int .i64 (n:Int))
 | some .string, .string s=>K (.int .i64 (s.size:Int))
 | some (.array n _),_=>K (.int .i64 (n:Int))
 | _,_=>False
def Ll (P:Program) (t:TypeId) (x:Value) (K:Value->Prop):Prop:=match P.underlying t,x with
 | some (.slice _),.slice _ _ c=>K (.int .i64 (c:Int))
 | _,_=>False
def xu (P:Program) (b:Builtin) (ts:List TypeId) (args:List Value) (h:Heap) (K:VK):Prop:=match b,ts,args with
 | .len,[t],[x]=>IE P t x fun v=>K v h
 | .cap,[t],[x]=>Ll P t x fun v=>K v h
 | .append,[t,u],[s,x]=>Sk P t u s x h K
 | .copy,[t,_],[d,s]=>Se P t d s h K
 | .min,_,.int k x::rest=>JC k x rest fun v=>K v h
 | .max,_,.int k x::rest=>JF k x rest fun v=>K v h
 | _,_,_=>False
def p5 (P:Program) (s:TypeId) (x:Value) (f:Nat) (K:Value->Prop):Prop:=match P.underlying s,x with
 | some (.struct fs),.pointer (some a)=>(match fs[f]? with
  | some fd=>(match qn P fd.type with
   | some (_+1)=>K (.pointer (some (a.add fd.offset)))
   | _=>False)
  | none=>False)
 | _,_=>False
def ou (P:Program) (t:TypeId) (x i:Value) (K:Value->Prop):Prop:=match P.underlying t,x,i with
 | some (.slice e),.slice b n _,.int _ j=>(match qn P e with
  | some sz=>fW (0<=j/\j<(n:Int)) (ptr b fun a=>K (.pointer (some (a.add (j.toNat*sz)))))
  | none=>False)
 | some (.array n e),.pointer (some a),.int _ j=>(match qn P e with
  | some sz=>fW (0<=j/\j<(n:Int)) (K (.pointer (some (a.add (j.toNat*sz)))))
  | none=>False)
 | _,_,_=>False
def Eg (P:Program) (t:TypeId) (cs:List Value) (off:Nat) (K:Value->Prop):Prop:=match P.underlying t with
 | none=>False
 | some _=>(match tA P t,qn P t with
  | true,some n=>K (.agg ((cs.drop off).take n).toArray)
  | false,some _=>(match cs[off]? with
   | some v=>K v
   | none=>False)
  | _,none=>False)
def BM (P:Program) (t:TypeId) (x:Value) (f:Nat) (K:Value->Prop):Prop:=match P.underlying t,x with
 | some (.struct fs),.agg cs=>(match fs[f]? with
  | some fd=>Eg P fd.type cs.toList fd.offset K
  | none=>False)
 | _,_=>False
def Gc (P:Program) (dst:TypeId) (src:TypeId) (x:Value) (K:Value->Prop):Prop:=match P.underlying src,P.underlying dst,x with
 | some _,some (.int k),.int _ n=>K (.int k (k.wrap n))
 | _,_,_=>False
def OD (x:Value) (K:Value->Prop):Prop:=match x with
 | .pointer p=>ptr p fun a=>K (.pointer (some a))
 | .func (.func g) first captured=>K (.func (.func g) first captured)
 | .iface t v=>K (.iface t v)
 | _=>False
def qN:Op->Bool
 | .move _ | .assign _ | .pick _ _ _ | .nilCheck _ | .binOp _ _ _ _ _ | .unOp _ _ _ | .convert _ _ _ | .fieldAddr _ _ _ | .field _ _ _ | .indexAddr _ _ _
 | .extract _ _ | .slice _ _ _ _ _ | .build _ _ | .makeFunc _ _ _ | .makeInterface _ _ | .load _ _=>true
 | .call c=>(match c.callee with
  | .builtin .len=>true
  | .builtin .cap=>true
  | .builtin .min=>true
  | .builtin .max=>true
  | _=>false)
 | _=>false
def BK:Op->Bool
 | .load _ _=>true
 | _=>false
def Rk:Op->Bool
 | .alloc _ | .box _ _ | .buildSlice _ _ _ | .makeSlice _ _ _=>true
 | _=>false
def IF:Operand->Bool
 | .const .nilIface=>true
 | _=>false
def isI:TypeDesc->Bool
 | .interface _=>true
 | _=>false
def Dv (P:Program) (op:BinOp) (t:TypeId) (x y:Value) (K:Value->Prop):Prop:=match x,y with
 | .iface _ _, .nilIface=>Cl (K7 P t isI) (eqD op false K)
 | .nilIface, .nilIface=>Cl (K7 P t isI) (eqD op true K)
 | _,_=>False
def Kx (P:Program) (t:TypeId):Option Value:=match P.info? t with
 | some i=>i.zero
 | none=>none
def I0 (P:Program) (t:TypeId) (x:Value) (K:Value->Prop):Prop:=match P.underlying t,Kx P t with
 | some (.interface _),_=>False
 | some _,some z=>(match x with
  | .iface t' v=>fI (Nat.beq t' t) (Ah P t v fun v'=>K (.tuple #[v',.bool true])) (K (.tuple #[z,.bool false]))
  | .nilIface=>K (.tuple #[z,.bool false])
  | _=>False)
 | _,_=>False
def opD (P:Program) (C:gl) (Kp:PK) (ρ:Operand->Value) (o:Op) (ty:TypeId) (h:Heap) (K:VK):Prop:=match o with
 | .move x=>K (ρ x) h
 | .assign x=>K (ρ x) h
 | .pick c x y=>(match ρ c with
  | .bool b=>fI b (K (ρ x) h) (K (ρ y) h)
  | _=>False)
 | .alloc t=>(match rQ P t with
  | some z=>K (.pointer (some ⟨h.size,0,none⟩)) (h.push (.cells z.toArray t))
  | none=>False)
 | .box t x=>K (.pointer (some ⟨h.size,0,none⟩)) (h.push (.cells (ρ x).cells t))
 | .build t parts=>z9 P t (parts.toList.map fun x=>(x.1,ρ x.2)) fun v=>K v h
 | .buildSlice t n parts=>vO P t n (parts.toList.map fun x=>(x.1,ρ x.2)) h K
 | .load t x=>(match ρ x with
  | .pointer (some a)=>Bh P t h a fun v=>K v h
  | _=>False)
 | .store t x v=>(match ρ x with
  | .pointer (some a)=>KC P t h a (ρ v) fun h'=>K undef h'
  | _=>False)
 | .nilCheck x=>OD (ρ x) fun v=>K v h
 | .binOp op t x y _=>(match IF y with
  | true=>Dv P op t (ρ x) (ρ y) fun v=>K v h
  | false=>Nu P op t (ρ x) (ρ y) fun v=>K v h)
 | .typeAssert x _ t ok=>(match ok with
  | true=>I0 P t (ρ x) fun v=>K v h
  | false=>False)
 | .unOp op _ x=>unD op (ρ x) fun v=>K v h
 | .convert src dst x=>Gc P dst src (ρ x) fun v=>K v h
 | .makeInterface t x=>(match P.underlying t with
  | some (.interface _)=>False
  | some _=>K (.iface t (ρ x)) h
  | none=>False)
 | .makeFunc fn first captured=>K (.func fn (first.toList.map ρ).toArray (captured.toList.map ρ).toArray) h
 | .makeSlice t l c=>mkD P t (ρ l) (ρ c) h K
 | .slice t x lo hi mx=>Ji P t (ρ x) (lo.map ρ) (hi.map ρ) (mx.map ρ) fun v=>K v h
 | .fieldAddr s x f=>p5 P s (ρ x) f fun v=>K v h
 | .field t x f=>BM P t (ρ x) f fun v=>K v h
 | .indexAddr t x i=>ou P t (ρ x) (ρ i) fun v=>K v h
 | .extract x i=>(match ρ x with
  | .tuple vs=>(match vs.toList[i]? with
   | some v=>K v h
   | none=>False)
  | _=>False)
 | .call c=>(match c.callee with
  | .value f=>oy C Kp (ρ f) (c.args.toList.map ρ) h fun v h'=>Ah P ty v fun v'=>K v' h'
  | .builtin b=>xu P b c.argTypes.toList (c.args.toList.map ρ) h K
  | .invoke x name=>IG P C (ρ x) name (c.args.toList.map ρ) h (fun v h'=>Ah P ty v fun v'=>K v' h') Kp)
 | _=>False
section
variable {P:Program} {qt:Bool}
theorem GW {α:Type} (a:α) (h:Heap) (K:α->Heap->Prop):wpS P qt (Sem.pure a) h K=K a h:=rfl
theorem J5:∀ (r:RT) (p:Value->Prop),exR r p->∃ v,p v
 | .cell _,_,h=>J6 _ _ h
 | .agg ts,p,h=>by obtain ⟨vs,hv⟩:=HD ts (fun vs=>p (.agg vs.toArray)) h; exact ⟨_,hv⟩
 | .big _,_,⟨cs,_,h⟩=>⟨.agg cs.toArray,h⟩
theorem Hz:∀ (rs:List RT) (p:List Value->Prop),R7 rs p->∃ vs,p vs
 | [],_,h=>⟨[],h⟩
 | r::rs,_,h=>by
  obtain ⟨v,hv⟩:=J5 r _ h
  obtain ⟨vs,h'⟩:=Hz rs _ hv
  exact ⟨_,h'⟩
theorem Eu {ts:List TypeId} {v:Value} {K:Value->Prop} (H:Mv P ts v K):K v:=by
 unfold Mv at H
 split at H
 ·exact H
 ·split at H
  ·obtain ⟨v',rfl,hk⟩:=J5 _ _ H
   exact hk
  ·exact H.elim
 ·split at H
  ·obtain ⟨vs,rfl,hk⟩:=Hz _ _ H
   exact hk
  ·exact H.elim
theorem uu {t:TypeId} {v:Value} {K:Value->Prop} (H:Ah P t v K):K v:=by
 unfold Ah at H
 split at H
 ·exact Eu H
 ·exact Eu H
 ·exact H.elim
theorem pI {q:Option Addr} {n sz:Nat} {cs:List Value} {h:Heap} {K:Array Value->Heap->Prop} {l c:Nat} (hr:rdO h q (n*sz) cs) (H:K cs.toArray h) :
  wpS P qt (Builtin.firstCells sz n (.slice q l c)) h K:=by
 cases q with
 | some a=>exact xS hr H
 | none =>
  have:cs=[]:=hr
  subst this
  exact H
theorem Hs (need:Nat):∀ (r c:Nat),c<=need+(need+768) / 4->Builtin.growBy need r c<=need+(need+768) / 4
 | 0,c,h=>h
 | r+1,c,h=>by
  unfold Builtin.growBy
  split
  ·exact h
  ·exact Hs need r _ (by omega)
theorem nextslicecap_le {need c:Nat} (h:¬ need<=c):Builtin.nextslicecap need c<=2*need+192:=by
 unfold Builtin.nextslicecap
 split
 ·omega
 ·split
  ·omega
  ·exact iL (Hs need 4 c (by omega)) (by omega)
theorem Bi (need old:Nat) (e:TypeId) (t:Nat):need<=(Question.appendCap need old e).cut t:=vr _ _
theorem z8 {t:TypeId} {n:Nat} (hn:Gm P t=some n):∃ i,P.info? t=some i/\i.bytes=n:=by
 unfold Gm at hn
 split at hn
 ·rename_i i hi
  exact ⟨i,hi,ig hn⟩
 ·cases hn
theorem JB {o:Option TypeDesc} (h:KU o=true):∃ d,o=some d/\∀ k,d ≠ .int k:=by
 unfold KU at h
 split at h
 ·cases h
 ·rename_i d hd
  exact ⟨d,rfl,fun k e=>hd k (by rw [e])⟩
 ·cases h
theorem Lt {sT xT ty:TypeId} {s x:Value} {h:Heap} {K:VK} (H:Sj P sT xT s x h K) :
  wpS P false (Builtin.append_ #[sT,xT] ty #[s,x]) h K:=by
 unfold Sj at H
 split at H
 case h_2=>exact H.elim
 rename_i e base n c src m cm hu hni
 split at H
 case h_2=>exact H.elim
 rename_i sz by_ z0 z hsz hby hz
 split at H
 case h_2=>exact H.elim
 rename_i hbb
 simp only [gH,Nat.ble_eq,Nat.blt_eq] at hbb
 obtain ⟨d,hd,hdi⟩:=JB hni
 obtain ⟨i,zv,hi,hzv,hzz⟩:=pX hz
 obtain ⟨i',hi',hb'⟩:=z8 hby
 have hii:i'=i:=ig (hi'.symm.trans hi)
 subst hii
 obtain ⟨new,hnew,H⟩:=H
 unfold Builtin.append_
 simp only [oP,nm,mb]
 rw [fQ,gG hu]
 simp only []
 rw [fQ,kY hsz,fQ,gG hd,fQ,ie]
 split
 ·exact absurd rfl (hdi _)
 simp only [j9,if_false,Builtin.lenOf,Bool.not_false,if_true]
 rw [fQ,ie]
 by_cases hroom:n+m<=c
 ·rw [if_pos hroom] at H
  simp only [if_pos hroom]
  rw [fQ]
  refine pI hnew ?_
  cases base with
  | none=>exact H
  | some a =>
   simp only []
   rw [fQ]
   exact uP (vs:=new) H
 ·rw [if_neg hroom] at H
  obtain ⟨hbytes,old,hold,H⟩:=H
  rw [if_neg hroom]
  rw [fQ,kT hi]
  have hmax:¬ ((((n+m:Nat):Int) > IntKind.i64.max)/\(False\/i'.bytes=0)):=by
   rintro ⟨_,h | h⟩
   ·exact h
   ·omega
  rw [if_neg hmax,fQ,kT hi]
  have hcap:¬ (Builtin.nextslicecap (n+m) c*i'.bytes > 2 ^ 48):=by
   have h4:(2:Nat) ^ 48=281474976710656:=rfl
   by_cases hc0:c=0
   ·have h1:Builtin.nextslicecap (n+m) c=n+m:=by
     unfold Builtin.nextslicecap
     rw [if_pos (by omega)]
    have h2:(n+m)*by_<=140737488355328:=by
     have:=hbytes
     unfold yu at this
     rw [if_pos hc0] at this
     exact this
    rw [h1]
    rw [hb']
    omega
   have hbytes:(n+m)*by_<=70368744177664:=by
    unfold yu at hbytes
    rw [if_neg hc0] at hbytes
    exact hbytes
   have h1:=nextslicecap_le hroom
   have h2:Builtin.nextslicecap (n+m) c*i'.bytes<=(2*(n+m)+192)*i'.bytes:=gD _ h1
   have h3:(2*(n+m)+192)*i'.bytes=2*((n+m)*i'.bytes)+192*i'.bytes:=by rw [gZ,iG]
   rw [hb'] at h2 h3 ⊢
   omega
  rw [if_neg hcap,fQ]
  unfold choose
  show false=false/\(if Question.forced (.appendCap (n+m) c e) then _ else _)
  refine ⟨rfl,?_⟩
  rw [if_neg (by simp [Question.forced])]
  intro t
  rw [GW,fQ,kT hi,fQ]
  have hroomS:∀ (x:Nat) (K':Unit->Heap->Prop),K' () h->wpS P false (askRoom x) h K':=fun x K' hk=>by
   unfold askRoom
   split
   ·exact hk
   ·exact hk
  refine hroomS _ _ ?_
  rw [fQ]
  refine pI hold ?_
  rw [fQ]
  refine pI hnew ?_
  rw [fQ,ll hi hzv]
  unfold newRow
  rw [fQ,fQ]
  have hH:=H _ (Bi (n+m) c e t)
  have hzs:zv.cells.size=(z0::z).length:=by rw [<- hzz]; simp
  have hrest:Builtin.zeroCells zv.cells ((Question.appendCap (n+m) c e).cut t-(n+m))=(l9 (z0::z) ((Question.appendCap (n+m) c e).cut t-(n+m))).toArray:=by
   unfold Builtin.zeroCells
   rw [uV _ _ (by rw [hzs]; simp),hzz]
  rw [hrest]
  simpa [newObj,wpS,ie] using hH
theorem Ks {sT xT ty:TypeId} {s:Value} {ik:IntKind} {iv:Int} {h:Heap} {K:VK} (H:PN P sT xT s iv h K) :
  wpS P false (Builtin.append_ #[sT,xT] ty #[s,.int ik iv]) h K:=by
 unfold PN at H
 split at H
 case h_2=>exact H.elim
 rename_i e kx base n c hu hd
 split at H
 case h_2=>exact H.elim
 rename_i sz by_ z0 z hsz hby hz
 split at H
 case h_2=>exact H.elim
 rename_i hbb
 simp only [gH,Nat.ble_eq,Nat.blt_eq,Nat.beq_eq] at hbb
 obtain ⟨i,zv,hi,hzv,hzz⟩:=pX hz
 obtain ⟨i',hi',hb'⟩:=z8 hby
 have hii:i'=i:=ig (hi'.symm.trans hi)
 subst hii
 obtain ⟨⟨hi0,hiL,hib⟩,H⟩:=H
 obtain ⟨m,rfl⟩:∃ m:Nat,iv=(m:Int):=⟨iv.toNat,by omega⟩
 rw [fD] at hib
 simp only [fD] at H
 have hwr:IntKind.i64.wrap (m:Int)=(m:Int):=by rw [IntKind.wrap_i64]; omega
 have hzs:zv.cells.size=(z0::z).length:=by rw [<- hzz]; simp
 have happ:∀ (K':Array Value->Heap->Prop),K' (l9 (z0::z) m).toArray h->wpS P false (if m*sz=0 then pure #[] else do pure (Builtin.zeroCells (<- zeroValue e).cells m)) h K':=fun K' hk=>by
  by_cases hm0:m*sz=0
  ·rw [if_pos hm0]
   have:m=0:=by
    rcases Nat.mul_eq_zero.1 hm0 with h1 | h1
    ·exact h1
    ·have:=hbb.2; rw [gp] at this; omega
   subst this
   exact hk
  ·rw [if_neg hm0,fQ,ll hi hzv]
   have hrest:Builtin.zeroCells zv.cells m=(l9 (z0::z) m).toArray:=by
    unfold Builtin.zeroCells
    rw [uV _ _ (by rw [hzs]; simp),hzz]
   rw [hrest]
   exact hk
 unfold Builtin.append_
 simp only [oP,nm,mb]
 rw [fQ,gG hu]
 simp only []
 rw [fQ,kY hsz,fQ,gG hd,fQ,ie]
 simp only [if_true,Bool.not_true,j9,if_false]
 rw [fQ]
 unfold asInt
 simp only [asIntOf]
 rw [fQ,ie,ie]
 rw [hwr,if_neg (by omega),fQ,kT hi]
 have hib2:¬ ((m:Int)*(i'.bytes:Int) > 2 ^ 48):=by
  rw [hb']
  have:(m:Int)*(by_:Int)=((m*by_:Nat):Int):=by simp
  rw [this]
  have h4:(2:Int) ^ 48=281474976710656:=rfl
  rw [h4]
  omega
 rw [if_neg hib2,fQ,ie,fD]
 by_cases hroom:n+m<=c
 ·rw [if_pos hroom] at H
  simp only [if_pos hroom]
  rw [fQ]
  refine happ _ ?_
  cases base with
  | none=>exact H
  | some a =>
   simp only []
   rw [fQ]
   exact uP (vs:=l9 (z0::z) m) H
 ·rw [if_neg hroom] at H
  obtain ⟨hbytes,old,hold,H⟩:=H
  rw [if_neg hroom]
  rw [fQ,kT hi]
  have hmax:¬ ((((n+m:Nat):Int) > IntKind.i64.max)/\(True\/i'.bytes=0)):=by
   rintro ⟨h,_⟩
   have h5:(n+m)*by_<=140737488355328:=by
    unfold yu at hbytes
    split at hbytes <;> omega
   have h6:(n+m)*1<=(n+m)*by_:=Nat.mul_le_mul_left _ (by omega)
   have h7:IntKind.i64.max=9223372036854775807:=rfl
   rw [h7] at h
   omega
  rw [if_neg hmax,fQ,kT hi]
  have hcap:¬ (Builtin.nextslicecap (n+m) c*i'.bytes > 2 ^ 48):=by
   have h4:(2:Nat) ^ 48=281474976710656:=rfl
   by_cases hc0:c=0
   ·have h1:Builtin.nextslicecap (n+m) c=n+m:=by
     unfold Builtin.nextslicecap
     rw [if_pos (by omega)]
    have h2:(n+m)*by_<=140737488355328:=by
     have:=hbytes
     unfold yu at this
     rw [if_pos hc0] at this
     exact this
    rw [h1]
    rw [hb']
    omega
   have hbytes:(n+m)*by_<=70368744177664:=by
    unfold yu at hbytes
    rw [if_neg hc0] at hbytes
    exact hbytes
   have h1:=nextslicecap_le hroom
   have h2:Builtin.nextslicecap (n+m) c*i'.bytes<=(2*(n+m)+192)*i'.bytes:=gD _ h1
   have h3:(2*(n+m)+192)*i'.bytes=2*((n+m)*i'.bytes)+192*i'.bytes:=by rw [gZ,iG]
   rw [hb'] at h2 h3 ⊢
   omega
  rw [if_neg hcap,fQ]
  unfold choose
  show false=false/\(if Question.forced (.appendCap (n+m) c e) then _ else _)
  refine ⟨rfl,?_⟩
  rw [if_neg (by simp [Question.forced])]
  intro t
  rw [GW,fQ,kT hi,fQ]
  have hroomS:∀ (x:Nat) (K':Unit->Heap->Prop),K' () h->wpS P false (askRoom x) h K':=fun x K' hk=>by
   unfold askRoom
   split
   ·exact hk
   ·exact hk
  refine hroomS _ _ ?_
  rw [fQ]
  refine pI hold ?_
  rw [fQ]
  refine happ _ ?_
  rw [fQ,ll hi hzv]
  unfold newRow
  rw [fQ,fQ]
  have hH:=H _ (Bi (n+m) c e t)
  have hrest:Builtin.zeroCells zv.cells ((Question.appendCap (n+m) c e).cut t-(n+m))=(l9 (z0::z) ((Question.appendCap (n+m) c e).cut t-(n+m))).toArray:=by
   unfold Builtin.zeroCells
   rw [uV _ _ (by rw [hzs]; simp),hzz]
  rw [hrest]
  simpa [newObj,wpS,ie] using hH
theorem Lu {sT xT ty:TypeId} {s x:Value} {h:Heap} {K:VK} (H:Sk P sT xT s x h K) :
  wpS P false (Builtin.append_ #[sT,xT] ty #[s,x]) h K:=by
 unfold Sk at H
 split at H
 ·exact Ks H
 ·exact Lt H
theorem Li {dT sT ty:TypeId} {d s:Value} {h:Heap} {K:VK} (H:Se P dT d s h K) :
  wpS P false (Builtin.copy_ #[dT,sT] ty #[d,s]) h K:=by
 unfold Se at H
 split at H
 case h_2=>exact H.elim
 rename_i e base dl dc src sl sc hu
 split at H
 case h_2=>exact H.elim
 rename_i sz hsz
 obtain ⟨new,hnew,H⟩:=H
 unfold Builtin.copy_
 simp only [oP,nm,mb]
 rw [fQ,gG hu]
 simp only []
 rw [fQ]
 simp only [Builtin.lenOf,ie]
 rw [fQ,kY hsz,fQ]
 refine pI hnew ?_
 cases base with
 | none=>exact H
 | some a =>
  simp only []
  rw [fQ]
  exact uP (vs:=new) H
theorem nC {x:Value} {y:Nat} {code:BoundsCode} {h:Heap} {K:Nat->Heap->Prop} (H:GN x y fun n=>K n h):wpS P qt (Instr.sliceBound x y code) h K:=by
 unfold GN at H
 split at H
 ·rename_i k i
  obtain ⟨hb,H⟩:=jt.1 H
  unfold Instr.sliceBound
  rw [fQ]
  simp only [asIntOf,ie,if_pos hb]
  exact H
 ·exact H.elim
theorem KF {t:TypeId} {x:Value} {lo hi mx:Option Value} {h:Heap} {K:VK} (H:Ji P t x lo hi mx fun v=>K v h) :
  wpS P qt (Instr.sliceAt t x lo hi mx) h K:=by
 unfold Ji at H
 split at H
 ·rename_i e q len cap hu
  split at H
  case h_2=>exact H.elim
  rename_i sz hsz
  split at H
  ·exact H.elim
  rename_i hbad
  unfold Instr.sliceAt
  rw [fQ,gG hu]
  simp only []
  unfold Instr.slice
  rw [fQ,gG hu]
  simp only []
  rw [fQ]
  unfold Instr.sliceBounds
  have tail:∀ (m k l:Nat),K (.slice (we q m l sz) (k-l) (m-l)) h ->
    wpS P qt (pure (l,k,m)) h fun a h'=>wpS P qt (do
     let size <- sizeOf e
     pure (Value.slice (if a.2.2=a.1 then q else q.map (·.add (a.1*size))) (a.2.1-a.1) (a.2.2-a.1))) h' K:=fun m k l H=>by
   rw [ie,fQ,kY hsz]
   exact H
  cases mx with
  | none =>
   replace H:=Du H
   rw [fQ,ie]
   cases hi with
   | none =>
    replace H:=Du H
    rw [fQ,ie]
    cases lo with
    | none=>exact tail cap len 0 H
    | some v=>exact (fQ _ _ _ _).mpr (nC (oY (oU H) fun l H=>tail cap len l H))
   | some u =>
    rw [fQ]
    refine nC (oY (oU H) fun k H=>?_)
    cases lo with
    | none=>exact tail cap k 0 H
    | some v=>exact (fQ _ _ _ _).mpr (nC (oY (oU H) fun l H=>tail cap k l H))
  | some u3 =>
   cases hi with
   | none=>cases hbad
   | some u =>
    rw [fQ]
    refine nC (oY (oU H) fun m H=>?_)
    rw [fQ]
    refine nC (oY (oU H) fun k H=>?_)
    cases lo with
    | none=>exact tail m k 0 H
    | some v=>exact (fQ _ _ _ _).mpr (nC (oY (oU H) fun l H=>tail m k l H))
 ·rename_i s hu
  unfold Instr.sliceAt
  rw [fQ,gG hu]
  simp only []
  unfold Instr.slice
  rw [fQ,gG hu]
  simp only []
  cases mx with
  | some _=>exact H.elim
  | none =>
  simp only [Option.isSome_none,j9,if_false]
  rw [fQ]
  unfold Instr.sliceBounds
  rw [fQ,ie]
  replace H:FK hi s.size s.size fun k=>FK lo 0 k fun l=>K (.string (s.extract l k)) h:=H
  cases hi with
  | none =>
   replace H:=Du H
   rw [fQ,ie]
   cases lo with
   | none=>exact H
   | some v=>exact (fQ _ _ _ _).mpr (nC (oY (oU H) fun l H=>H))
  | some u =>
   rw [fQ]
   refine nC (oY (oU H) fun k H=>?_)
   cases lo with
   | none=>exact H
   | some v=>exact (fQ _ _ _ _).mpr (nC (oY (oU H) fun l H=>H))
 ·exact H.elim
theorem Nc {t:TypeId} {len cap:Value} {h:Heap} {K:VK} (H:mkD P t len cap h K):wpS P false (Instr.makeSlice t len cap) h K:=by
 unfold mkD at H
 split at H
 case h_2=>exact H.elim
 rename_i e kl l kc c hu
 split at H
 case h_2=>exact H.elim
 rename_i sz by_ z0 z hsz hby hz
 split at H
 case h_2=>exact H.elim
 rename_i hbl
 have hzl:=iS hbl
 obtain ⟨⟨h0,hlc,hc63,hb48⟩,H⟩:=jt.1 H
 obtain ⟨i,zv,hi,hzv,hzz⟩:=pX hz
 obtain ⟨i',hi',hb'⟩:=z8 hby
 have hii:i'=i:=ig (hi'.symm.trans hi)
 subst hii
 have hwl:IntKind.i64.wrap l=l:=IntWalk.i64_in _ (by omega)
 have hwc:IntKind.i64.wrap c=c:=IntWalk.i64_in _ (by omega)
 unfold Instr.makeSlice
 rw [fQ,gG hu]
 simp only []
 rw [fQ]
 simp only [asInt,asIntOf]
 rw [fQ,ie,ie,fQ,fQ,ie,ie,fQ,kT hi]
 simp only [hwl,hwc]
 have h48:(2:Int) ^ 48=281474976710656:=rfl
 have hbad:((decide (c<0) || decide ((i'.bytes:Int)*c > 2 ^ 48)) || decide (l<0) || decide (l > c))=false:=by
  rw [hb']
  simp only [Bool.or_eq_false_iff,decide_eq_false_iff_not]
  omega
 rw [hbad]
 simp only [j9,if_false]
 rw [fQ]
 have hroomS:∀ (x:Nat) (K':Unit->Heap->Prop),K' () h->wpS P false (askRoom x) h K':=fun x K' hk=>by
  unfold askRoom
  split
  ·exact hk
  ·exact hk
 refine hroomS _ _ ?_
 rw [fQ,kY hsz]
 have hzs:zv.cells.size=sz:=by rw [<- hzl,<- hzz]; simp
 have hpos:0<sz:=by rw [<- hzl]; simp
 have hcells:∀ zz:Array Value,(c.toNat*sz≠0->zz=zv.cells) ->
   ((Array.range (c.toNat*sz)).map fun i=>zz[i % zz.size]!)=(l9 (z0::z) c.toNat).toArray:=fun zz h1=>by
  by_cases hl:c.toNat*sz=0
  ·have hl0:c.toNat=0:=by
    rcases Nat.mul_eq_zero.1 hl with h | h
    ·exact h
    ·omega
   simp [l9,hl0]
  ·rw [h1 hl]
   have:=uV zv.cells c.toNat (by omega)
   rw [hzs] at this
   rw [hzs,this,hzz]
 by_cases hn:c.toNat*sz=0
 ·rw [if_pos hn,fQ,ie,hcells #[] (fun h=>absurd hn h)]
  rw [fQ]
  unfold newRow
  rw [fQ]
  simpa [newObj,wpS,ie] using H
 ·rw [if_neg hn,fQ,ll hi hzv,fQ,ie,hcells zv.cells (fun _=>rfl)]
  rw [fQ]
  unfold newRow
  rw [fQ]
  simpa [newObj,wpS,ie] using H
end
section
variable {P:Program} {qt:Bool} {C:gl} {Kp:PK}
def uW (qt:Bool) (C:gl) (Kp:PK) (K:VK):Next->Heap->Prop
 | .value v,h=>K v h
 | .skip,h=>qt=false/\K undef h
 | .enter f args,h=>qt=false/\C f args h K Kp
 | _,_=>False
theorem nL {s:Sem Value} {h:Heap} {K:VK} (H:wpS P qt s h K):wpS P qt (do let v <- s; pure (Next.value v)) h (uW qt C Kp K):=by
 rw [fQ]
 exact y2 s H fun v h' hk=>hk
theorem Sn {s:Sem Unit} {h:Heap} {K:VK} (hq:qt=false) (H:wpS P qt s h fun _ h'=>K undef h'):wpS P qt (do s; pure Next.skip) h (uW qt C Kp K):=by
 rw [fQ]
 exact y2 s H fun v h' hk=>⟨hq,hk⟩
theorem ug (a:Addr) (h:Heap) (K:Addr->Heap->Prop):wpS P qt (Instr.sureAddr (.pointer (some a))) h K=K a h:=rfl
theorem D8 (k:IntKind) (j:Int) (h:Heap) (K:IntKind × Int->Heap->Prop):wpS P qt (asIntOf (.int k j)) h K=K (k,j) h:=rfl
theorem om (h:Heap) (K:Program->Heap->Prop):wpS P qt program h K=K P h:=rfl
theorem K5 {t ty:TypeId} {x:Value} {h:Heap} {K:VK} (H:IE P t x fun v=>K v h):wpS P qt (Builtin.len_ #[t] ty #[x]) h K:=by
 unfold IE at H
 unfold Builtin.len_
 simp only [oP,nm]
 split at H
 ·rename_i e q n c hu
  rw [fQ,gG hu]
  exact H
 ·rename_i s hu
  rw [fQ,gG hu]
  exact H
 ·rename_i n e hu
  rw [fQ,gG hu]
  exact H
 ·exact H.elim
theorem Lk {t ty:TypeId} {x:Value} {h:Heap} {K:VK} (H:Ll P t x fun v=>K v h):wpS P qt (Builtin.cap_ #[t] ty #[x]) h K:=by
 unfold Ll at H
 unfold Builtin.cap_
 simp only [oP,nm]
 split at H
 ·rename_i e q n c hu
  rw [fQ,gG hu]
  exact H
 ·exact H.elim
theorem Ej {k:IntKind} {h:Heap} {K:VK}:∀ {l:List Value} {x:Int},(JC k x l fun v=>K v h)->wpS P qt (l.foldlM Builtin.min2 (.int k x)) h K
 | [],x,H=>H
 | .int k' y::rest,x,H=>by
  simp only [List.foldlM_cons]
  rw [fQ]
  exact Ej (l:=rest) H
 | .bool _::_,_,H | .float _ _::_,_,H | .complex _ _ _::_,_,H | .string _::_,_,H | .pointer _::_,_,H | .slice _ _ _::_,_,H | .map _::_,_,H | .chan _::_,_,H
 | .func _ _ _::_,_,H | .nilFunc::_,_,H | .iface _ _::_,_,H | .nilIface::_,_,H | .agg _::_,_,H | .tuple _::_,_,H=>H.elim
theorem Ek {k:IntKind} {h:Heap} {K:VK}:∀ {l:List Value} {x:Int},(JF k x l fun v=>K v h)->wpS P qt (l.foldlM Builtin.max2 (.int k x)) h K
 | [],x,H=>H
 | .int k' y::rest,x,H=>by
  simp only [List.foldlM_cons]
  rw [fQ]
  exact Ek (l:=rest) H
 | .bool _::_,_,H | .float _ _::_,_,H | .complex _ _ _::_,_,H | .string _::_,_,H | .pointer _::_,_,H | .slice _ _ _::_,_,H | .map _::_,_,H | .chan _::_,_,H
 | .func _ _ _::_,_,H | .nilFunc::_,_,H | .iface _ _::_,_,H | .nilIface::_,_,H | .agg _::_,_,H | .tuple _::_,_,H=>H.elim
theorem Gn {b:Builtin} {ts:Array TypeId} {ty:TypeId} {consts:Array Bool} {args:Array Value} {h:Heap} {K:VK}
  (hq:qt=true->qN (.call { callee := .builtin b,args:=#[],argTypes:=#[] })=true) (H:xu P b ts.toList args.toList h K):wpS P qt (builtin b ts ty consts args) h (uW qt C Kp K):=by
 obtain ⟨ts⟩:=ts
 obtain ⟨args⟩:=args
 unfold xu at H
 split at H
 ·rename_i t x ht hx
  simp only at ht hx
  subst ht hx
  exact nL (K5 H)
 ·rename_i t x ht hx
  simp only at ht hx
  subst ht hx
  exact nL (Lk H)
 ·rename_i t u s x ht hx
  simp only at ht hx
  subst ht hx
  cases qt
  ·exact nL (Lu H)
  ·cases hq rfl
 ·rename_i t u d s ht hx
  simp only at ht hx
  subst ht hx
  cases qt
  ·exact nL (Li H)
  ·cases hq rfl
 ·rename_i k x rest hx
  simp only at hx
  subst hx
  exact nL (Ej H)
 ·rename_i k x rest hx
  simp only at hx
  subst hx
  exact nL (Ek H)
 ·exact H.elim
theorem Kk (hC:CallOK P C) (hq:qt=false) {t:TypeId} {f:Value} {args:Array Value} {h:Heap} {K:VK} (H:oy C Kp f args.toList h fun v h'=>Ah P t v fun v'=>K v' h') :
  wpS P qt (do let d <- Deferred.ofValue f args; invoke d.target d.args) h (uW qt C Kp K):=by
 unfold oy at H
 split at H
 ·rename_i g first captured
  have H:=hC.mono H (fun v h' hk=>uu hk) (fun _ _ hk=>hk)
  obtain ⟨fn',h1,h2,h3⟩:=hC.enter H
  rw [fQ]
  show wpS P qt (invoke (.fn (.func g) captured) (first++args)) h _
  unfold invoke callFunc
  rw [fQ,om]
  simp only [h1,h2,h3,j9,if_false]
  rw [ie]
  have hargs:(first.toList++args.toList++captured.toList).toArray=first++args++captured:=by
   apply Array.toList_inj.1; simp
  rw [hargs] at H
  exact ⟨hq,H⟩
 ·exact H.elim
theorem KY {t:TypeId} {name:String} {f:FuncId} (H:OF P t name=some f) :
  ∃ i m d,P.info? t=some i/\i.methods.find? (·.name == name)=some m/\m.path.toList=[]/\m.func=some (f,false)/\P.underlying t=some d/\Rd d=true:=by
 unfold OF at H
 split at H
 ·rename_i i hi
  split at H
  ·rename_i m hm
   split at H
   ·rename_i f' d hp hf hu
    split at H
    ·rename_i hd
     injection H with H
     subst H
     exact ⟨i,m,d,hi,hm,hp,hf,hu,hd⟩
    ·cases H
   ·cases H
  ·cases H
 ·cases H
theorem GJ (hC:CallOK P C) (hq:qt=false) {t:TypeId} {r:Value} {name:String} {args:Array Value} {h:Heap} {K:VK} (H:IG P C r name args.toList h (fun v h'=>Ah P t v fun v'=>K v' h') Kp) :
  wpS P qt (invoke (.fn (.method name) #[]) (#[r]++args)) h (uW qt C Kp K):=by
 unfold IG at H
 split at H
 ·rename_i t' v
  split at H
  ·rename_i f hm
   have H:=hC.mono H (fun v h' hk=>uu hk) (fun _ _ hk=>hk)
   obtain ⟨fn',h1,h2,h3⟩:=hC.enter H
   obtain ⟨i,m,d,hi,hf,hp,hmf,hu,hd⟩:=KY hm
   have hpe:m.path=#[]:=Array.toList_inj.1 hp
   have e0:(#[Value.iface t' v]++args)[0]? = some (Value.iface t' v):=by simp [Array.getElem?_append]
   have e1:(#[Value.iface t' v]++args).extract 1 (#[Value.iface t' v]++args).size=args:=by
    apply Array.toList_inj.1
    simp
   unfold invoke
   simp only [e0,e1]
   unfold callMethod
   simp only []
   rw [fQ,om,fQ]
   obtain ⟨n,hn⟩:∃ n,P.types.size+Made.depth=n+1:=⟨P.types.size+Made.depth-1,(Nat.sub_add_cancel (iL (by decide:1<=Made.depth) (Nat.le_add_left _ _))).symm⟩
   rw [hn]
   unfold method
   rw [fQ,kT hi]
   simp only [hf,hpe,hmf]
   rw [fQ]
   show wpS P qt (pure (t',Place.val v)) h _
   rw [ie]
   simp only []
   rw [fQ]
   unfold receiverAt
   rw [fQ,gG hu]
   have key:wpS P qt (callFunc f (#[v]++args)) h (uW qt C Kp K):=by
    unfold callFunc
    rw [fQ,om]
    simp only [h1,h2,h3,j9,if_false]
    rw [ie]
    have hargs:(v::args.toList).toArray=#[v]++args:=by
     apply Array.toList_inj.1; simp
    rw [hargs] at H
    exact ⟨hq,H⟩
   cases d <;> first | (cases hd; done) | exact key
  ·exact H.elim
 ·exact H.elim
theorem DC {s:TypeId} {x:Value} {f:Nat} {h:Heap} {K:VK} (H:p5 P s x f fun v=>K v h):wpS P qt (Instr.fieldAt s x f) h K:=by
 unfold p5 at H
 split at H
 ·rename_i fs a hu
  split at H
  ·rename_i fd hfd
   split at H
   ·rename_i n hn
    unfold Instr.fieldAt
    rw [fQ,gG hu]
    simp only [hfd]
    rw [fQ,ug,fQ]
    unfold fieldPlace
    rw [fQ,kY hn,if_neg (by omega)]
    exact H
   ·exact H.elim
  ·exact H.elim
 ·exact H.elim
theorem Cx {q:Option Addr} {K:Addr->Prop} (H:ptr q K):∃ a,q=some a/\K a:=by
 cases q with
 | none=>exact H.elim
 | some a=>exact ⟨a,rfl,H⟩
theorem Dx {t:TypeId} {x i:Value} {h:Heap} {K:VK} (H:ou P t x i fun v=>K v h):wpS P qt (Instr.indexAt t x i) h K:=by
 unfold ou at H
 split at H
 ·rename_i e b n c k j hu
  split at H
  ·rename_i sz hsz
   obtain ⟨hj,H⟩:=jt.1 H
   obtain ⟨a,rfl,H⟩:=Cx H
   unfold Instr.indexAt
   rw [fQ,D8]
   simp only []
   rw [fQ,gG hu]
   simp only []
   rw [fQ,ie,fQ,gG hu]
   simp only [if_pos hj]
   rw [fQ,kY hsz]
   exact H
  ·exact H.elim
 ·rename_i n e a k j hu
  split at H
  ·rename_i sz hsz
   obtain ⟨hj,H⟩:=jt.1 H
   unfold Instr.indexAt
   rw [fQ,D8]
   simp only []
   rw [fQ,gG hu]
   simp only []
   rw [fQ,ug,fQ,ie,fQ,gG hu]
   simp only [if_pos hj]
   rw [fQ,kY hsz]
   exact H
  ·exact H.elim
 ·exact H.elim
theorem Jy {t:TypeId} {cs:Array Value} {off:Nat} {h:Heap} {K:VK} (H:Eg P t cs.toList off fun v=>K v h):wpS P qt (part t cs off) h K:=by
 unfold Eg at H
 split at H
 ·exact H.elim
 rename_i d hd
 unfold part
 rw [fQ,zy t hd]
 split at H
 ·rename_i n ha hn
  rw [ha]
  simp only [if_true]
  rw [fQ,kY hn]
  have:cs.extract off (off+n)=((cs.toList.drop off).take n).toArray:=by
   apply Array.toList_inj.1
   simp [Array.toList_extract,List.extract_eq_take_drop]
  rw [this]
  exact H
 ·rename_i n ha hn
  rw [ha]
  simp only [j9,if_false]
  split at H
  ·rename_i v hv
   have:cs[off]? = some v:=by simpa using hv
   simp only [this]
   exact H
  ·exact H.elim
 ·exact H.elim
theorem IM {t:TypeId} {x:Value} {f:Nat} {h:Heap} {K:VK} (H:BM P t x f fun v=>K v h):wpS P qt (Instr.field t x f) h K:=by
 unfold BM at H
 split at H
 ·rename_i fs cs hu
  split at H
  ·rename_i fd hfd
   unfold Instr.field
   rw [fQ,gG hu]
   simp only [hfd]
   rw [fQ]
   exact Jy H
  ·exact H.elim
 ·exact H.elim
theorem Kg {src dst:TypeId} {x:Value} {h:Heap} {K:VK} (H:Gc P dst src x fun v=>K v h):wpS P qt (convert src dst x) h K:=by
 unfold Gc at H
 split at H
 ·rename_i d k k' n hs hd
  unfold convert
  rw [fQ,gG hs,fQ,gG hd]
  cases d <;> exact H
 ·exact H.elim
theorem JQ {d:TypeDesc} (h:isI d=true):∃ ms,d = .interface ms:=by cases d <;> first | exact ⟨_,rfl⟩ | cases h
theorem JO {x:Operand} (h:IF x=true):x = .const .nilIface:=by
 unfold IF at h
 split at h
 ·rfl
 ·cases h
theorem Ix {op:BinOp} {t:TypeId} {x y:Value} {X Y:Operand} {h:Heap} {K:VK} (hY:IF Y=true) (H:Dv P op t x y fun v=>K v h) :
  wpS P qt (do eqGuard op t X Y x y; binOp op t x y) h K:=by
 have hm:Op.maxDepth=9999+1:=rfl
 obtain rfl:=JO hY
 unfold Dv at H
 split at H
 ·rename_i t' v'
  obtain ⟨ht,H⟩:=rV.1 H
  obtain ⟨d,hu,hd⟩:=wZ ht
  obtain ⟨ms,rfl⟩:=JQ hd
  refine w8 X _ (fun h=>?_) ⟨fun e=>by subst e; rfl,fun e=>by subst e; rfl⟩ (fun K'=>by unfold Op.equal; rw [hm]; unfold Op.equalIn; rw [fQ,gG hu]; rfl) H
  rcases h with rfl | rfl <;> rfl
 ·obtain ⟨ht,H⟩:=rV.1 H
  obtain ⟨d,hu,hd⟩:=wZ ht
  obtain ⟨ms,rfl⟩:=JQ hd
  refine w8 X _ (fun h=>?_) ⟨fun e=>by subst e; rfl,fun e=>by subst e; rfl⟩ (fun K'=>by unfold Op.equal; rw [hm]; unfold Op.equalIn; rw [fQ,gG hu]; rfl) H
  unfold eqGuard
  rcases h with rfl | rfl
  ·simp [ie]
  ·simp [ie]
 ·exact H.elim
theorem I2 {t:TypeId} {z:Value} (hz:Kx P t=some z):∃ i,P.info? t=some i/\i.zero=some z:=by
 unfold Kx at hz
 split at hz
 ·rename_i i hi
  exact ⟨i,hi,hz⟩
 ·cases hz
theorem GO {xt t:TypeId} {x:Value} {h:Heap} {K:VK} (H:I0 P t x fun v=>K v h):wpS P qt (Instr.typeAssert x xt t true) h K:=by
 unfold I0 at H
 split at H
 ·exact H.elim
 ·rename_i d z hni hu hz
  obtain ⟨i,hi,hzi⟩:=I2 hz
  unfold Instr.typeAssert
  rw [fQ,gG hu]
  split at H
  ·rename_i t' v
   by_cases hb:Nat.beq t' t=true
   ·have ht:t'=t:=iS hb
    rw [hb] at H
    have H:=uu H
    cases d <;> first | exact absurd rfl (hni _) | (simp only [ht,if_true]; exact H)
   ·have hb':Nat.beq t' t=false:=by cases h:Nat.beq t' t <;> simp_all
    have ht:¬ t'=t:=fun e=>hb (by rw [e]; exact Nat.beq_refl t)
    rw [hb'] at H
    cases d <;> first | exact absurd rfl (hni _) | (simp only [ht,if_false,if_true]; rw [fQ,ll hi hzi]; exact H)
  ·cases d <;> first | exact absurd rfl (hni _) | (simp only [if_true]; rw [fQ,ll hi hzi]; exact H)
  ·exact H.elim
 ·exact H.elim
theorem Ho (parts:Array (Nat × Operand)) (ρ:Operand->Value):(parts.map fun (i,x)=>(i,ρ x)).toList=parts.toList.map fun x=>(x.1,ρ x.2):=by
 simp
theorem toArray_map (l:Array Operand) (ρ:Operand->Value):(l.toList.map ρ).toArray=l.map ρ:=by
 apply Array.toList_inj.1; simp
theorem Hh (hC:CallOK P C) {ρ:Operand->Value} {o:Oper} {h:Heap} {K:VK} (hq:qt=true->qN o.op=true) (H:opD P C Kp ρ o.op o.type h K) :
  wpS P qt (execOp ρ o) h (uW qt C Kp K):=by
 unfold opD at H
 unfold execOp
 split at H
 ·rename_i x ho
  simp only [ho]
  exact H
 ·rename_i x ho
  simp only [ho]
  exact H
 ·rename_i c x y ho
  simp only [ho]
  split at H
  ·rename_i b hb
   rw [hb,fQ]
   cases b <;> exact H
  ·exact H.elim
 ·rename_i t ho
  simp only [ho]
  split at H
  ·rename_i z hz
   obtain ⟨i,v,hi,hv,hvz⟩:=pX hz
   cases qt
   case true=>rw [ho] at hq; cases hq rfl
   refine nL ?_
   unfold Instr.alloc
   rw [fQ,ll hi hv]
   simp only []
   unfold newVar newRow
   rw [fQ,fQ]
   have:v.cells=z.toArray:=by rw [<- hvz]
   rw [this]
   exact ⟨rfl,H⟩
  ·exact H.elim
 ·rename_i t x ho
  simp only [ho]
  cases qt
  case true=>rw [ho] at hq; cases hq rfl
  exact nL ⟨rfl,H⟩
 ·rename_i t parts ho
  simp only [ho]
  refine nL (IY ?_)
  rw [Ho]
  exact H
 ·rename_i t n parts ho
  simp only [ho]
  cases qt
  case true=>rw [ho] at hq; cases hq rfl
  refine nL (C0 ?_)
  rw [Ho]
  exact H
 ·rename_i t x ho
  simp only [ho]
  split at H
  ·rename_i a ha
   refine nL ?_
   unfold Instr.loadAt
   rw [ha,fQ,ug]
   exact Em H
  ·exact H.elim
 ·rename_i t x v ho
  simp only [ho]
  split at H
  ·rename_i a ha
   cases qt
   case true=>rw [ho] at hq; cases hq rfl
   refine Sn rfl ?_
   unfold Instr.storeAt
   rw [ha,fQ,ug]
   exact Ii H
  ·exact H.elim
 ·rename_i x ho
  simp only [ho]
  unfold OD at H
  split at H
  ·rename_i p hp
   obtain ⟨a,rfl,H⟩:=Cx H
   rw [hp]
   exact H
  ·rename_i g first captured hp
   rw [hp]
   exact H
  ·rename_i t v hp
   rw [hp]
   exact H
  ·exact H.elim
 ·rename_i op t x y yt ho
  simp only [ho]
  split at H
  ·rename_i hn
   exact nL (Ix hn H)
  ·exact nL (Lp x y H)
 ·rename_i x xt t ok ho
  simp only [ho]
  split at H
  ·exact nL (GO H)
  ·exact H.elim
 ·rename_i op t x ho
  simp only [ho]
  exact nL (ME H)
 ·rename_i src dst x ho
  simp only [ho]
  exact nL (Kg H)
 ·rename_i t x ho
  simp only [ho]
  refine nL ?_
  unfold Instr.makeInterface
  split at H
  ·exact H.elim
  ·rename_i d hn hu
   rw [fQ,gG hu]
   cases d <;> first | exact H | exact absurd rfl (hn _)
  ·exact H.elim
 ·rename_i fn first captured ho
  simp only [ho]
  refine nL ?_
  unfold Instr.makeFunc
  rw [toArray_map,toArray_map] at H
  exact H
 ·rename_i t l c ho
  simp only [ho]
  cases qt
  case true=>rw [ho] at hq; cases hq rfl
  exact nL (Nc H)
 ·rename_i t x lo hi mx ho
  simp only [ho]
  exact nL (KF H)
 ·rename_i s x f ho
  simp only [ho]
  exact nL (DC H)
 ·rename_i t x f ho
  simp only [ho]
  exact nL (IM H)
 ·rename_i t x i ho
  simp only [ho]
  exact nL (Dx H)
 ·rename_i x i ho
  simp only [ho]
  split at H
  ·rename_i vs hv
   split at H
   ·rename_i v hi
    refine nL ?_
    unfold Instr.extract
    rw [hv]
    have:vs[i]? = some v:=by simpa using hi
    simp only [this]
    exact H
   ·exact H.elim
  ·exact H.elim
 ·rename_i c ho
  simp only [ho]
  unfold resolve
  split at H
  ·rename_i f hf
   simp only [hf]
   have hm:(c.args.toList.map ρ)=(c.args.map ρ).toList:=by simp
   rw [hm] at H
   cases qt
   case true =>
    have:=hq rfl
    rw [ho] at this
    simp only [qN,hf] at this
    cases this
   exact Kk hC rfl H
  ·rename_i b hb
   simp only [hb]
   have hm:(c.args.toList.map ρ)=(c.args.map ρ).toList:=by simp
   rw [hm] at H
   rw [fQ,ie]
   refine Gn (fun e=>?_) H
   have:=hq e
   rw [ho] at this
   simp only [qN,hb] at this
   exact this
  ·rename_i x name hf
   simp only [hf]
   have hm:(c.args.toList.map ρ)=(c.args.map ρ).toList:=by simp
   rw [hm] at H
   cases qt
   case true =>
    have:=hq rfl
    rw [ho] at this
    simp only [qN,hf] at this
    cases this
   rw [fQ,ie]
   exact GJ hC rfl H
 ·exact H.elim
theorem RI (hC:CallOK P C) {o:Oper} {a:Act} {K:VK} {next:Act->World->Prop} {Q:Exit->Act->World->Prop} {w:World}
  (H:opD P C Kp a.eval o.op o.type w.heap K) (hK:∀ v w',keeps w w'->K v w'.heap->next (a.put o.dst v) w') (hp:∀ c w',keeps w w'->Kp c w'.heap->Q (.panic c) a w') :
  o.wp P a w next Q:=by
 obtain ⟨n,w',hr,hk,_,hn⟩:=Ci _ (Hh (qt:=false) hC (o:=o) (fun e=>by cases e) H) rfl
 unfold Oper.wp
 rw [hr]
 cases n <;> simp only [uW] at hn <;> simp only [Oper.upon]
 ·exact hK _ _ hk hn
 ·exact hK _ _ hk hn.2
 ·refine (hC.calls hn.2 rfl).mono fun e w'' h=>?_
  cases e with
  | returned v=>exact hK _ _ (hk.trans h.1) h.2
  | panicked c=>exact hp _ _ (hk.trans h.1) h.2
  | outgrown=>exact h.2.elim
end
def gi (h h':Heap):Prop:=h.size<=h'.size/\∀ b,b<h.size->h'[b]? = h[b]?
theorem gi.refl (h:Heap):gi h h:=⟨gg _,fun _ _=>rfl⟩
theorem gi.trans {a b c:Heap} (h:gi a b) (k:gi b c):gi a c :=
 ⟨iL h.1 k.1,fun i hi=>(k.2 i (iK hi h.1)).trans (h.2 i hi)⟩
theorem gi.push (h:Heap) (o:Obj):gi h (h.push o):=⟨by simp,fun b hb=>by rw [yI hb]; simp [hb]⟩
theorem gi.cell {h h':Heap} (e:gi h h') {a:Addr} {v:Value} (hc:ic h a=some v):ic h' a=some v:=by
 have hlt:a.block<h.size:=by
  rcases gI a.block h.size with hlt | hge
  ·exact hlt
  ·simp [ic,kL hge] at hc
 unfold ic at hc ⊢
 rw [e.2 _ hlt]
 exact hc
def lZ (R:Nat->Prop) (h h':Heap):Prop:=h.size<=h'.size/\∀ b,b<h.size->R b->h'[b]? = h[b]?
theorem lZ.refl (R:Nat->Prop) (h:Heap):lZ R h h:=⟨gg _,fun _ _ _=>rfl⟩
theorem lZ.trans {R:Nat->Prop} {a b c:Heap} (h:lZ R a b) (k:lZ R b c):lZ R a c :=
 ⟨iL h.1 k.1,fun i hi hr=>(k.2 i (iK hi h.1) hr).trans (h.2 i hi hr)⟩
theorem gi.keep {h h':Heap} (e:gi h h') (R:Nat->Prop):lZ R h h':=⟨e.1,fun b hb _=>e.2 b hb⟩
theorem lZ.cell {R:Nat->Prop} {h h':Heap} (e:lZ R h h') {a:Addr} (ha:R a.block) {v:Value} (hc:ic h a=some v):ic h' a=some v:=by
 have hlt:a.block<h.size:=by
  rcases gI a.block h.size with hlt | hge
  ·exact hlt
  ·simp [ic,kL hge] at hc
 unfold ic at hc ⊢
 rw [e.2 _ hlt ha]
 exact hc
theorem Cd (a:Addr) (n:Nat):(a.add n).block=a.block:=by
 unfold Addr.add; split <;> rfl
def Km (R:Nat->Prop) (ρ:Operand->Value) (o:Op):Prop:=match o with
 | .load _ x=>(match ρ x with
  | .pointer (some a)=>R a.block
  | _=>True)
 | _=>True
section
variable {P:Program}
theorem OY {op:BinOp} {k k':IntKind} {x y:Int} {K:Value->Prop} (H:OZ op k x k' y K):∃ v,K v/\∀ K':Value->Prop,K' v->OZ op k x k' y K':=by
 cases op <;> exact ⟨_,(jt.1 H).2,fun _ hk=>fH (jt.1 H).1 hk⟩
theorem CK {op:BinOp} {r:Bool} {K:Value->Prop} (H:eqD op r K):∃ v,K v/\∀ K':Value->Prop,K' v->eqD op r K':=by
 cases op <;> first | exact ⟨_,H,fun _ hk=>hk⟩ | exact H.elim
theorem wT {b:Bool} {D:(Value->Prop)->Prop} {K:Value->Prop} (hd:∀ {K},D K->∃ v,K v/\∀ K':Value->Prop,K' v->D K') (H:Cl b (D K)) :
  ∃ v,K v/\∀ K':Value->Prop,K' v->Cl b (D K'):=by
 obtain ⟨hb,H⟩:=rV.1 H
 obtain ⟨v,hv,h⟩:=hd H
 exact ⟨v,hv,fun K' hk=>rV.2 ⟨hb,h K' hk⟩⟩
theorem PD {op:BinOp} {t:TypeId} {x y:Value} {K:Value->Prop} (H:Nu P op t x y K):∃ v,K v/\∀ K':Value->Prop,K' v->Nu P op t x y K':=by
 unfold Nu at H
 split at H
 ·exact OY H
 ·exact wT (D:=eqD op _) CK H
 ·exact wT (D:=eqD op _) CK H
 ·exact wT (D:=eqD op _) CK H
 ·exact H.elim
theorem KV {op:BinOp} {t:TypeId} {x y:Value} {K:Value->Prop} (H:Dv P op t x y K):∃ v,K v/\∀ K':Value->Prop,K' v->Dv P op t x y K':=by
 unfold Dv at H
 split at H
 ·exact wT (D:=eqD op _) CK H
 ·exact wT (D:=eqD op _) CK H
 ·exact H.elim
theorem P7 {op:UnOp} {x:Value} {K:Value->Prop} (H:unD op x K):∃ v,K v/\∀ K':Value->Prop,K' v->unD op x K':=by
 unfold unD at H
 split at H
 ·exact ⟨_,H,fun _ hk=>hk⟩
 ·exact ⟨_,H,fun _ hk=>hk⟩
 ·exact ⟨_,H,fun _ hk=>hk⟩
 ·exact H.elim
theorem Nr {src dst:TypeId} {x:Value} {K:Value->Prop} (H:Gc P dst src x K):∃ v,K v/\∀ K':Value->Prop,K' v->Gc P dst src x K':=by
 unfold Gc at H
 split at H
 ·rename_i d k k' n h1 h2
  exact ⟨_,H,fun _ hk=>by unfold Gc; rw [h1,h2]; exact hk⟩
 ·exact H.elim
theorem OC {x:Value} {K:Value->Prop} (H:OD x K):∃ v,K v/\∀ K':Value->Prop,K' v->OD x K':=by
 unfold OD at H
 split at H
 ·obtain ⟨a,rfl,H⟩:=Cx H
  exact ⟨_,H,fun _ hk=>hk⟩
 ·exact ⟨_,H,fun _ hk=>hk⟩
 ·exact ⟨_,H,fun _ hk=>hk⟩
 ·exact H.elim
theorem F2 {s:TypeId} {x:Value} {f:Nat} {K:Value->Prop} (H:p5 P s x f K):∃ v,K v/\∀ K':Value->Prop,K' v->p5 P s x f K':=by
 unfold p5 at H
 split at H
 ·rename_i fs a hu
  split at H
  ·rename_i fd hf
   split at H
   ·rename_i n hn
    exact ⟨_,H,fun _ hk=>by unfold p5; rw [hu]; simp only [hf,hn]; exact hk⟩
   ·exact H.elim
  ·exact H.elim
 ·exact H.elim
theorem Na {t:TypeId} {cs:List Value} {off:Nat} {K:Value->Prop} (H:Eg P t cs off K):∃ v,K v/\∀ K':Value->Prop,K' v->Eg P t cs off K':=by
 unfold Eg at H
 split at H
 ·exact H.elim
 rename_i d hd
 split at H
 ·rename_i n h1 h2
  exact ⟨_,H,fun _ hk=>by unfold Eg; rw [hd,h1,h2]; exact hk⟩
 ·rename_i n h1 h2
  split at H
  ·rename_i v hv
   exact ⟨_,H,fun _ hk=>by unfold Eg; rw [hd,h1,h2]; simp only [hv]; exact hk⟩
  ·exact H.elim
 ·exact H.elim
theorem Lf {t:TypeId} {x:Value} {f:Nat} {K:Value->Prop} (H:BM P t x f K):∃ v,K v/\∀ K':Value->Prop,K' v->BM P t x f K':=by
 unfold BM at H
 split at H
 ·rename_i fs cs hu
  split at H
  ·rename_i fd hf
   obtain ⟨v,hv,hd⟩:=Na H
   exact ⟨v,hv,fun K' hk=>by unfold BM; rw [hu]; simp only [hf]; exact hd K' hk⟩
  ·exact H.elim
 ·exact H.elim
theorem FU {t:TypeId} {x i:Value} {K:Value->Prop} (H:ou P t x i K):∃ v,K v/\∀ K':Value->Prop,K' v->ou P t x i K':=by
 unfold ou at H
 split at H
 ·rename_i e b n c k j hu
  split at H
  ·rename_i sz hsz
   obtain ⟨hj,H⟩:=jt.1 H
   obtain ⟨a,rfl,H⟩:=Cx H
   exact ⟨_,H,fun _ hk=>by unfold ou; rw [hu]; simp only [hsz]; exact fH hj hk⟩
  ·exact H.elim
 ·rename_i n e a k j hu
  split at H
  ·rename_i sz hsz
   exact ⟨_,(jt.1 H).2,fun _ hk=>by unfold ou; rw [hu]; simp only [hsz]; exact fH (jt.1 H).1 hk⟩
  ·exact H.elim
 ·exact H.elim
theorem Pz {x:Value} {y:Nat} {K:Nat->Prop} (H:GN x y K):∃ n,K n/\∀ K':Nat->Prop,K' n->GN x y K':=by
 unfold GN at H
 split at H
 ·exact ⟨_,(jt.1 H).2,fun _ hk=>fH (jt.1 H).1 hk⟩
 ·exact H.elim
theorem zt {x:Option Value} {d y:Nat} {K:Nat->Prop} (H:FK x d y K):∃ n,K n/\∀ K':Nat->Prop,K' n->FK x d y K':=by
 cases x with
 | none=>exact ⟨_,H,fun _ hk=>hk⟩
 | some v=>exact Pz H
theorem N1 {t:TypeId} {x:Value} {lo hi mx:Option Value} {K:Value->Prop} (H:Ji P t x lo hi mx K):∃ v,K v/\∀ K':Value->Prop,K' v->Ji P t x lo hi mx K':=by
 unfold Ji at H
 split at H
 ·rename_i e q len cap hu
  split at H
  ·rename_i sz hsz
   split at H
   ·exact H.elim
   ·rename_i hb
    obtain ⟨m,H,hm⟩:=zt H
    obtain ⟨k,H,hk⟩:=zt H
    obtain ⟨l,H,hl⟩:=zt H
    exact ⟨_,H,fun _ hv=>by unfold Ji; rw [hu]; simp only [hsz,hb]; exact hm _ (hk _ (hl _ hv))⟩
  ·exact H.elim
 ·rename_i s hu
  split at H
  ·obtain ⟨k,H,hk⟩:=zt H
   obtain ⟨l,H,hl⟩:=zt H
   exact ⟨_,H,fun _ hv=>by unfold Ji; rw [hu]; exact hk _ (hl _ hv)⟩
  ·exact H.elim
 ·exact H.elim
theorem AH:∀ {l:List (Nat × Nat × Value)} {cs:List Value} {K:List Value->Prop},Eo l cs K->∃ v,K v/\∀ K':List Value->Prop,K' v->Eo l cs K'
 | [],cs,K,H=>⟨cs,H,fun _ hk=>hk⟩
 | (off,size,v)::l,cs,K,H=>by
  obtain ⟨hp,H⟩:=jt.1 H
  obtain ⟨v,hv,hd⟩:=AH H
  exact ⟨v,hv,fun K' hk=>fH hp (hd K' hk)⟩
theorem Lo {t:TypeId} {parts:List (Nat × Value)} {K:Value->Prop} (H:z9 P t parts K):∃ v,K v/\∀ K':Value->Prop,K' v->z9 P t parts K':=by
 unfold z9 at H
 split at H
 ·rename_i fs z hu hz
  split at H
  ·rename_i l h1 h2
   obtain ⟨v,hv,hd⟩:=AH H
   exact ⟨_,hv,fun K' hk=>by unfold z9; rw [hu,hz]; simp only [h1,h2]; exact hd _ hk⟩
  ·exact H.elim
 ·rename_i m e z hu hz
  split at H
  ·rename_i n hn
   obtain ⟨v,hv,hd⟩:=AH H
   exact ⟨_,hv,fun K' hk=>by unfold z9; rw [hu,hz]; simp only [hn]; exact hd _ hk⟩
  ·exact H.elim
 ·exact H.elim
theorem OL {t:TypeId} {x:Value} {K:Value->Prop} (H:IE P t x K):∃ v,K v/\∀ K':Value->Prop,K' v->IE P t x K':=by
 unfold IE at H
 split at H
 ·rename_i hu; exact ⟨_,H,fun _ hk=>by unfold IE; rw [hu]; exact hk⟩
 ·rename_i hu; exact ⟨_,H,fun _ hk=>by unfold IE; rw [hu]; exact hk⟩
 ·rename_i hu; exact ⟨_,H,fun _ hk=>by unfold IE; rw [hu]; exact hk⟩
 ·exact H.elim
theorem Pv {t:TypeId} {x:Value} {K:Value->Prop} (H:Ll P t x K):∃ v,K v/\∀ K':Value->Prop,K' v->Ll P t x K':=by
 unfold Ll at H
 split at H
 ·rename_i hu; exact ⟨_,H,fun _ hk=>by unfold Ll; rw [hu]; exact hk⟩
 ·exact H.elim
theorem Hl {k:IntKind}:∀ {l:List Value} {x:Int} {K:Value->Prop},JC k x l K->∃ v,K v/\∀ K':Value->Prop,K' v->JC k x l K'
 | [],x,K,H=>⟨_,H,fun _ hk=>hk⟩
 | .int k' y::rest,x,K,H=>Hl (l:=rest) H
 | .bool _::_,_,_,H | .float _ _::_,_,_,H | .complex _ _ _::_,_,_,H | .string _::_,_,_,H | .pointer _::_,_,_,H | .slice _ _ _::_,_,_,H | .map _::_,_,_,H | .chan _::_,_,_,H
 | .func _ _ _::_,_,_,H | .nilFunc::_,_,_,H | .iface _ _::_,_,_,H | .nilIface::_,_,_,H | .agg _::_,_,_,H | .tuple _::_,_,_,H=>H.elim
theorem Hm {k:IntKind}:∀ {l:List Value} {x:Int} {K:Value->Prop},JF k x l K->∃ v,K v/\∀ K':Value->Prop,K' v->JF k x l K'
 | [],x,K,H=>⟨_,H,fun _ hk=>hk⟩
 | .int k' y::rest,x,K,H=>Hm (l:=rest) H
 | .bool _::_,_,_,H | .float _ _::_,_,_,H | .complex _ _ _::_,_,_,H | .string _::_,_,_,H | .pointer _::_,_,_,H | .slice _ _ _::_,_,_,H | .map _::_,_,_,H | .chan _::_,_,_,H
 | .func _ _ _::_,_,_,H | .nilFunc::_,_,_,H | .iface _ _::_,_,_,H | .nilIface::_,_,_,H | .agg _::_,_,_,H | .tuple _::_,_,_,H=>H.elim
theorem Mb {h:Heap} {a:Addr} {t:CT} {K:Value->Prop} (H:ldC h a t K):∃ v,K v/\∀ (R:Nat->Prop) (hR:R a.block) (h':Heap) (K':Value->Prop),lZ R h h'->K' v->ldC h' a t K':=by
 cases t <;> simp only [ldC,ldI,ldB,ldP,ldS,ldT,ldV] at H ⊢
 ·obtain ⟨x,hc,hk⟩:=H; exact ⟨_,hk,fun R hR h' K' e hk'=>⟨x,e.cell hR hc,hk'⟩⟩
 ·obtain ⟨x,hc,hk⟩:=H; exact ⟨_,hk,fun R hR h' K' e hk'=>⟨x,e.cell hR hc,hk'⟩⟩
 ·obtain ⟨x,hc,hk⟩:=H; exact ⟨_,hk,fun R hR h' K' e hk'=>⟨x,e.cell hR hc,hk'⟩⟩
 ·obtain ⟨x,y,z,hc,hk⟩:=H; exact ⟨_,hk,fun R hR h' K' e hk'=>⟨x,y,z,e.cell hR hc,hk'⟩⟩
 ·obtain ⟨x,hc,hk⟩:=H; exact ⟨_,hk,fun R hR h' K' e hk'=>⟨x,e.cell hR hc,hk'⟩⟩
 ·obtain ⟨x,hc,hk⟩:=H; exact ⟨_,hk,fun R hR h' K' e hk'=>⟨x,e.cell hR hc,hk'⟩⟩
theorem JJ {h:Heap} {a:Addr}:∀ {ts:List CT} {i:Nat} {K:List Value->Prop},OM h a i ts K->∃ v,K v/\∀ (R:Nat->Prop) (hR:R a.block) (h':Heap) (K':List Value->Prop),lZ R h h'->K' v->OM h' a i ts K'
 | [],i,K,H=>⟨_,H,fun _ _ _ _ _ hk=>hk⟩
 | t::ts,i,K,H=>by
  obtain ⟨v,H,hv⟩:=Mb H
  obtain ⟨vs,H,hvs⟩:=JJ H
  exact ⟨_,H,fun R hR h' K' e hk=>hv R (by rw [Cd]; exact hR) h' _ e (hvs R hR h' _ e hk)⟩
theorem AD {t:TypeId} {h:Heap} {a:Addr} {K:Value->Prop} (H:Bh P t h a K):∃ v,K v/\∀ (R:Nat->Prop) (hR:R a.block) (h':Heap) (K':Value->Prop),lZ R h h'->K' v->Bh P t h' a K':=by
 unfold Bh at H
 split at H
 ·rename_i hg
  split at H
  ·rename_i c hc
   obtain ⟨v,H,hv⟩:=Mb H
   exact ⟨v,H,fun R hR h' K' e hk=>by unfold Bh; rw [hg]; simp only [hc]; exact hv R hR h' K' e hk⟩
  ·exact H.elim
 ·rename_i hg
  split at H
  ·rename_i ts n h1 h2
   split at H
   ·rename_i h3
    obtain ⟨vs,H,hv⟩:=JJ H
    exact ⟨_,H,fun R hR h' K' e hk=>by unfold Bh; rw [hg,h1,h2]; simp only [h3]; exact hv R hR h' _ e hk⟩
   ·exact H.elim
  ·rename_i n h1 h2
   obtain ⟨cs,hr,H⟩:=H
   exact ⟨_,H,fun R hR h' K' e hk=>by unfold Bh; rw [hg,h1,h2]; exact ⟨cs,⟨hr.1,fun j v hj=>e.cell (by rw [Cd]; exact hR) (hr.2 j v hj)⟩,hk⟩⟩
  ·exact H.elim
theorem IX {b:Builtin} {ts:List TypeId} {args:List Value} {h:Heap} {K:VK} (hf:qN (.call { callee := .builtin b,args:=#[],argTypes:=#[] })=true)
  (H:xu P b ts args h K):∃ v,K v h/\∀ (h':Heap) (K':VK),K' v h'->xu P b ts args h' K':=by
 unfold xu at H
 split at H
 ·obtain ⟨v,hv,hd⟩:=OL H; exact ⟨v,hv,fun h' K' hk=>hd (fun v=>K' v h') hk⟩
 ·obtain ⟨v,hv,hd⟩:=Pv H; exact ⟨v,hv,fun h' K' hk=>hd (fun v=>K' v h') hk⟩
 ·cases hf
 ·cases hf
 ·obtain ⟨v,hv,hd⟩:=Hl H; exact ⟨v,hv,fun h' K' hk=>hd (fun v=>K' v h') hk⟩
 ·obtain ⟨v,hv,hd⟩:=Hm H; exact ⟨v,hv,fun h' K' hk=>hd (fun v=>K' v h') hk⟩
 ·exact H.elim
theorem Qu {C:gl} {Kp:PK} {ρ:Operand->Value} {o:Op} {ty:TypeId} {h:Heap} {K:VK} (hf:qN o=true) (H:opD P C Kp ρ o ty h K) :
  ∃ v,K v h/\∀ (R:Nat->Prop) (hR:BK o=true->Km R ρ o) (h':Heap) (K':VK),(BK o=true->lZ R h h')->K' v h'->opD P C Kp ρ o ty h' K':=by
 cases o <;> first | (cases hf; done) | skip
 case move x=>exact ⟨_,H,fun _ _ _ _ _ hk=>hk⟩
 case assign x=>exact ⟨_,H,fun _ _ _ _ _ hk=>hk⟩
 case pick c x y =>
  simp only [opD] at H ⊢
  split at H
  ·rename_i b hb
   cases b
   ·exact ⟨_,H,fun _ _ _ _ _ hk=>hk⟩
   ·exact ⟨_,H,fun _ _ _ _ _ hk=>hk⟩
  ·exact H.elim
 case build t parts=>simp only [opD] at H ⊢; obtain ⟨v,hv,hd⟩:=Lo H; exact ⟨v,hv,fun _ _ h' K' _ hk=>hd (fun v=>K' v h') hk⟩
 case load t x =>
  simp only [opD] at H ⊢
  split at H
  ·rename_i a ha
   obtain ⟨v,hv,hd⟩:=AD H
   exact ⟨v,hv,fun R hR h' K' e hk=>hd R (by have h1:=hR rfl; simp only [Km,ha] at h1; exact h1) h' (fun v=>K' v h') (e rfl) hk⟩
  ·exact H.elim
 case nilCheck x=>simp only [opD] at H ⊢; obtain ⟨v,hv,hd⟩:=OC H; exact ⟨v,hv,fun _ _ h' K' _ hk=>hd (fun v=>K' v h') hk⟩
 case binOp op t x y u =>
  simp only [opD] at H ⊢
  split at H
  ·rename_i hn
   obtain ⟨v,hv,hd⟩:=KV H
   exact ⟨v,hv,fun _ _ h' K' _ hk=>hd (fun v=>K' v h') hk⟩
  ·rename_i hn
   obtain ⟨v,hv,hd⟩:=PD H
   exact ⟨v,hv,fun _ _ h' K' _ hk=>hd (fun v=>K' v h') hk⟩
 case unOp op t x=>simp only [opD] at H ⊢; obtain ⟨v,hv,hd⟩:=P7 H; exact ⟨v,hv,fun _ _ h' K' _ hk=>hd (fun v=>K' v h') hk⟩
 case convert s d x=>simp only [opD] at H ⊢; obtain ⟨v,hv,hd⟩:=Nr H; exact ⟨v,hv,fun _ _ h' K' _ hk=>hd (fun v=>K' v h') hk⟩
 case makeInterface t x =>
  simp only [opD] at H ⊢
  split at H
  ·exact H.elim
  ·rename_i d hn hd
   exact ⟨_,H,fun _ _ _ _ _ hk=>hk⟩
  ·exact H.elim
 case makeFunc fn first captured=>exact ⟨_,H,fun _ _ _ _ _ hk=>hk⟩
 case slice t x lo hi mx=>simp only [opD] at H ⊢; obtain ⟨v,hv,hd⟩:=N1 H; exact ⟨v,hv,fun _ _ h' K' _ hk=>hd (fun v=>K' v h') hk⟩
 case fieldAddr s x f=>simp only [opD] at H ⊢; obtain ⟨v,hv,hd⟩:=F2 H; exact ⟨v,hv,fun _ _ h' K' _ hk=>hd (fun v=>K' v h') hk⟩
 case field t x f=>simp only [opD] at H ⊢; obtain ⟨v,hv,hd⟩:=Lf H; exact ⟨v,hv,fun _ _ h' K' _ hk=>hd (fun v=>K' v h') hk⟩
 case indexAddr t x i=>simp only [opD] at H ⊢; obtain ⟨v,hv,hd⟩:=FU H; exact ⟨v,hv,fun _ _ h' K' _ hk=>hd (fun v=>K' v h') hk⟩
 case extract x i =>
  simp only [opD] at H ⊢
  split at H
  ·rename_i vs hv
   split at H
   ·rename_i v hi
    exact ⟨_,H,fun _ _ _ _ _ hk=>hk⟩
   ·exact H.elim
  ·exact H.elim
 case call c =>
  obtain ⟨callee,args,argTypes⟩:=c
  cases callee with
  | value f=>cases hf
  | invoke r m=>cases hf
  | builtin b =>
   have hf':qN (.call { callee := .builtin b,args:=#[],argTypes:=#[] })=true:=hf
   obtain ⟨v,hv,hd⟩:=IX hf' H
   exact ⟨v,hv,fun _ _ h' K' _ hk=>hd h' K' hk⟩
theorem Qt {C:gl} {Kp:PK} {ρ:Operand->Value} {o:Op} {ty:TypeId} {h:Heap} {K:VK} (hf:Rk o=true) (H:opD P C Kp ρ o ty h K) :
  opD P C Kp ρ o ty h fun v h'=>gi h h'/\K v h':=by
 cases o <;> first | (cases hf; done) | skip
 case alloc t =>
  simp only [opD] at H ⊢
  split
  ·rename_i z hz; rw [hz] at H; exact ⟨gi.push _ _,H⟩
  ·rename_i hz; rw [hz] at H; exact H
 case box t x=>exact ⟨gi.push _ _,H⟩
 case buildSlice t n parts =>
  simp only [opD,vO] at H ⊢
  split at H
  ·rename_i e hu
   split at H
   ·rename_i m z h1 h2
    obtain ⟨hp,H⟩:=jt.1 H
    obtain ⟨v,hv,hd⟩:=AH H
    exact fH hp (hd _ ⟨gi.push _ _,hv⟩)
   ·exact H.elim
  ·exact H.elim
 case makeSlice t l c =>
  simp only [opD,mkD] at H ⊢
  split at H
  ·rename_i e kl x kc y hu hl hc
   split at H
   ·rename_i sz by_ z0 z h1 h2 h3
    split at H
    ·rename_i hb
     exact fH (jt.1 H).1 ⟨gi.push _ _,(jt.1 H).2⟩
    ·exact H.elim
   ·exact H.elim
  ·exact H.elim
end
section
variable {md:Region.Mode} {ops:Array Oper}
inductive Dep (md:Region.Mode) (ops:Array Oper):Nat->Nat->Prop
 | one {j i:Nat} {o:Oper} {e:Edge}:ops[j]? = some o->e∈o.after->Region.binds md e=true->e.on=i->Dep md ops j i
 | more {j m i:Nat}:Dep md ops j m->Dep md ops m i->Dep md ops j i
def mH (md:Region.Mode) (ops:Array Oper) (listed:Array Bool):Prop :=
 ∀ j o,ops[j]? = some o->listed.getD j false=true->∀ e∈o.after,Region.binds md e=true->listed.getD e.on false=true
theorem mH.dep {listed:Array Bool} (hc:mH md ops listed) {j i:Nat} (h:Dep md ops j i) :
  (∀ o,ops[j]? = some o->∀ e∈o.after,Region.binds md e=true->listed.getD e.on false=true)->listed.getD i false=true:=by
 induction h with
 | one ho he hb hon=>intro hj; subst hon; exact hj _ ho _ he hb
 | more h1 h2 ih1 ih2=>intro hj; exact ih2 fun o ho e he hb=>hc _ o ho (ih1 hj) e he hb
theorem mH.ready {listed:Array Bool} (hc:mH md ops listed) {j i:Nat} (h:Dep md ops j i) (hj:j∈Region.ready md ops listed):listed.getD i false=true:=by
 obtain ⟨_,o,ho,hall⟩:=mem_ready.1 hj
 refine hc.dep h fun o' ho'=>?_
 have:o'=o:=ig (ho'.symm.trans ho)
 subst this
 exact hall
theorem mH.set {listed:Array Bool} (hc:mH md ops listed) {j:Nat} (hj:j∈Region.ready md ops listed):mH md ops (listed.setIfInBounds j true):=by
 obtain ⟨_,o,ho,hall⟩:=mem_ready.1 hj
 intro k ok hk hl e he hb
 by_cases hjk:j=k
 ·subst hjk
  have:ok=o:=ig (hk.symm.trans ho)
  subst this
  exact getD_set_true (hall e he hb)
 ·rw [getD_set_ne false hjk] at hl
  exact getD_set_true (hc k ok hk hl e he hb)
theorem O9 (m j:Nat):(Array.replicate m false).getD j false=false:=by
 rcases gI j m with h | h
 ·simp [h]
 ·simp [h]
theorem mH.start (m:Nat):mH md ops (Array.replicate m false):=by
 intro j o _ hl
 rw [O9] at hl
 cases hl
def ID (md:Region.Mode) (acc:List Nat) (es:List Edge) (m:Nat):Nat:=match es with
 | []=>m
 | e::es=>ID md acc es (match Region.binds md e with
  | true=>m ||| (1 <<< e.on) ||| acc.getD e.on 0
  | false=>m)
def OI (md:Region.Mode):List Oper->List Nat->List Nat
 | [],acc=>acc
 | o::rest,acc=>OI md rest (acc++[ID md acc o.after.toList 0])
theorem CC {acc:List Nat} {j:Nat} {o:Oper} (ho:ops[j]? = some o) (hacc:∀ k i,(acc.getD k 0).testBit i=true->Dep md ops k i) :
  ∀ (es:List Edge) (m:Nat),(∀ e∈es,e∈o.after)->(∀ i,m.testBit i=true->Dep md ops j i)->∀ i,(ID md acc es m).testBit i=true->Dep md ops j i
 | [],m,_,hm,i,h=>hm i h
 | e::es,m,he,hm,i,h=>by
  refine CC ho hacc es _ (fun e' h'=>he e' (by simp [h'])) ?_ i h
  intro k hk
  split at hk
  ·rename_i hb
   rw [o8,o8,lO,lO] at hk
   have h1:Dep md ops j e.on := .one ho (he e (by simp)) hb rfl
   rcases hk with (hk | hk) | hk
   ·exact hm k hk
   ·rw [Nat.one_shiftLeft,Nat.testBit_two_pow] at hk
    have:e.on=k:=by simpa using hk
    rw [<- this]
    exact h1
   ·exact .more h1 (hacc _ _ hk)
  ·exact hm k hk
theorem FO:∀ (l:List Oper) (acc:List Nat),(∀ k,l[k]? = ops[acc.length+k]?)->(∀ k i,(acc.getD k 0).testBit i=true->Dep md ops k i) ->
  ∀ k i,((OI md l acc).getD k 0).testBit i=true->Dep md ops k i
 | [],acc,_,hacc=>hacc
 | o::rest,acc,hl,hacc=>by
  refine FO rest _ (fun k=>?_) (fun k i h=>?_)
  ·have:=hl (k+1)
   simp only [mb] at this
   rw [this,fA,gJ]
   congr 1
   omega
  ·have ho:ops[acc.length]? = some o:=by have:=hl 0; simpa using this.symm
   rcases pN k acc.length with hk | hk | hk
   ·rw [fY,gk hk,<- fY] at h
    exact hacc k i h
   ·subst hk
    rw [fY,gM (gg _)] at h
    simp only [iH,nm,Option.getD_some] at h
    exact CC ho hacc o.after.toList 0 (fun e he=>by simpa using he) (fun i h=>by simp at h) i h
   ·rw [fY,iq (by simp; omega)] at h
    simp at h
def SZ (md:Region.Mode) (ops:Array Oper) (j i:Nat):Bool:=((OI md ops.toList []).getD j 0).testBit i
theorem HI {j i:Nat} (h:SZ md ops j i=true):Dep md ops j i :=
 FO ops.toList [] (fun k=>by simp) (fun k i h=>by simp at h) j i h
end
section
variable {P:Program} {md:Region.Mode} {ops:Array Oper} {Q:Exit->Act->World->Prop} {bar:Nat->Bool} {S:World->Prop}
def uF (P:Program) (md:Region.Mode) (ops:Array Oper) (Q:Exit->Act->World->Prop) (bar:Nat->Bool) (S:World->Prop):Nat->Array Bool->Act->World->Prop
 | 0,listed,a,w=>Region.ready md ops listed=[]/\Q .normal a w
 | fuel+1,listed,a,w =>
  (Region.ready md ops listed=[]->Q .normal a w) /\
  ∀ i∈Region.ready md ops listed,wpOp P ops Q i (fun a' w'=>(bar i=true->wpAny P md ops Q fuel (listed.setIfInBounds i true) a' w') /\
   (bar i=false->S w'/\uF P md ops Q bar S fuel (listed.setIfInBounds i true) a' w')) a w
theorem Bo:∀ (fuel:Nat) (listed:Array Bool) (a:Act) (w:World),uF P md ops Q bar S fuel listed a w->wpAny P md ops Q fuel listed a w
 | 0,_,_,_,h=>h
 | fuel+1,_,_,_,h=>⟨h.1,fun i hi=>wpOp_mono (fun a' w' h'=>by
   cases hb:bar i with
   | true=>exact h'.1 hb
   | false=>exact Bo fuel _ a' w' (h'.2 hb).2) (h.2 i hi)⟩
theorem y3 {S':World->Prop} (hS:∀ w,S w->S' w):∀ (fuel:Nat) (listed:Array Bool) (a:Act) (w:World),uF P md ops Q bar S fuel listed a w->uF P md ops Q bar S' fuel listed a w
 | 0,_,_,_,h=>h
 | fuel+1,_,_,_,h=>⟨h.1,fun i hi=>wpOp_mono (fun a' w' h'=>⟨h'.1,fun hb=>⟨hS _ (h'.2 hb).1,y3 hS fuel _ a' w' (h'.2 hb).2⟩⟩) (h.2 i hi)⟩
theorem Ck {i:Nat} {oi:Oper} {v:Value} (Yl:Act->Prop) (hi:ops[i]? = some oi)
  (hY1:∀ a w,S w->Yl a->∀ K:Act->World->Prop,K (a.put oi.dst v) w->wpOp P ops Q i K a w)
  (hY2:∀ j oj,ops[j]? = some oj->oi.apart ops oj=true->∀ (K:Act->World->Prop) a w,Yl a->wpOp P ops Q j K (a.put oi.dst v) w->wpOp P ops Q j (fun a' w'=>Yl a'/\K (a'.put oi.dst v) w') a w)
  (hB:∀ j (listed:Array Bool) fuel a' w',bar j=true->mH md ops listed->j∈Region.ready md ops listed->i∈Region.ready md ops (listed.setIfInBounds j true) ->
   (∀ k ok,ops[k]? = some ok->k≠i->(listed.setIfInBounds j true).getD k true=false->(∀ e∈ok.after,Region.binds md e=true->e.on≠i)->oi.apart ops ok=true) ->
   Yl a'->wpAny P md ops Q fuel ((listed.setIfInBounds j true).setIfInBounds i true) (a'.put oi.dst v) w'->wpAny P md ops Q (fuel+1) (listed.setIfInBounds j true) a' w') :
  ∀ (fuel:Nat) (listed:Array Bool) (a:Act) (w:World),mH md ops listed ->
   (∀ j oj,ops[j]? = some oj->j≠i->listed.getD j true=false->(∀ e∈oj.after,Region.binds md e=true->e.on≠i)->oi.apart ops oj=true) ->
   i∈Region.ready md ops listed->bar i=false->Yl a->S w ->
   uF P md ops Q bar S fuel (listed.setIfInBounds i true) (a.put oi.dst v) w->uF P md ops Q bar S (fuel+1) listed a w:=by
 intro fuel
 induction fuel with
 | zero =>
  intro listed a w _ _ hr hbi hy hS H
  refine ⟨fun h=>(by rw [h] at hr; cases hr),fun j hj=>?_⟩
  by_cases hji:j=i
  ·subst hji
   exact hY1 a w hS hy _ ⟨fun e=>(by rw [hbi] at e; cases e),fun _=>⟨hS,H⟩⟩
  ·have:=ready_mono hj hji
   rw [H.1] at this
   cases this
 | succ fuel ih =>
  intro listed a w hcl hfree hr hbi hy hS H
  refine ⟨fun h=>(by rw [h] at hr; cases hr),fun j hj=>?_⟩
  by_cases hji:j=i
  ·subst hji
   exact hY1 a w hS hy _ ⟨fun e=>(by rw [hbi] at e; cases e),fun _=>⟨hS,H⟩⟩
  ·have h1:=H.2 j (ready_mono hj hji)
   obtain ⟨hjun,oj,hoj,hall⟩:=mem_ready.1 hj
   have hnot:∀ e∈oj.after,Region.binds md e=true->e.on≠i:=fun e he hb heq=>by
    have h1:=hall e he hb
    have h0:=(mem_ready.1 hr).1
    rw [heq] at h1
    rcases gI i listed.size with h' | h'
    ·simp [h'] at h0 h1; rw [h0] at h1; cases h1
    ·simp [kL h'] at h1
   have h2:=hY2 j oj hoj (hfree j oj hoj hji hjun hnot) _ a w hy h1
   have hfree':∀ k ok,ops[k]? = some ok->k≠i->(listed.setIfInBounds j true).getD k true=false ->
     (∀ e∈ok.after,Region.binds md e=true->e.on≠i)->oi.apart ops ok=true:=fun k ok hk hki hun hno=>by
    refine hfree k ok hk hki ?_ hno
    by_cases hjk:j=k
    ·subst hjk; exact hjun
    ·rw [getD_set_ne true hjk] at hun; exact hun
   refine wpOp_mono (fun a' w' h3=>?_) h2
   obtain ⟨hy',h4,h5⟩:=h3
   refine ⟨fun hb=>?_,fun hb=>?_⟩
   ·have h6:=h4 hb
    rw [vV _ _ (Ne.symm hji)] at h6
    exact hB j listed fuel a' w' hb hcl hj (ready_mono hr (Ne.symm hji)) hfree' hy' h6
   ·obtain ⟨hS',h6⟩:=h5 hb
    rw [vV _ _ (Ne.symm hji)] at h6
    exact ⟨hS',ih (listed.setIfInBounds j true) a' w' (hcl.set hj) hfree' (ready_mono hr (Ne.symm hji)) hbi hy' hS' h6⟩
end
abbrev j6:=Exit->Act->Heap->Prop
def Po (a:Act) (dst:Option Tmp) (f:Value) (args:List Value) (K:Act->Prop):Prop:=match f with
 | .func fn first captured=>K (({ a with defers:={ target := .fn fn captured,args:=(first.toList++args).toArray }::a.defers }:Act).put dst undef)
 | _=>False
def uO (P:Program) (C:gl) (Q:j6) (o:Oper) (a:Act) (h:Heap) (K:Act->Heap->Prop):Prop:=match o.op with
 | .panic x=>(match a.eval x with
  | .iface t v=>Q (.panic [{ v := .iface t v,recovered:=false }]) a h
  | _=>False)
 | .defer c=>(match c.callee with
  | .value f=>Po a o.dst (a.eval f) (c.args.toList.map a.eval) fun a'=>K a' h
  | _=>False)
 | op=>opD P C (fun c h'=>Q (.panic c) a h') a.eval op o.type h fun v h'=>K (a.put o.dst v) h'
def zC (ops:Array Oper) (o:Oper) (a:Act) (run skip:Act->Prop):Prop:=match o.guard with
 | none=>run a
 | some (j,want)=>(match (ops[j]?).bind (·.dst) with
  | some d=>(match a.tmps[d]? with
   | some (.bool b)=>fI b
     (match want with | true=>run (a.put (some d) (.bool true)) | false=>skip (a.put (some d) (.bool true)))
     (match want with | true=>skip (a.put (some d) (.bool false)) | false=>run (a.put (some d) (.bool false)))
   | _=>skip a)
  | none=>skip a)
def Jl (P:Program) (C:gl) (Q:j6) (ops:Array Oper):List Oper->Act->Heap->(Act->Heap->Prop)->Prop
 | [],a,h,K=>K a h
 | o::rest,a,h,K=>zC ops o a (fun a=>uO P C Q o a h fun a' h'=>Jl P C Q ops rest a' h' K) (fun a=>Jl P C Q ops rest (a.put o.dst undef) h K)
inductive Plan where
 | done
 | take (i:Nat) (p:Plan)
 | go (i:Nat) (p:Plan)
 | alt (i:Nat) (p:Plan) (q:Plan)
 | bar (i:Nat) (bars:List Nat) (p:Plan)
 | keep (p:Plan)
def y6 (P:Program) (C:gl) (Q:j6) (ops:Array Oper) (i:Nat) (a:Act) (h:Heap) (k:Act->Heap->Prop):Prop:=match ops[i]? with
 | none=>False
 | some o=>zC ops o a (fun a=>uO P C Q o a h k) (fun a=>k (a.put o.dst undef) h)
def Nb (ops:Array Oper) (i:Nat):Bool:=match ops[i]? with
 | some o=>Rk o.op
 | none=>false
def ny:Option (Nat->Prop)->Heap->Heap->Prop
 | none=>gi
 | some R=>lZ R
def NS (ro:Option (Nat->Prop)) (o:Oper) (a:Act) (X:Prop):Prop:=match ro with
 | none=>X
 | some R=>(match o.op with
  | .load _ x=>(match a.eval x with
   | .pointer (some ad)=>R ad.block/\X
   | _=>X)
  | _=>X)
def LC (P:Program) (C:gl) (Q:j6) (ops:Array Oper) (ro:Option (Nat->Prop)) (i:Nat) (a:Act) (h:Heap) (k:Act->Heap->Prop):Prop:=match ops[i]? with
 | none=>False
 | some o=>zC ops o a (fun a=>uO P C Q o a h fun a' h'=>NS ro o a (k a' h')) (fun a=>k (a.put o.dst undef) h)
def goD (P:Program) (C:gl) (Q:j6) (ops:Array Oper) (ro:Option (Nat->Prop)) (i:Nat) (a:Act) (h:Heap) (k:Act->Heap->Prop):Prop:=match Nb ops i with
 | true=>y6 P C Q ops i a h k
 | false=>y6 P C Q ops i a h fun a' h'=>ny ro h h'/\k a' h'
def FH (P:Program) (C:gl) (Q:j6) (ops:Array Oper) (ro:Option (Nat->Prop)):Plan->Act->Heap->(Act->Heap->Prop)->Prop
 | .done,a,h,K=>K a h
 | .take i p,a,h,K=>LC P C Q ops ro i a h fun a' h'=>FH P C Q ops ro p a' h' K
 | .go i p,a,h,K=>goD P C Q ops ro i a h fun a' h'=>FH P C Q ops ro p a' h' K
 | .alt i p q,a,h,K=>goD P C Q ops ro i a h (fun a' h'=>FH P C Q ops ro p a' h' K)/\FH P C Q ops ro q a h K
 | .bar i _ p,a,h,K=>y6 P C Q ops i a h fun a' h'=>FH P C Q ops ro p a' h' K
 | .keep _,_,_,_=>False
def Fj:Plan->Plan
 | .keep p=>p
 | p=>p
def OR (D:Option (Nat->Prop)->Plan->Prop):Plan->Prop
 | .keep p=>∃ R:Nat->Prop,D (some R) p
 | p=>D none p
theorem FQ {D:Option (Nat->Prop)->Plan->Prop} {p:Plan} (H:OR D p):∃ ro,D ro (Fj p):=by
 cases p <;> first | exact ⟨none,H⟩ | (obtain ⟨R,H⟩:=H; exact ⟨some R,H⟩)
def xP (ops:Array Oper) (listed:Array Bool):List Nat:=Region.ready .any ops listed
def KT (ops:Array Oper) (bars:List Nat) (listed:Array Bool) (i:Nat):Bool:=match ops[i]? with
 | none=>false
 | some o=>qN o.op && (xP ops listed).contains i && Region.free .any ops listed i && !bars.contains i && (!BK o.op || bars.all fun b=>SZ .any ops b i)
def zB:Plan->List Nat
 | .go i _=>[i]
 | .alt i _ q=>i::zB q
 | _=>[]
def lh (ops:Array Oper):Bool->List Nat->Nat->Array Bool->Plan->Bool
 | _,_,_,listed, .done=>(xP ops listed).isEmpty
 | _,_,_,_, .keep _=>false
 | _,_,0,_,_=>false
 | top,bars,n+1,listed, .take i p=>top && KT ops bars listed i && lh ops true bars n (listed.setIfInBounds i true) p
 | top,bars,n+1,listed, .go i p=>(!top || decide (xP ops listed=[i])) && !bars.contains i && lh ops true bars n (listed.setIfInBounds i true) p
 | top,bars,n+1,listed, .alt i p q=>(!top || decide (xP ops listed=i::zB q)) && !bars.contains i && lh ops true bars n (listed.setIfInBounds i true) p && lh ops false bars (n+1) listed q
 | top,bars,n+1,listed, .bar i bars' p=>top && decide (xP ops listed=[i]) && bars.contains i && lh ops true bars' n (listed.setIfInBounds i true) p
def OA (ops:Array Oper):Bool:=Region.noSelect ops
def AJ (ops:Array Oper) (bars:List Nat) (p:Plan):Bool:=OA ops && lh ops true bars ops.size (Array.replicate ops.size false) p
section
variable {P:Program} {C:gl} {Q:j6} {ops:Array Oper}
theorem Js (a:Act) (d:Tmp) (v:Value) (h:a.tmps[d]? = some v):a.put (some d) v=a:=by
 unfold Act.put
 have:a.tmps.setIfInBounds d v=a.tmps:=by
  apply Array.ext_getElem?
  intro i
  by_cases hi:d=i
  ·subst hi
   obtain ⟨hlt,hv⟩:=Array.getElem?_eq_some_iff.1 h
   simp [hlt,hv]
  ·rw [y1 hi]
 simp [this]
theorem tf {o:Oper} {a:Act} {run skip:Act->Prop} (H:zC ops o a run skip) :
  (Region.wanted o (yielded ops a.tmps)=true/\run a)\/(Region.wanted o (yielded ops a.tmps)=false/\skip a):=by
 unfold zC at H
 unfold Region.wanted
 split at H
 ·rename_i hg
  rw [hg]
  exact .inl ⟨rfl,H⟩
 ·rename_i j want hg
  rw [hg]
  simp only [yielded]
  split at H
  ·rename_i d hd
   rw [hd]
   simp only [Option.bind_some]
   split at H
   ·rename_i b hb
    simp only [hb]
    unfold fI at H
    cases b
    ·rw [Js a d _ hb] at H
     cases want
     ·exact .inl ⟨rfl,H⟩
     ·exact .inr ⟨rfl,H⟩
    ·rw [Js a d _ hb] at H
     cases want
     ·exact .inr ⟨rfl,H⟩
     ·exact .inl ⟨rfl,H⟩
   ·rename_i hn
    refine .inr ⟨?_,H⟩
    cases hv:a.tmps[d]? with
    | none=>simp
    | some u=>cases u <;> first | (exact absurd hv (hn _)) | simp
  ·rename_i hd
   rw [hd]
   exact .inr ⟨by simp,H⟩
theorem wU (hC:CallOK P C) {o:Oper} {a:Act} {K:Act->Heap->Prop} {next:Act->World->Prop} {Q':Exit->Act->World->Prop} {w:World}
  (H:uO P C Q o a w.heap K) (hK:∀ a' w',keeps w w'->((∃ v,a'=a.put o.dst v)\/(∃ c,o.op = .defer c))->K a' w'.heap->next a' w')
  (hp:∀ c w',keeps w w'->Q (.panic c) a w'.heap->Q' (.panic c) a w'):o.wp P a w next Q':=by
 unfold uO at H
 split at H
 ·rename_i x ho
  split at H
  ·rename_i t v hv
   unfold Oper.wp execOp
   simp only [ho,hv]
   exact hp _ _ (keeps.refl w) H
  ·exact H.elim
 ·rename_i c ho
  split at H
  ·rename_i f hf
   unfold Po at H
   split at H
   ·rename_i fn first captured hv
    unfold Oper.wp execOp
    simp only [ho,resolve,hf,hv,Deferred.ofValue]
    have:(first.toList++c.args.toList.map a.eval).toArray=first++c.args.map a.eval:=by apply Array.toList_inj.1; simp
    rw [this] at H
    exact hK _ _ (keeps.refl w) (.inr ⟨c,ho⟩) H
   ·exact H.elim
  ·exact H.elim
 ·exact RI hC H (fun v w' hk h=>hK _ _ hk (.inl ⟨v,rfl⟩) h) hp
def jO (W:Nat) (a a':Act):Prop:=a'.defers=a.defers/\a'.tmps.size=a.tmps.size/\∀ i,W.testBit i=false->a'.tmps[i]? = a.tmps[i]?
theorem jO.refl (W:Nat) (a:Act):jO W a a:=⟨rfl,rfl,fun _ _=>rfl⟩
theorem jO.trans {W:Nat} {a b c:Act} (h:jO W a b) (k:jO W b c):jO W a c :=
 ⟨k.1.trans h.1,k.2.1.trans h.2.1,fun i hi=>(k.2.2 i hi).trans (h.2.2 i hi)⟩
def nM (W:Nat) (o:Oper):Bool:=match o.op with
 | .defer _=>false
 | _=>(match o.dst with
  | some d=>W.testBit d
  | none=>true)
theorem jO.put {W:Nat} {a b:Act} {o:Oper} (h:jO W a b) (ho:nM W o=true) (v:Value):jO W a (b.put o.dst v):=by
 refine h.trans ?_
 have:∀ d,o.dst=some d->W.testBit d=true:=fun d hd=>by
  unfold nM at ho
  rw [hd] at ho
  split at ho
  ·cases ho
  ·exact ho
 cases hd:o.dst with
 | none=>exact jO.refl _ _
 | some d =>
  refine ⟨rfl,by simp [Act.put],fun i hi=>?_⟩
  have hne:d≠i:=fun e=>by subst e; rw [this d hd] at hi; cases hi
  simp [Act.put,y1 hne]
theorem Ka {W:Nat} {o:Oper} {c:Call} (h:o.op = .defer c):nM W o=false:=by simp [nM,h]
def FrL (l:List Oper) (a a':Act):Prop:=∀ W,l.all (nM W)=true->jO W a a'
theorem xL {o:Oper} {a a':Act} (h:(∃ v,a'=a.put o.dst v)\/∃ c,o.op = .defer c) {W:Nat} (hW:nM W o=true):jO W a a':=by
 rcases h with ⟨v,rfl⟩ | ⟨c,hc⟩
 ·exact (jO.refl W a).put hW v
 ·rw [Ka hc] at hW; cases hW
def jM (w₀:World) (Fr:Act->Prop) (Q:j6):Exit->Act->World->Prop
 | .panic c,a,w=>keeps w₀ w/\Q (.panic c) a w.heap
 | .outgrown,_,_=>False
 | e,a,w=>keeps w₀ w/\Fr a/\Q e a w.heap
theorem BB (hC:CallOK P C) (w₀:World) (Fr:Act->Prop):∀ (l:List Oper) (a:Act) (w:World) (K:Act->Heap->Prop),keeps w₀ w->Jl P C Q ops l a w.heap K ->
  (∀ a' w',keeps w₀ w'->FrL l a a'->K a' w'.heap->Q .normal a' w'.heap)->(∀ a',FrL l a a'->Fr a')->wpList P ops (jM w₀ Fr Q) l a w
 | [],a,w,K,hk,H,hQ,hF=>⟨hk,hF a (fun W _=>jO.refl W a),hQ a w hk (fun W _=>jO.refl W a) H⟩
 | o::rest,a,w,K,hk,H,hQ,hF=>by
  have hcons:∀ a1,(∀ W,nM W o=true->jO W a a1)->∀ a',FrL rest a1 a'->FrL (o::rest) a a':=fun a1 h1 a' h2 W hW=>by
   simp only [ua,gH] at hW
   exact (h1 W hW.1).trans (h2 W hW.2)
  have hrec:∀ a1 w1,keeps w₀ w1->(∀ W,nM W o=true->jO W a a1)->Jl P C Q ops rest a1 w1.heap K->wpList P ops (jM w₀ Fr Q) rest a1 w1:=fun a1 w1 hk1 h1 H1 =>
   BB hC w₀ Fr rest a1 w1 K hk1 H1 (fun a' w' hk' hf=>hQ a' w' hk' (hcons a1 h1 a' hf)) (fun a' hf=>hF a' (hcons a1 h1 a' hf))
  unfold wpList
  rcases tf H with ⟨hw,H⟩ | ⟨hw,H⟩
  ·rw [if_pos hw]
   exact .inl (wU hC H (fun a' w' hk' hs h=>hrec a' w' (hk.trans hk') (fun W hW=>xL hs hW) h) (fun c w' hk' h=>⟨hk.trans hk',h⟩))
  ·rw [if_neg (by rw [hw]; simp)]
   exact hrec _ w hk (fun W hW=>(jO.refl W a).put hW undef) H
theorem Ez {o:Oper} (h:qN o.op=true):(∀ x,o.op ≠ .panic x)/\∀ c,o.op ≠ .defer c :=
 ⟨fun x e=>(by rw [e] at h; cases h),fun c e=>(by rw [e] at h; cases h)⟩
theorem Jf {o:Oper} {a:Act} {h:Heap} {K:Act->Heap->Prop} (hf:(∀ x,o.op ≠ .panic x)/\∀ c,o.op ≠ .defer c) (H:uO P C Q o a h K) :
  opD P C (fun c h'=>Q (.panic c) a h') a.eval o.op o.type h fun v h'=>K (a.put o.dst v) h':=by
 unfold uO at H
 split at H
 ·rename_i x ho; exact absurd ho (hf.1 x)
 ·rename_i c ho; exact absurd ho (hf.2 c)
 ·exact H
theorem ny.refl (ro:Option (Nat->Prop)) (h:Heap):ny ro h h:=by
 cases ro with
 | none=>exact gi.refl h
 | some R=>exact lZ.refl R h
theorem ny.trans {ro:Option (Nat->Prop)} {a b c:Heap} (h:ny ro a b) (k:ny ro b c):ny ro a c:=by
 cases ro with
 | none=>exact gi.trans h k
 | some R=>exact lZ.trans h k
theorem gi.rel {h h':Heap} (e:gi h h') (ro:Option (Nat->Prop)):ny ro h h':=by
 cases ro with
 | none=>exact e
 | some R=>exact e.keep R
def Jo:Option (Nat->Prop)->Nat->Prop
 | none=>fun _=>True
 | some R=>R
theorem ny.keep {ro:Option (Nat->Prop)} {h h':Heap} (e:ny ro h h'):lZ (Jo ro) h h':=by
 cases ro with
 | none=>exact gi.keep e _
 | some R=>exact e
theorem KB {ro:Option (Nat->Prop)} {o:Oper} {a:Act} {X:Prop} (H:NS ro o a X):Km (Jo ro) a.eval o.op/\X:=by
 cases ro with
 | none=>exact ⟨by unfold Km Jo; split <;> first | trivial | (split <;> trivial),H⟩
 | some R =>
  unfold NS at H
  simp only at H
  unfold Km Jo
  generalize o.op=op at H ⊢
  cases op <;> first | exact ⟨trivial,H⟩ | skip
  case load t x =>
   simp only at H ⊢
   generalize a.eval x=v at H ⊢
   cases v <;> first | exact ⟨trivial,H⟩ | skip
   case pointer q =>
    cases q with
    | none=>exact ⟨trivial,H⟩
    | some ad=>exact H
theorem F1 (hC:CallOK P C) {ro:Option (Nat->Prop)} {i:Nat} {o:Oper} {a:Act} {h:Heap} {k:Act->Heap->Prop} (hi:ops[i]? = some o) (hf:qN o.op=true) (H:LC P C Q ops ro i a h k) :
  ∃ v,k (a.put o.dst v) h/\YieldsIf P ops (fun w=>ny ro h w.heap) o v a/\(BK o.op=false->Yields P ops o v a):=by
 unfold LC at H
 rw [hi] at H
 rcases tf H with ⟨hw,H⟩ | ⟨hw,H⟩
 ·obtain ⟨v,hv,hd⟩:=Qu hf (Jf (Ez hf) H)
  obtain ⟨hb,hv⟩:=KB hv
  have run:∀ w:World,(BK o.op=true->ny ro h w.heap)->(execOp a.eval o).run P w = .ok (.value v) w:=fun w he=>by
   have h1:=Hh (qt:=true) hC (o:=o) (fun _=>hf) (hd (Jo ro) (fun _=>hb) w.heap (fun v' _=>v'=v) (fun e=>(he e).keep) rfl)
   obtain ⟨n,w',hr,hk,hw',hn⟩:=Ci _ h1 (w:=w) rfl
   rw [hw' rfl] at hr
   rw [hr]
   cases n <;> simp only [uW] at hn
   ·rw [hn]
   ·cases hn.1
   ·cases hn.1
  exact ⟨v,hv, .inl ⟨hw,fun w he=>run w fun _=>he⟩,fun hl => .inl ⟨hw,fun w=>run w fun e=>by rw [hl] at e; cases e⟩⟩
 ·exact ⟨undef,H, .inr ⟨hw,rfl⟩,fun _ => .inr ⟨hw,rfl⟩⟩
theorem Bq (hC:CallOK P C) {w₀:World} {Fr:Act->Prop} {i:Nat} {a:Act} {w:World} {k:Act->Heap->Prop} {next:Act->World->Prop} (hk:keeps w₀ w) (H:y6 P C Q ops i a w.heap k)
  (hnext:∀ a' w',keeps w₀ w'->(∀ W,ops.toList.all (nM W)=true->jO W a a')->k a' w'.heap->next a' w'):wpOp P ops (jM w₀ Fr Q) i next a w:=by
 unfold y6 at H
 split at H
 ·exact H.elim
 ·rename_i o ho
  unfold wpOp
  simp only [ho]
  have hin:∀ W,ops.toList.all (nM W)=true->nM W o=true:=fun W hW=>List.all_eq_true.1 hW o (by
   have:=oQ ho
   simpa using this)
  rcases tf H with ⟨hw,H⟩ | ⟨hw,H⟩
  ·rw [if_pos hw]
   exact .inl (wU hC H (fun a' w' hk' hs h=>hnext a' w' (hk.trans hk') (fun W hW=>xL hs (hin W hW)) h) (fun c w' hk' h=>⟨hk.trans hk',h⟩))
  ·rw [if_neg (by rw [hw]; simp)]
   exact hnext _ w hk (fun W hW=>(jO.refl W a).put (hin W hW) undef) H
theorem Hk {i:Nat} {a:Act} {h:Heap} {k:Act->Heap->Prop} (hn:Nb ops i=true) (H:y6 P C Q ops i a h k):y6 P C Q ops i a h fun a' h'=>gi h h'/\k a' h':=by
 unfold Nb at hn
 split at hn
 ·rename_i o ho
  unfold y6 at H ⊢
  simp only [ho] at H ⊢
  have hstep:∀ a,uO P C Q o a h k->uO P C Q o a h fun a' h'=>gi h h'/\k a' h':=fun a H=>by
   have hnd:(∀ x,o.op ≠ .panic x)/\∀ c,o.op ≠ .defer c:=⟨fun x e=>(by rw [e] at hn; cases hn),fun c e=>(by rw [e] at hn; cases hn)⟩
   have h1:=Qt hn (Jf hnd H)
   unfold uO
   split
   ·rename_i x ho; exact absurd ho (hnd.1 x)
   ·rename_i c ho; exact absurd ho (hnd.2 c)
   ·exact h1
  unfold zC at H ⊢
  split at H
  ·exact hstep _ H
  ·rename_i j want hg
   split at H
   ·split at H
    ·rename_i b hb
     cases b
     ·cases want
      ·exact hstep _ H
      ·exact ⟨gi.refl h,H⟩
     ·cases want
      ·exact ⟨gi.refl h,H⟩
      ·exact hstep _ H
    ·exact ⟨gi.refl h,H⟩
   ·exact ⟨gi.refl h,H⟩
 ·cases hn
theorem JX (hC:CallOK P C) {ro:Option (Nat->Prop)} {w₀:World} {Fr:Act->Prop} {i:Nat} {a:Act} {w:World} {k:Act->Heap->Prop} {next:Act->World->Prop} (hk:keeps w₀ w) (H:goD P C Q ops ro i a w.heap k)
  (hnext:∀ a' w',keeps w₀ w'->(∀ W,ops.toList.all (nM W)=true->jO W a a')->ny ro w.heap w'.heap->k a' w'.heap->next a' w'):wpOp P ops (jM w₀ Fr Q) i next a w:=by
 unfold goD at H
 split at H
 ·rename_i hn; exact Bq hC hk (Hk hn H) fun a' w' h1 h2 h=>hnext a' w' h1 h2 (h.1.rel ro) h.2
 ·exact Bq hC hk H fun a' w' h1 h2 h=>hnext a' w' h1 h2 h.1 h.2
def lH (R:List Tmp) (Q:j6):Prop:=∀ c (a:Act) d v h,(∀ t∈R,d≠some t)->Q (.panic c) (a.put d v) h->Q (.panic c) a h
def Gq (R:List Tmp) (ops:Array Oper):Bool:=R.all fun t=>ops.toList.all fun o=>match o.dst with
 | some d=>!(Nat.beq d t)
 | none=>true
theorem Et {R:List Tmp} {i:Nat} {o:Oper} (h:Gq R ops=true) (ho:ops[i]? = some o):∀ t∈R,o.dst≠some t:=by
 intro t ht hd
 have h1:=List.all_eq_true.1 h t ht
 have h2:=List.all_eq_true.1 h1 o (by have:=oQ ho; simpa using this)
 rw [hd] at h2
 simp at h2
theorem Jv (ro:Option (Nat->Prop)) (hC:CallOK P C) {R:List Tmp} (hQp:lH R Q) (hR:Gq R ops=true) (w₀:World) (a₀:Act) (Fr:Act->Prop) (hs:Region.noSelect ops=true)
  (hF:∀ a',(∀ W,ops.toList.all (nM W)=true->jO W a₀ a')->Fr a') :
  ∀ (p:Plan) (n:Nat) (bars:List Nat) (listed:Array Bool) (a:Act) (w:World),mH .any ops listed->keeps w₀ w ->
   (∀ W,ops.toList.all (nM W)=true->jO W a₀ a)->FH P C Q ops ro p a w.heap (fun a' h'=>Q .normal a' h') ->
   (lh ops true bars n listed p=true->uF P .any ops (jM w₀ Fr Q) (fun i=>bars.contains i) (fun w'=>ny ro w.heap w'.heap) n listed a w) /\
   (∀ m n',n=n'+1->lh ops false bars n listed p=true->m∈zB p->m∈Region.ready .any ops listed ->
    wpOp P ops (jM w₀ Fr Q) m (fun a' w'=>(bars.contains m=true->wpAny P .any ops (jM w₀ Fr Q) n' (listed.setIfInBounds m true) a' w') /\
     (bars.contains m=false->ny ro w.heap w'.heap/\uF P .any ops (jM w₀ Fr Q) (fun i=>bars.contains i) (fun w'=>ny ro w.heap w'.heap) n' (listed.setIfInBounds m true) a' w')) a w):=by
 have hsel:=Region.noSelect_spec hs
 have hQ':∀ (i:Nat) (o:Oper),ops[i]? = some o->∀ (v:Value) c a w,jM w₀ Fr Q (.panic c) (a.put o.dst v) w->jM w₀ Fr Q (.panic c) a w:=fun i o ho v c a w h=>⟨h.1,hQp c a o.dst v _ (Et hR ho) h.2⟩
 intro p
 induction p with
 | done =>
  intro n bars listed a w hcl hk hag H
  refine ⟨fun hok=>?_,fun m n' _ _ hm=>by cases hm⟩
  have hr:Region.ready .any ops listed=[]:=by
   have:(xP ops listed).isEmpty=true:=by cases n <;> exact hok
   simpa [xP] using this
  cases n with
  | zero=>exact ⟨hr,hk,hF a hag,H⟩
  | succ n=>exact ⟨fun _=>⟨hk,hF a hag,H⟩,by rw [hr]; simp⟩
 | take i p ih =>
  intro n bars listed a w hcl hk hag H
  refine ⟨fun hok=>?_,fun m n' _ _ hm=>by cases hm⟩
  cases n with
  | zero=>cases hok
  | succ n =>
   simp only [lh,gH] at hok
   obtain ⟨⟨_,ht⟩,hok⟩:=hok
   unfold KT at ht
   cases ho:ops[i]? with
   | none=>rw [ho] at ht; cases ht
   | some o =>
    rw [ho] at ht
    simp only [gH,jN,List.contains_eq_mem,decide_eq_true_eq,decide_eq_false_iff_not,lO] at ht
    obtain ⟨⟨⟨⟨hf,hr⟩,hfree⟩,hbi⟩,hload⟩:=ht
    obtain ⟨v,hv,hy,hyp⟩:=F1 hC ho hf H
    have hbi':(fun i=>bars.contains i) i=false:=by simpa using hbi
    have hin:∀ W,ops.toList.all (nM W)=true->jO W a₀ (a.put o.dst v):=fun W hW=>(hag W hW).put (List.all_eq_true.1 hW o (by
     have:=oQ ho
     simpa using this)) v
    have hrec:=(ih n bars (listed.setIfInBounds i true) (a.put o.dst v) w (hcl.set hr) hk hin hv).1 hok
    cases hl:BK o.op with
    | false =>
     refine Ck (fun a'=>Yields P ops o v a') ho (fun a' w' _ hy' K hK=>hy'.wpOp ho hK)
      (fun j oj hj hap K a' w' hy' hh=>wpOp_put hj hap (fun cs b=>hsel i o cs b ho) (fun cs b=>hsel j oj cs b hj) (hQ' i o ho v) hy' hh)
      (fun j listed' fuel a' w' _ _ _ hri hfr hy' hh=>wpAny_first ho hsel (hQ' i o ho v) fuel _ a' w' hfr hri hy' hh)
      n listed a w hcl (Region.free_spec ho hfree) hr hbi' (hyp hl) (ny.refl ro _) hrec
    | true =>
     refine Ck (fun a'=>YieldsIf P ops (fun w'=>ny ro w.heap w'.heap) o v a') ho (fun a' w' hS hy' K hK=>hy'.wpOp ho hS hK)
      (fun j oj hj hap K a' w' hy' hh=>wpOp_putIf hj hap (fun cs b=>hsel i o cs b ho) (fun cs b=>hsel j oj cs b hj) (hQ' i o ho v) hy' hh)
      (fun j listed' fuel a' w' hb hcl' hrj hri _ _ _=>by
       rcases hload with h | h
       ·rw [hl] at h; cases h
       ·have hd:=HI (List.all_eq_true.1 h j (by simpa using hb))
        have h1:=hcl'.ready hd hrj
        have h2:=(mem_ready.1 hri).1
        have hji:j≠i:=fun e=>by subst e; exact hbi (by simpa using hb)
        rw [getD_set_ne true hji] at h2
        rcases gI i listed'.size with h' | h'
        ·simp [h'] at h1 h2; rw [h1] at h2; cases h2
        ·simp [kL h'] at h1)
      n listed a w hcl (Region.free_spec ho hfree) hr hbi' hy (ny.refl ro _) hrec
 | keep p ih =>
  intro n bars listed a w hcl hk hag H
  exact H.elim
 | go i p ih =>
  intro n bars listed a w hcl hk hag H
  have one:∀ n',lh ops true bars n' (listed.setIfInBounds i true) p=true->bars.contains i=false->i∈Region.ready .any ops listed ->
    wpOp P ops (jM w₀ Fr Q) i (fun a' w'=>(bars.contains i=true->wpAny P .any ops (jM w₀ Fr Q) n' (listed.setIfInBounds i true) a' w') /\
     (bars.contains i=false->ny ro w.heap w'.heap/\uF P .any ops (jM w₀ Fr Q) (fun i=>bars.contains i) (fun w'=>ny ro w.heap w'.heap) n' (listed.setIfInBounds i true) a' w')) a w:=fun n' hok hbi hr=>by
   refine JX hC hk H fun a' w' hk' hin he h=>⟨fun hb=>(by rw [hbi] at hb; cases hb),fun _=>⟨he,?_⟩⟩
   exact y3 (fun w'' hw=>he.trans hw) n' _ a' w' ((ih n' bars _ a' w' (hcl.set hr) hk' (fun W hW=>(hag W hW).trans (hin W hW)) h).1 hok)
  refine ⟨fun hok=>?_,fun m n' hn hok hm hr=>?_⟩
  ·cases n with
   | zero=>cases hok
   | succ n =>
    simp only [lh,gH,lO,decide_eq_true_eq,jN] at hok
    obtain ⟨⟨hr,hbi⟩,hok⟩:=hok
    have hr':Region.ready .any ops listed=[i]:=by
     rcases hr with h | h
     ·cases h
     ·exact h
    refine ⟨fun h=>(by rw [hr'] at h; cases h),fun j hj=>?_⟩
    rw [hr'] at hj
    obtain rfl:=List.mem_singleton.1 hj
    exact one n hok hbi (by rw [hr']; simp)
  ·subst hn
   simp only [lh,gH,lO,decide_eq_true_eq,jN] at hok
   obtain ⟨⟨_,hbi⟩,hok⟩:=hok
   obtain rfl:m=i:=List.mem_singleton.1 hm
   exact one n' hok hbi hr
 | alt i p q ihp ihq =>
  intro n bars listed a w hcl hk hag H
  have one:∀ n',lh ops true bars n' (listed.setIfInBounds i true) p=true->bars.contains i=false->i∈Region.ready .any ops listed ->
    wpOp P ops (jM w₀ Fr Q) i (fun a' w'=>(bars.contains i=true->wpAny P .any ops (jM w₀ Fr Q) n' (listed.setIfInBounds i true) a' w') /\
     (bars.contains i=false->ny ro w.heap w'.heap/\uF P .any ops (jM w₀ Fr Q) (fun i=>bars.contains i) (fun w'=>ny ro w.heap w'.heap) n' (listed.setIfInBounds i true) a' w')) a w:=fun n' hok hbi hr=>by
   refine JX hC hk H.1 fun a' w' hk' hin he h=>⟨fun hb=>(by rw [hbi] at hb; cases hb),fun _=>⟨he,?_⟩⟩
   exact y3 (fun w'' hw=>he.trans hw) n' _ a' w' ((ihp n' bars _ a' w' (hcl.set hr) hk' (fun W hW=>(hag W hW).trans (hin W hW)) h).1 hok)
  have both:∀ m n',lh ops false bars (n'+1) listed q=true->lh ops true bars n' (listed.setIfInBounds i true) p=true->bars.contains i=false->m∈i::zB q->m∈Region.ready .any ops listed ->
    wpOp P ops (jM w₀ Fr Q) m (fun a' w'=>(bars.contains m=true->wpAny P .any ops (jM w₀ Fr Q) n' (listed.setIfInBounds m true) a' w') /\
     (bars.contains m=false->ny ro w.heap w'.heap/\uF P .any ops (jM w₀ Fr Q) (fun i=>bars.contains i) (fun w'=>ny ro w.heap w'.heap) n' (listed.setIfInBounds m true) a' w')) a w:=fun m n' hq hp hbi hm hr=>by
   rcases List.mem_cons.1 hm with rfl | hm
   ·exact one n' hp hbi hr
   ·exact (ihq (n'+1) bars listed a w hcl hk hag H.2).2 m n' rfl hq hm hr
  refine ⟨fun hok=>?_,fun m n' hn hok hm hr=>?_⟩
  ·cases n with
   | zero=>cases hok
   | succ n =>
    simp only [lh,gH,lO,decide_eq_true_eq,jN] at hok
    obtain ⟨⟨⟨hr,hbi⟩,hok1⟩,hok2⟩:=hok
    have hr':Region.ready .any ops listed=i::zB q:=by
     rcases hr with h | h
     ·cases h
     ·exact h
    refine ⟨fun h=>(by rw [hr'] at h; cases h),fun j hj=>?_⟩
    exact both j n hok2 hok1 hbi (by rw [hr'] at hj; exact hj) hj
  ·subst hn
   simp only [lh,gH,lO,decide_eq_true_eq,jN] at hok
   obtain ⟨⟨⟨_,hbi⟩,hok1⟩,hok2⟩:=hok
   exact both m n' hok2 hok1 hbi hm hr
 | bar i bars' p ih =>
  intro n bars listed a w hcl hk hag H
  refine ⟨fun hok=>?_,fun m n' _ _ hm=>by cases hm⟩
  cases n with
  | zero=>cases hok
  | succ n =>
   simp only [lh,gH,decide_eq_true_eq] at hok
   obtain ⟨⟨⟨_,hr⟩,hbi⟩,hok⟩:=hok
   have hr':Region.ready .any ops listed=[i]:=hr
   refine ⟨fun h=>(by rw [hr'] at h; cases h),fun j hj=>?_⟩
   rw [hr'] at hj
   obtain rfl:=List.mem_singleton.1 hj
   refine Bq hC hk H fun a' w' hk' hin h=>⟨fun _=>?_,fun hb=>(by have hb:bars.contains j=false:=hb; rw [hbi] at hb; cases hb)⟩
   exact Bo n _ a' w' ((ih n bars' _ a' w' (hcl.set (by rw [hr']; simp)) hk' (fun W hW=>(hag W hW).trans (hin W hW)) h).1 hok)
end
abbrev nP:=List (Nat × CT)
structure Hints where
 plan:Nat->Option (List Nat × Plan):=fun _=>none
 loop:Nat->Option (nP × Nat):=fun _=>none
 join:Nat->Option (nP × Nat):=fun _=>none
 keep:List Tmp:=[]
def xV:Code->Option Nat
 | .region id _ _=>some id
 | .seq a b=>match xV a with
  | some i=>some i
  | none=>xV b
 | .cond _ a b=>match xV a with
  | some i=>some i
  | none=>xV b
 | .block _ c=>xV c
 | .loop c=>xV c
 | .scope c=>xV c
 | _=>none
def okW (W:Nat):Code->Bool
 | .skip=>true
 | .exit _=>true
 | .label _=>true
 | .goto _=>true
 | .ret=>true
 | .region _ ops _=>ops.toList.all (nM W)
 | .seq a b=>okW W a && okW W b
 | .cond _ a b=>okW W a && okW W b
 | .block _ c=>okW W c
 | .loop c=>okW W c
 | .scope c=>okW W c
 | _=>false
def SN:IntKind->IntKind->Bool
 | .i8, .i8=>true | .i16, .i16=>true | .i32, .i32=>true | .i64, .i64=>true
 | .u8, .u8=>true | .u16, .u16=>true | .u32, .u32=>true | .u64, .u64=>true
 | _,_=>false
def So:CT->Value->Bool
 | .int k,.int k' _=>SN k k'
 | .bool,.bool _=>true
 | .ptr,.pointer _=>true
 | .slc,.slice _ _ _=>true
 | .str, .string _=>true
 | .any,_=>true
 | _,_=>false
def Fc:nP->List Value->Bool
 | [],[]=>true
 | (_,t)::ts,v::vs=>match So t v with
  | true=>Fc ts vs
  | false=>false
 | _,_=>false
def Q5:CT->(Value->Prop)->Prop
 | .int k,p=>∀ x:Int,p (.int k x)
 | .bool,p=>∀ b:Bool,p (.bool b)
 | .ptr,p=>∀ q:Option Addr,p (.pointer q)
 | .slc,p=>∀ (q:Option Addr) (n c:Nat),p (.slice q n c)
 | .str,p=>∀ s:ByteArray,p (.string s)
 | .any,p=>∀ v:Value,p v
def Mx:nP->(List Value->Prop)->Prop
 | [],p=>p []
 | (_,t)::ts,p=>Q5 t fun v=>Mx ts fun vs=>p (v::vs)
theorem Nx {t:CT} {p:Value->Prop} (h:Q5 t p) {v:Value} (hv:So t v=true):p v:=by
 cases t <;> cases v <;> first
  | (cases hv; done)
  | exact h _
  | exact h _ _ _
  | (rename_i k k' x
     have:k=k':=by cases k <;> cases k' <;> first | rfl | cases hv
     subst this
     exact h _)
theorem vl:∀ {S:nP} {p:List Value->Prop},Mx S p->∀ {vs:List Value},Fc S vs=true->p vs
 | [],p,h,[],_=>h
 | [],_,_,_::_,hv=>by cases hv
 | _::_,_,_,[],hv=>by cases hv
 | (i,t)::S,p,h,v::vs,hv=>by
  unfold Fc at hv
  split at hv
  ·rename_i ht
   exact vl (Nx h ht) hv
  ·cases hv
def qE (S:nP) (a:Act):List Value:=match S with
 | []=>[]
 | (i,_)::S=>a.tmps.getD i undef::qE S a
def JH (i:Nat):nP->List Value->Option Value
 | (j,_)::S,v::vs=>match Nat.beq j i with
  | true=>some v
  | false=>JH i S vs
 | _,_=>none
def LY (S:nP) (vs:List Value) (W:Nat) (u:Nat->Value) (i:Nat) (v:Value):Value:=match JH i S vs with
 | some x=>x
 | none=>match W.testBit i with
  | true=>u i
  | false=>v
def Dt (S:nP) (vs:List Value) (W:Nat) (u:Nat->Value):Nat->List Value->List Value
 | _,[]=>[]
 | i,v::rest=>LY S vs W u i v::Dt S vs W u (i+1) rest
def patch (a:Act) (S:nP) (vs:List Value) (W:Nat) (u:Nat->Value):Act:={ a with tmps:=(Dt S vs W u 0 a.tmps.toList).toArray }
def FX (S:nP) (J:List Value->Heap->Prop) (a:Act) (h:Heap):Prop:=match Fc S (qE S a) with
 | true=>J (qE S a) h
 | false=>False
def JG (S:nP) (J:Nat->List Value->Heap->Prop) (n:Nat) (Q:j6):j6:=fun e a h=>match e with
 | .normal=>∃ m,m<n/\FX S (J m) a h
 | e=>Q e a h
def JN (S:nP) (K:List Value->Heap->Prop) (Q:j6):j6:=fun e a h=>match e with
 | .normal=>FX S K a h
 | e=>Q e a h
def Ip (next:Act->Heap->Prop) (Q:j6):j6:=fun e a h=>match e with
 | .normal=>next a h
 | e=>Q e a h
def Ab (id:Nat) (Q:j6):j6:=fun e a h=>match e with
 | .exit id'=>(match Nat.beq id' id with
  | true=>Q .normal a h
  | false=>Q (.exit id') a h)
 | e=>Q e a h
def ET (Q:j6):j6:=fun e a h=>match e with
 | .goto _=>False
 | e=>Q e a h
def inS (W:Nat):nP->Bool
 | []=>true
 | (i,_)::S=>match W.testBit i with
  | true=>inS W S
  | false=>false
def Rh (S:nP) (W:Nat) (D:j6->Act->Heap->Prop) (Q:j6) (a:Act) (h:Heap):Prop :=
 ∃ J:Nat->List Value->Heap->Prop,(∃ n,FX S (J n) a h)/\∀ (n:Nat) (h':Heap) (u:Nat->Value),Mx S fun vs=>J n vs h'->D (JG S J n Q) (patch a S vs W u) h'
def Rj (S:nP) (W:Nat) (D D':j6->Act->Heap->Prop) (Q:j6) (a:Act) (h:Heap):Prop :=
 ∃ K:List Value->Heap->Prop,D (JN S K Q) a h/\∀ (h':Heap) (u:Nat->Value),Mx S fun vs=>K vs h'->D' Q (patch a S vs W u) h'
def IJ (f:Nat->Option (nP × Nat)) (c:Code):Option (nP × Nat):=match xV c with
 | some i=>f i
 | none=>none
def den (P:Program) (C:gl) (H:Hints):Code->j6->Act->Heap->Prop
 | .skip,Q,a,h=>Q .normal a h
 | .region id ops draw,Q,a,h=>(match draw with
  | false=>Jl P C Q ops ops.toList a h fun a' h'=>Q .normal a' h'
  | true=>(match H.plan id with
   | some (bars,p)=>(match AJ ops bars (Fj p) && Gq H.keep ops with
    | true=>OR (fun ro p=>FH P C Q ops ro p a h fun a' h'=>Q .normal a' h') p
    | false=>False)
   | none=>False))
 | .seq x y,Q,a,h=>(match IJ H.join y with
  | none=>den P C H x (Ip (fun a' h'=>den P C H y Q a' h') Q) a h
  | some (S,W)=>(match okW W x && inS W S with
   | true=>Rj S W (fun Q' a' h'=>den P C H x Q' a' h') (fun Q' a' h'=>den P C H y Q' a' h') Q a h
   | false=>False))
 | .cond c x y,Q,a,h=>(match a.eval c with
  | .bool b=>fI b (den P C H x Q a h) (den P C H y Q a h)
  | _=>False)
 | .block id c,Q,a,h=>den P C H c (Ab id Q) a h
 | .loop c,Q,a,h=>(match IJ H.loop c with
  | none=>False
  | some (S,W)=>(match okW W c && inS W S with
   | true=>Rh S W (fun Q' a' h'=>den P C H c Q' a' h') Q a h
   | false=>False))
 | .exit id,Q,a,h=>Q (.exit id) a h
 | .scope c,Q,a,h=>den P C H c (ET Q) a h
 | .label _,Q,a,h=>Q .normal a h
 | .goto l,Q,a,h=>Q (.goto l) a h
 | .ret,Q,a,h=>Q .ret a h
 | .rangeFunc _ _ _ _,_,_,_=>False
 | .refuse _,_,_,_=>False
section
variable {P:Program} {C:gl} {H:Hints}
theorem FP {a:Act} {i:Nat} {x:Value}:∀ {S:nP},JH i S (qE S a)=some x->x=a.tmps.getD i undef
 | [],h=>by cases h
 | (j,t)::S,h=>by
  unfold qE JH at h
  split at h
  ·rename_i hb
   have:=iS hb
   subst this
   exact (ig h).symm
  ·exact FP h
theorem FJ (S:nP) (vs:List Value) (W:Nat) (u:Nat->Value):∀ (l:List Value) (k i:Nat),(Dt S vs W u k l)[i]? = (l[i]?).map (LY S vs W u (k+i))
 | [],k,i=>by simp [Dt]
 | v::l,k,0=>by simp [Dt]
 | v::l,k,i+1=>by
  simp only [Dt,mb]
  rw [FJ S vs W u l (k+1) i]
  congr 2
  omega
theorem M8 (a:Act) (S:nP) (vs:List Value) (W:Nat) (u:Nat->Value) (i:Nat):(patch a S vs W u).tmps[i]? = (a.tmps[i]?).map (LY S vs W u i):=by
 unfold patch
 simp only [oP]
 rw [FJ]
 simp
theorem rY {a a':Act} {S:nP} {W:Nat} (h:jO W a a'):a'=patch a S (qE S a') W (fun i=>a'.tmps.getD i undef):=by
 have ht:a'.tmps=(patch a S (qE S a') W (fun i=>a'.tmps.getD i undef)).tmps:=by
  apply Array.ext_getElem?
  intro i
  rw [M8]
  cases hv:a.tmps[i]? with
  | none =>
   have:a.tmps.size<=i:=Array.getElem?_eq_none_iff.1 hv
   simp only [Option.map_none]
   exact kL (by rw [h.2.1]; exact this)
  | some v =>
   have hlt:i<a'.tmps.size:=by rw [h.2.1]; exact (Array.getElem?_eq_some_iff.1 hv).1
   simp only [Option.map_some]
   unfold LY
   cases hl:JH i S (qE S a') with
   | some x =>
    have:=FP hl
    simp [hlt,this]
   | none =>
    cases hw:W.testBit i with
    | true=>simp [hlt]
    | false =>
     have:=h.2.2 i hw
     rw [this,hv]
 cases a' with
 | mk t d =>
  simp only at ht
  unfold patch at ht ⊢
  simp only [Act.mk.injEq]
  exact ⟨ht,h.1⟩
theorem qw {S:nP} {J:List Value->Heap->Prop} {a:Act} {h:Heap} (hh:FX S J a h):Fc S (qE S a)=true/\J (qE S a) h:=by
 unfold FX at hh
 split at hh
 ·rename_i ht; exact ⟨ht,hh⟩
 ·exact hh.elim
theorem least {p:Nat->Prop} (h:∃ n,p n):∃ n,p n/\∀ m,p m->n<=m:=by
 obtain ⟨n,hn⟩:=h
 induction n using Nat.strongRecOn with
 | _ n ih =>
  by_cases hm:∃ m,m<n/\p m
  ·obtain ⟨m,hlt,hp⟩:=hm
   exact ih m hlt hp
  ·exact ⟨n,hn,fun m hp=>Nat.le_of_not_lt fun hlt=>hm ⟨m,hlt,hp⟩⟩
theorem Ky {c:Code} {Q:Exit->Act->World->Prop} {a:Act} {w:World} (I:Nat->Act->World->Prop) (h₀:∃ n,I n a w)
  (round:∀ n a w,I n a w->c.wp P (Exit.then (fun a' w'=>∃ m,m<n/\I m a' w') Q) a w):(Code.loop c).wp P Q a w:=by
 classical
 let μ:Act->World->Nat:=fun a w=>if h:∃ n,I n a w then Classical.choose (least h) else 0
 refine wp_loop (fun a w=>∃ n,I n a w) μ h₀ fun a w hI=>?_
 have hs:=Classical.choose_spec (least hI)
 refine wp_mono (round _ a w hs.1) fun e a' w' h=>?_
 cases e with
 | normal =>
  obtain ⟨m,hlt,hm⟩:=h
  refine ⟨⟨m,hm⟩,?_⟩
  have h1:μ a' w'=Classical.choose (least ⟨m,hm⟩):=dif_pos ⟨m,hm⟩
  have h2:μ a w=Classical.choose (least hI):=dif_pos hI
  rw [h1,h2]
  exact ir ((Classical.choose_spec (least ⟨m,hm⟩)).2 m hm) hlt
 | _=>exact h
def frC (c:Code) (a a':Act):Prop:=∀ W,okW W c=true->jO W a a'
def LW (w₀:World) (c:Code) (a:Act) (Q:j6):Exit->Act->World->Prop:=jM w₀ (frC c a) Q
theorem lH.Ip {R:List Tmp} {Q:j6} (h:lH R Q) (next:Act->Heap->Prop):lH R (Ip next Q):=fun c a d v hd hp hh=>h c a d v hd hp hh
theorem lH.JG {R:List Tmp} {Q:j6} (h:lH R Q) (S:nP) (J:Nat->List Value->Heap->Prop) (n:Nat):lH R (JG S J n Q):=fun c a d v hd hp hh=>h c a d v hd hp hh
theorem lH.JN {R:List Tmp} {Q:j6} (h:lH R Q) (S:nP) (K:List Value->Heap->Prop):lH R (JN S K Q):=fun c a d v hd hp hh=>h c a d v hd hp hh
theorem lH.Ab {R:List Tmp} {Q:j6} (h:lH R Q) (id:Nat):lH R (Ab id Q):=fun c a d v hd hp hh=>h c a d v hd hp hh
theorem lH.ET {R:List Tmp} {Q:j6} (h:lH R Q):lH R (ET Q):=fun c a d v hd hp hh=>h c a d v hd hp hh
theorem AI (hC:CallOK P C) (hm:P.follows .mixedOrders=true) (w₀:World):∀ (c:Code) (Q:j6) (a:Act) (w:World),keeps w₀ w->lH H.keep Q->den P C H c Q a w.heap ->
  c.wp P (LW w₀ c a Q) a w:=by
 intro c
 induction c with
 | skip=>intro Q a w hk hp h; exact wp_skip ⟨hk,fun W _=>jO.refl W a,h⟩
 | region id ops draw =>
  intro Q a w hk hp h
  cases draw with
  | false=>exact wp_region_list (BB hC w₀ _ ops.toList a w _ hk h (fun _ _ _ _ h=>h) (fun a' hf W hW=>hf W hW))
  | true =>
   simp only [den] at h
   split at h
   ·rename_i bars p hpl
    split at h
    ·rename_i hc
     simp only [AJ,OA,gH] at hc
     obtain ⟨hc,hav⟩:=hc
     refine wp_region_any hm ?_
     obtain ⟨ro,h⟩:=FQ h
     exact Bo _ _ _ _ ((Jv ro hC hp hav w₀ a _ hc.1 (fun a' hf W hW=>hf W hW) (Fj p) _ bars _ a { w with drawn:=w.drawn+1 } (mH.start _) ⟨hk.1,hk.2.1,hk.2.2⟩ (fun W _=>jO.refl W a) h).1 hc.2)
    ·exact h.elim
   ·exact h.elim
 | seq x y ihx ihy =>
  intro Q a w hk hp h
  have hseq:∀ a1 w1,frC x a a1->keeps w₀ w1->den P C H y Q a1 w1.heap->y.wp P (LW w₀ (.seq x y) a Q) a1 w1:=fun a1 w1 hf hk1 h1=>by
   refine wp_mono (ihy Q a1 w1 hk1 hp h1) fun e a' w' h2=>?_
   have hfr:frC y a1 a'->frC (.seq x y) a a':=fun hf2 W hW=>by
    simp only [okW,gH] at hW
    exact (hf W hW.1).trans (hf2 W hW.2)
   cases e <;> first | exact h2 | exact ⟨h2.1,hfr h2.2.1,h2.2.2⟩
  have hfx:∀ a',frC x a a'->frC (.seq x y) a a':=fun a' hf W hW=>by
   simp only [okW,gH] at hW
   exact hf W hW.1
  simp only [den] at h
  split at h
  ·refine wp_seq (wp_mono (ihx _ a w hk (hp.Ip _) h) fun e a1 w1 h1=>?_)
   cases e with
   | normal=>exact hseq a1 w1 h1.2.1 h1.1 h1.2.2
   | panic c=>exact h1
   | outgrown=>exact h1
   | exit id=>exact ⟨h1.1,hfx _ h1.2.1,h1.2.2⟩
   | goto l=>exact ⟨h1.1,hfx _ h1.2.1,h1.2.2⟩
   | ret=>exact ⟨h1.1,hfx _ h1.2.1,h1.2.2⟩
  ·rename_i S W hj
   split at h
   ·rename_i hok
    simp only [gH] at hok
    obtain ⟨K,h1,h2⟩:=h
    refine wp_seq (wp_mono (ihx _ a w hk (hp.JN S K) h1) fun e a1 w1 h1=>?_)
    cases e with
    | normal =>
     obtain ⟨ht,hK⟩:=qw h1.2.2
     have h3:=vl (h2 w1.heap (fun i=>a1.tmps.getD i undef)) ht hK
     rw [<- rY (h1.2.1 W hok.1)] at h3
     exact hseq a1 w1 h1.2.1 h1.1 h3
    | panic c=>exact h1
    | outgrown=>exact h1
    | exit id=>exact ⟨h1.1,hfx _ h1.2.1,h1.2.2⟩
    | goto l=>exact ⟨h1.1,hfx _ h1.2.1,h1.2.2⟩
    | ret=>exact ⟨h1.1,hfx _ h1.2.1,h1.2.2⟩
   ·exact h.elim
 | cond c x y ihx ihy =>
  intro Q a w hk hp h
  simp only [den] at h
  split at h
  ·rename_i b hb
   unfold fI at h
   cases b with
   | true =>
    refine wp_cond_true hb (wp_mono (ihx Q a w hk hp h) fun e a' w' h2=>?_)
    have hfr:frC x a a'->frC (.cond c x y) a a':=fun hf W hW=>by
     simp only [okW,gH] at hW
     exact hf W hW.1
    cases e <;> first | exact h2 | exact ⟨h2.1,hfr h2.2.1,h2.2.2⟩
   | false =>
    refine wp_cond_false hb (wp_mono (ihy Q a w hk hp h) fun e a' w' h2=>?_)
    have hfr:frC y a a'->frC (.cond c x y) a a':=fun hf W hW=>by
     simp only [okW,gH] at hW
     exact hf W hW.2
    cases e <;> first | exact h2 | exact ⟨h2.1,hfr h2.2.1,h2.2.2⟩
  ·exact h.elim
 | block id c ih =>
  intro Q a w hk hp h
  refine wp_block (wp_mono (ih _ a w hk (hp.Ab id) h) fun e a' w' h2=>?_)
  cases e with
  | exit id' =>
   obtain ⟨h1,h3,h4⟩:=h2
   simp only [Ab] at h4
   simp only [Exit.inBlock]
   split at h4
   ·rename_i hb
    rw [if_pos (iS hb)]
    exact ⟨h1,h3,h4⟩
   ·rename_i hb
    rw [if_neg (fun e=>by subst e; rw [Nat.beq_refl] at hb; cases hb)]
    exact ⟨h1,h3,h4⟩
  | normal=>exact h2
  | goto l=>exact h2
  | ret=>exact h2
  | panic c=>exact h2
  | outgrown=>exact h2
 | loop c ih =>
  intro Q a w hk hp h
  simp only [den] at h
  split at h
  ·exact h.elim
  ·rename_i S W hj
   split at h
   ·rename_i hok
    simp only [gH] at hok
    obtain ⟨J,⟨n,h0⟩,hround⟩:=h
    obtain ⟨ht,hJ⟩:=qw h0
    refine Ky (fun n a' w'=>keeps w₀ w'/\frC c a a'/\∃ vs u,Fc S vs=true/\a'=patch a S vs W u/\J n vs w'.heap)
     ⟨n,hk,fun W' _=>jO.refl W' a,qE S a,(fun i=>a.tmps.getD i undef),ht,rY (jO.refl W a),hJ⟩ ?_
    rintro n a' w' ⟨hk',hf',vs,u,htv,rfl,hJn⟩
    have h1:=vl (hround n w'.heap u) htv hJn
    refine wp_mono (ih _ _ w' hk' (hp.JG S J n) h1) fun e a'' w'' h2=>?_
    have hfr:frC c (patch a S vs W u) a''->frC c a a'':=fun hf2 W' hW=>(hf' W' hW).trans (hf2 W' hW)
    cases e with
    | normal =>
     obtain ⟨h3,h4,m,hlt,h5⟩:=h2
     obtain ⟨ht2,hJ2⟩:=qw h5
     exact ⟨m,hlt,h3,hfr h4,qE S a'',(fun i=>a''.tmps.getD i undef),ht2,rY (hfr h4 W hok.1),hJ2⟩
    | panic c=>exact h2
    | outgrown=>exact h2
    | exit id=>exact ⟨h2.1,hfr h2.2.1,h2.2.2⟩
    | goto l=>exact ⟨h2.1,hfr h2.2.1,h2.2.2⟩
    | ret=>exact ⟨h2.1,hfr h2.2.1,h2.2.2⟩
   ·exact h.elim
 | rangeFunc f ps x y=>intro Q a w hk hp h; exact h.elim
 | exit id=>intro Q a w hk hp h; exact wp_exit ⟨hk,fun W _=>jO.refl W a,h⟩
 | scope c ih =>
  intro Q a w hk hp h
  refine wp_scope_straight (wp_mono (ih _ a w hk hp.ET h) fun e a' w' h2=>?_)
  cases e with
  | goto l=>exact h2.2.2.elim
  | normal=>exact h2
  | exit id=>exact h2
  | ret=>exact h2
  | panic c=>exact h2
  | outgrown=>exact h2
 | label l=>intro Q a w hk hp h; exact wp_label ⟨hk,fun W _=>jO.refl W a,h⟩
 | goto l=>intro Q a w hk hp h; exact wp_goto ⟨hk,fun W _=>jO.refl W a,h⟩
 | ret=>intro Q a w hk hp h; exact wp_ret ⟨hk,fun W _=>jO.refl W a,h⟩
 | refuse why=>intro Q a w hk hp h; exact h.elim
end
def kW (P:Program):gl:=fun f args h K Kp =>
 (∃ fn,P.funcs[f]? = some fn/\(fn.name == "runtime.NumGoroutine")=false/\fn.body.isNone=false) /\
 ∀ w:World,w.heap=h->Calls P f args w fun e w'=>keeps w w'/\match e with
  | .returned v=>K v w'.heap
  | .panicked c=>Kp c w'.heap
  | .outgrown=>False
theorem sd (P:Program):CallOK P (kW P) where
 mono:=fun h hk hp=>⟨h.1,fun w hw=>(h.2 w hw).mono fun e w' he=>⟨he.1,by
  cases e with
  | returned v=>exact hk _ _ he.2
  | panicked c=>exact hp _ _ he.2
  | outgrown=>exact he.2⟩⟩
 enter:=fun h=>h.1
 calls:=fun h w hw=>h.2 w hw
def tz (P:Program) (a:Act) (h:Heap):List ResultVar->(List Value->Prop)->Prop
 | [],K=>K []
 | .tmp t::rs,K=>tz P a h rs fun vs=>K (a.tmps.getD t undef::vs)
 | .cell t ty::rs,K=>(match a.tmps.getD t undef with
  | .pointer (some ad)=>Bh P ty h ad fun v=>tz P a h rs fun vs=>K (v::vs)
  | _=>False)
def AM:List Value->Value
 | [v]=>v
 | vs => .tuple vs.toArray
def fnQ (P:Program) (rs:List ResultVar) (K:VK) (Kp:PK):j6:=fun e a h=>match e with
 | .normal=>(match a.defers with
  | []=>tz P a h rs fun vs=>K (AM vs) h
  | _::_=>False)
 | .ret=>(match a.defers with
  | []=>tz P a h rs fun vs=>K (AM vs) h
  | _::_=>False)
 | .panic c=>(match a.defers with
  | []=>Kp c h
  | _::_=>False)
 | _=>False
section
variable {P:Program}
theorem put_defers (a:Act) (d:Option Tmp) (v:Value):(a.put d v).defers=a.defers:=by cases d <;> rfl
theorem Dz (rs:List ResultVar) (K:VK) (Kp:PK) (R:List Tmp):lH R (fnQ P rs K Kp):=fun c a d v h _ hh=>by
 simp only [fnQ,put_defers] at hh ⊢
 exact hh
theorem BC {a:Act} {h:Heap}:∀ {rs:List ResultVar} {K:List Value->Heap->Prop},(tz P a h rs fun vs=>K vs h) ->
  wpS P true (rs.mapM fun r=>match r with | .tmp t=>pure (a.tmps.getD t undef) | .cell p t=>do loadVar t (<- asAddr (a.tmps.getD p undef))) h K
 | [],K,H=>by simp only [List.mapM_nil,ie]; exact H
 | .tmp t::rs,K,H=>by
  simp only [List.mapM_cons]
  rw [fQ,ie,fQ]
  refine BC (rs:=rs) (K:=fun vs h'=>wpS P true (pure (a.tmps.getD t undef::vs)) h' K) ?_
  exact H
 | .cell t ty::rs,K,H=>by
  unfold tz at H
  split at H
  ·rename_i ad had
   simp only [List.mapM_cons]
   rw [fQ,had,fQ]
   show wpS P true (loadVar ty ad) h _
   refine Em ?_
   obtain ⟨v,hv,hd⟩:=AD H
   refine hd (fun _=>True) trivial h _ (lZ.refl _ h) ?_
   rw [fQ]
   refine BC (rs:=rs) (K:=fun vs h'=>wpS P true (pure (v::vs)) h' K) ?_
   exact hv
  ·exact H.elim
theorem np {fn:Func} {a:Act} {w:World} {K:VK} (H:tz P a w.heap fn.results.toList fun vs=>K (AM vs) w.heap) :
  ∃ v,(results fn a.tmps).run P w = .ok v w/\K v w.heap:=by
 have h1:wpS P true (results fn a.tmps) w.heap fun v h'=>K v w.heap:=by
  unfold results
  rw [fQ,Array.mapM_eq_mapM_toList]
  have hmap:∀ (s:Sem (List Value)) (K':Array Value->Heap->Prop),wpS P true (List.toArray <$> s) w.heap K'=wpS P true s w.heap fun l h'=>K' l.toArray h':=fun s K'=>by
   show wpS P true (s.bind (fun a=>pure a.toArray)) w.heap K'=_
   exact fQ s _ w.heap K'
  rw [hmap]
  refine BC (K:=fun vs h'=>wpS P true (pure (if h:vs.toArray.size=1 then vs.toArray[0] else .tuple vs.toArray)) h' fun v _=>K v w.heap) ?_
  have conv:∀ vs:List Value,K (AM vs) w.heap->K (if h:vs.toArray.size=1 then vs.toArray[0] else .tuple vs.toArray) w.heap:=fun vs hk=>by
   match vs,hk with
   | [],hk=>exact hk
   | [v],hk=>exact hk
   | v::u::vs,hk=>simpa [AM] using hk
  have mono:∀ (rs:List ResultVar) (K1 K2:List Value->Prop),tz P a w.heap rs K1->(∀ vs,K1 vs->K2 vs)->tz P a w.heap rs K2:=by
   intro rs
   induction rs with
   | nil=>intro K1 K2 h m; exact m _ h
   | cons r rs ih =>
    intro K1 K2 h m
    cases r with
    | tmp t=>exact ih _ _ h fun vs hk=>m _ hk
    | cell t ty =>
     simp only [tz] at h ⊢
     split at h
     ·obtain ⟨v,hv,hd⟩:=AD h
      exact hd (fun _=>True) trivial _ _ (lZ.refl _ _) (ih _ _ hv fun vs hk=>m _ hk)
     ·exact h.elim
  exact mono _ _ _ H fun vs hk=>conv vs hk
 obtain ⟨v,w',hr,_,hw,hk⟩:=Ci _ h1 (w:=w) rfl
 rw [hw rfl] at hr
 exact ⟨v,hr,hk⟩
def fnD (P:Program) (C:gl) (H:Hints) (fn:Func) (args:List Value) (h:Heap) (K:VK) (Kp:PK):Prop :=
 match fn.body with
 | some c=>den P C H c (fnQ P fn.results.toList K Kp) ⟨(args++List.replicate (fn.ntmps-args.length) undef).toArray,[]⟩ h
 | none=>False
theorem Lm {f:FuncId} {fn:Func} {args:List Value} {h:Heap} {K:VK} {Kp:PK} (Hn:Hints) (hm:P.follows .mixedOrders=true)
  (hf:P.funcs[f]? = some fn) (hn:(fn.name == "runtime.NumGoroutine")=false) (H:fnD P (kW P) Hn fn args h K Kp):kW P f args.toArray h K Kp:=by
 unfold fnD at H
 split at H
 ·rename_i c hb
  refine ⟨⟨fn,hf,hn,by rw [hb]; rfl⟩,fun w hw=>?_⟩
  subst hw
  refine calls_of_wp hf hb ?_
  have hact:(⟨args.toArray++Array.replicate (fn.ntmps-args.toArray.size) undef,[]⟩:Act)=⟨(args++List.replicate (fn.ntmps-args.length) undef).toArray,[]⟩:=by
   congr 1
   apply Array.toList_inj.1
   simp
  rw [hact]
  refine wp_mono (AI (sd P) hm w c _ _ w (keeps.refl w) (Dz _ K Kp _) H) fun e a w' he=>?_
  cases e with
  | normal =>
   obtain ⟨h1,_,h3⟩:=he
   simp only [fnQ] at h3
   split at h3
   ·rename_i hd
    obtain ⟨v,hr,hk⟩:=np h3
    exact ⟨hd,v,hr,h1,hk⟩
   ·exact h3.elim
  | ret =>
   obtain ⟨h1,_,h3⟩:=he
   simp only [fnQ] at h3
   split at h3
   ·rename_i hd
    obtain ⟨v,hr,hk⟩:=np h3
    exact ⟨hd,v,hr,h1,hk⟩
   ·exact h3.elim
  | panic c =>
   obtain ⟨h1,h3⟩:=he
   simp only [fnQ] at h3
   split at h3
   ·rename_i hd
    exact ⟨hd,h1,h3⟩
   ·exact h3.elim
  | outgrown=>exact he.elim
  | exit id=>exact he.2.2.elim
  | goto l=>exact he.2.2.elim
 ·exact H.elim
theorem fJ {f:FuncId} {fn:Func} {args:List Value} {h:Heap} {K:VK} {Kp:PK} (Hn:Hints) (hm:P.follows .mixedOrders=true)
  (hf:P.funcs[f]? = some fn) (hn:(fn.name == "runtime.NumGoroutine")=false) (X:gl->Prop) (e:∀ C:gl,fnD P C Hn fn args h K Kp=X C) (H:X (kW P)):kW P f args.toArray h K Kp:=Lm Hn hm hf hn (by rw [e]; exact H)
end
def fG (x:Int) (K:Int->Prop):Prop:=K x
theorem fw {x:Int} {K:Int->Prop} (y:Int) (e:x=y) (h:K y):fG x K:=by subst e; exact h
theorem nU {x:Int} {K:Int->Prop} (h:∀ y,y=x->K y):fG x K:=h x rfl
def gE (h:Heap) (cs:List Value) (t:TypeId) (K:Nat->Heap->Prop):Prop:=K h.size (h.push (.cells cs.toArray t))
def En (h:Heap) (a:Addr) (n:Nat) (K:List Value->Prop):Prop:=∃ cs:List Value,FD h a n cs/\K cs
theorem fz {h:Heap} {a:Addr} {k:IntKind} {x:Int} {K:Int->Prop} (hc:ic h a=some (.int k x)) (H:K x):ldI h a k K:=⟨x,hc,H⟩
theorem gT {h:Heap} {a:Addr} {x:Bool} {K:Bool->Prop} (hc:ic h a=some (.bool x)) (H:K x):ldB h a K:=⟨x,hc,H⟩
theorem ja {h:Heap} {a:Addr} {q:Option Addr} {K:Option Addr->Prop} (hc:ic h a=some (.pointer q)) (H:K q):ldP h a K:=⟨q,hc,H⟩
theorem fU {h:Heap} {a:Addr} {q:Option Addr} {n c:Nat} {K:Option Addr->Nat->Nat->Prop} (hc:ic h a=some (.slice q n c)) (H:K q n c):ldS h a K:=⟨q,n,c,hc,H⟩
theorem pj {h:Heap} {a:Addr} {s:ByteArray} {K:ByteArray->Prop} (hc:ic h a=some (.string s)) (H:K s):ldT h a K:=⟨s,hc,H⟩
theorem RU {h:Heap} {a:Addr} {v:Value} {K:Value->Prop} (hc:ic h a=some v) (H:K v):ldV h a K:=⟨v,hc,H⟩
theorem Rz {h:Heap} {a:Addr} {v u:Value} {K:Heap->Prop} (h1:v.oneCell'=true) (h2:ic h a=some u) (h3:vL h a=false) (H:K (zA h a v)):stV h a v K :=
 ⟨h1,by rw [h2]; rfl,h3,H⟩
theorem gN {b:Bool} {X Y:Prop} (h:b=true) (H:X):fI b X Y:=by subst h; exact H
theorem fZ {b:Bool} {X Y:Prop} (h:b=false) (H:Y):fI b X Y:=by subst h; exact H
theorem gC (b o n:Nat):(⟨b,o,none⟩:Addr).add n=⟨b,o+n,none⟩:=by
 unfold Addr.add
 split
 ·rename_i h; subst h; rfl
 ·rfl
def Blk (h:Heap) (b:Nat) (t:TypeId) (cs:List Value):Prop:=h[b]? = some (.cells cs.toArray t (0,0))
section
variable {h h':Heap} {b:Nat} {t:TypeId} {cs:List Value}
theorem Blk.lt (H:Blk h b t cs):b<h.size:=by
 rcases gI b h.size with hlt | hge
 ·exact hlt
 ·unfold Blk at H; rw [kL hge] at H; cases H
theorem Blk.cell (H:Blk h b t cs) (i:Nat):ic h ⟨b,i,none⟩=cs[i]?:=by
 unfold Blk at H; simp [ic,H]
theorem Blk.frozen (H:Blk h b t cs) (i:Nat):vL h ⟨b,i,none⟩=false:=by
 unfold Blk at H; simp [vL,H]
theorem Hr (h:Heap) (a:Addr) (v:Value):(zA h a v).size=h.size:=by simp [zA]
theorem Blk.set (H:Blk h b t cs) (i:Nat) (v:Value):Blk (zA h ⟨b,i,none⟩ v) b t (cs.set i v):=by
 unfold Blk at H ⊢
 simp [zA,Array.getElem?_modify,H]
theorem Mf (h:Heap) (a:Addr) (v:Value) {b:Nat} (hb:a.block≠b):(zA h a v)[b]? = h[b]?:=by
 simp [zA,Array.getElem?_modify,hb]
theorem Blk.push (H:Blk h b t cs) (o:Obj):Blk (h.push o) b t cs:=by
 have:=H.lt
 unfold Blk at H ⊢
 rw [yI this]
 rw [<- H]
 simp [this]
theorem Blk.new (h:Heap) (t:TypeId) (cs:List Value):Blk (h.push (.cells cs.toArray t)) h.size t cs:=by
 unfold Blk
 simp
end
def Fr (F:List Nat) (h h':Heap):Prop:=h.size<=h'.size/\∀ b,b<h.size->b ∉ F->h'[b]? = h[b]?
theorem Fr.refl (F:List Nat) (h:Heap):Fr F h h:=⟨gg _,fun _ _ _=>rfl⟩
structure Ent where
 b:Nat
 w:Bool
 t:TypeId
 cs:List Value
structure Hp (h0:Heap) (F:List Nat) (h:Heap) (L:List Ent):Prop where
 fr:Fr F h0 h
 bl:∀ (k:Nat) (e:Ent),L[k]? = some e->Blk h e.b e.t e.cs
 wr:∀ (k:Nat) (e:Ent),L[k]? = some e->e.w=true->e.b∈F\/h0.size<=e.b
 nd:∀ (k:Nat) (e:Ent) (k':Nat) (e':Ent),L[k]? = some e->L[k']? = some e'->e.b=e'.b->k=k'
section
variable {h0 h:Heap} {F:List Nat} {L:List Ent}
theorem Hp.nil (h:Heap) (F:List Nat):Hp h F h []:=⟨Fr.refl F h,fun k e he=>by simp at he,fun k e he=>by simp at he,fun k e k' e' he=>by simp at he⟩
theorem Hp.lt (H:Hp h0 F h L) {k:Nat} {e:Ent} (he:L[k]? = some e):e.b<h.size:=(H.bl k e he).lt
theorem Hp.cell (H:Hp h0 F h L) (k:Nat) {b:Nat} {w:Bool} {t:TypeId} {cs:List Value} {i:Nat} {v:Value} (he:L[k]? = some ⟨b,w,t,cs⟩) (hv:cs[i]? = some v):ic h ⟨b,i,none⟩=some v:=by
 rw [(H.bl k _ he).cell]; exact hv
theorem Hp.set (H:Hp h0 F h L) (k:Nat) {b:Nat} {t:TypeId} {cs:List Value} (he:L[k]? = some ⟨b,true,t,cs⟩) (i:Nat) (v:Value) :
  Hp h0 F (zA h ⟨b,i,none⟩ v) (L.set k ⟨b,true,t,cs.set i v⟩):=by
 have hk:k<L.length:=(List.getElem?_eq_some_iff.1 he).1
 have hget:∀ (j:Nat) (e:Ent),(L.set k ⟨b,true,t,cs.set i v⟩)[j]? = some e->(j=k/\e=⟨b,true,t,cs.set i v⟩)\/(j≠k/\L[j]? = some e):=fun j e hj=>by
  by_cases hjk:j=k
  ·subst hjk
   rw [iD hk] at hj
   exact .inl ⟨rfl,(ig hj).symm⟩
  ·rw [j3 (Ne.symm hjk)] at hj
   exact .inr ⟨hjk,hj⟩
 refine ⟨⟨by rw [Hr]; exact H.fr.1,fun b' hb' hF=>?_⟩,fun j e hj=>?_,fun j e hj hw=>?_,fun j e j' e' hj hj' hb=>?_⟩
 ·have hne:b≠b':=fun e=>by
   subst e
   rcases H.wr k _ he rfl with h1 | h1
   ·exact hF h1
   ·simp only at h1; omega
  rw [Mf h ⟨b,i,none⟩ v hne]
  exact H.fr.2 b' hb' hF
 ·rcases hget j e hj with ⟨rfl,rfl⟩ | ⟨hjk,hj'⟩
  ·exact (H.bl j _ he).set i v
  ·have hne:b≠e.b:=fun hb=>hjk (H.nd j e k _ hj' he hb.symm)
   unfold Blk
   rw [Mf h ⟨b,i,none⟩ v hne]
   exact H.bl j e hj'
 ·rcases hget j e hj with ⟨rfl,rfl⟩ | ⟨hjk,hj'⟩
  ·exact H.wr j ⟨b,true,t,cs⟩ he rfl
  ·exact H.wr j e hj' hw
 ·have key:∀ (j:Nat) (e:Ent),(L.set k ⟨b,true,t,cs.set i v⟩)[j]? = some e->∃ e',L[j]? = some e'/\e'.b=e.b:=fun j e hj=>by
   rcases hget j e hj with ⟨rfl,rfl⟩ | ⟨_,h2⟩
   ·exact ⟨_,he,rfl⟩
   ·exact ⟨e,h2,rfl⟩
  obtain ⟨e1,h1,h2⟩:=key j e hj
  obtain ⟨e3,h3,h4⟩:=key j' e' hj'
  exact H.nd j e1 j' e3 h1 h3 (by rw [h2,h4]; exact hb)
theorem Hp.new (H:Hp h0 F h L) (t:TypeId) (cs:List Value):Hp h0 F (h.push (.cells cs.toArray t)) (L++[⟨h.size,true,t,cs⟩]):=by
 have hget:∀ (j:Nat) (e:Ent),(L++[(⟨h.size,true,t,cs⟩:Ent)])[j]? = some e->(j<L.length/\L[j]? = some e)\/(j=L.length/\e=⟨h.size,true,t,cs⟩):=fun j e hj=>by
  rcases pN j L.length with hl | hl | hl
  ·rw [gk hl] at hj; exact .inl ⟨hl,hj⟩
  ·subst hl; simp at hj; exact .inr ⟨rfl,hj.symm⟩
  ·rw [iq (by simp; omega)] at hj; cases hj
 refine ⟨⟨by simp; exact Nat.le_succ_of_le H.fr.1,fun b' hb' hF=>?_⟩,fun j e hj=>?_,fun j e hj hw=>?_,fun j e j' e' hj hj' hb=>?_⟩
 ·have:b'<h.size:=iK hb' H.fr.1
  rw [yI this,<- H.fr.2 b' hb' hF]
  simp [this]
 ·rcases hget j e hj with ⟨_,h1⟩ | ⟨_,rfl⟩
  ·exact (H.bl j e h1).push _
  ·exact Blk.new h t cs
 ·rcases hget j e hj with ⟨_,h1⟩ | ⟨_,rfl⟩
  ·exact H.wr j e h1 hw
  ·exact .inr H.fr.1
 ·rcases hget j e hj with ⟨_,h1⟩ | ⟨h1,rfl⟩ <;> rcases hget j' e' hj' with ⟨_,h2⟩ | ⟨h2,rfl⟩
  ·exact H.nd j e j' e' h1 h2 hb
  ·have:=H.lt h1; simp only at hb; omega
  ·have:=H.lt h2; simp only at hb; omega
  ·omega
theorem Hp.take (H:Hp h0 F h L) (n:Nat):Hp h0 F h (L.take n):=by
 have hget:∀ (j:Nat) (e:Ent),(L.take n)[j]? = some e->L[j]? = some e:=fun j e hj=>by
  rw [List.getElem?_take] at hj
  split at hj
  ·exact hj
  ·cases hj
 exact ⟨H.fr,fun k e he=>H.bl k e (hget k e he),fun k e he=>H.wr k e (hget k e he),fun k e k' e' h1 h2=>H.nd k e k' e' (hget k e h1) (hget k' e' h2)⟩
theorem Hp.pick (H:Hp h0 F h L) (ix:List Nat) (hix:ix.Nodup) {L':List Ent} (hL:ix.map (fun k=>L[k]?)=L'.map some):Hp h0 F h L':=by
 have hget:∀ (j:Nat) (e:Ent),L'[j]? = some e->∃ k,ix[j]? = some k/\L[k]? = some e:=fun j e hj=>by
  have h1:(L'.map some)[j]? = some (some e):=by rw [gL,hj]; rfl
  rw [<- hL,gL] at h1
  cases hk:ix[j]? with
  | none=>rw [hk] at h1; cases h1
  | some k=>rw [hk] at h1; exact ⟨k,rfl,ig h1⟩
 refine ⟨H.fr,fun j e he=>?_,fun j e he=>?_,fun j e j' e' h1 h2 hb=>?_⟩
 ·obtain ⟨k,_,h1⟩:=hget j e he; exact H.bl k e h1
 ·obtain ⟨k,_,h1⟩:=hget j e he; exact H.wr k e h1
 ·obtain ⟨k,h3,h4⟩:=hget j e h1
  obtain ⟨k',h5,h6⟩:=hget j' e' h2
  have:=H.nd k e k' e' h4 h6 hb
  subst this
  obtain ⟨hj,h7⟩:=List.getElem?_eq_some_iff.1 h3
  obtain ⟨hj',h8⟩:=List.getElem?_eq_some_iff.1 h5
  rcases pN j j' with hlt | he | hlt
  ·exact absurd (h7.trans h8.symm) (List.pairwise_iff_getElem.1 hix j j' hj hj' hlt)
  ·exact he
  ·exact absurd (h8.trans h7.symm) (List.pairwise_iff_getElem.1 hix j' j hj' hj hlt)
theorem Hp.replace (H:Hp h0 F h L) (k:Nat) (hk:k<L.length) (t:TypeId) (cs:List Value):Hp h0 F (h.push (.cells cs.toArray t)) (L.set k ⟨h.size,true,t,cs⟩):=by
 have H2:=H.new t cs
 have hget:∀ (j:Nat) (e:Ent),(L.set k ⟨h.size,true,t,cs⟩)[j]? = some e->(j=k/\e=⟨h.size,true,t,cs⟩)\/(j≠k/\L[j]? = some e):=fun j e hj=>by
  by_cases hjk:j=k
  ·subst hjk
   rw [iD hk] at hj
   exact .inl ⟨rfl,(ig hj).symm⟩
  ·rw [j3 (Ne.symm hjk)] at hj
   exact .inr ⟨hjk,hj⟩
 refine ⟨H2.fr,fun j e hj=>?_,fun j e hj hw=>?_,fun j e j' e' hj hj' hb=>?_⟩
 ·rcases hget j e hj with ⟨_,rfl⟩ | ⟨_,h1⟩
  ·exact Blk.new h t cs
  ·exact (H.bl j e h1).push _
 ·rcases hget j e hj with ⟨_,rfl⟩ | ⟨_,h1⟩
  ·exact .inr H.fr.1
  ·exact H.wr j e h1 hw
 ·rcases hget j e hj with ⟨h1,rfl⟩ | ⟨_,h1⟩ <;> rcases hget j' e' hj' with ⟨h2,rfl⟩ | ⟨_,h2⟩
  ·omega
  ·have:=H.lt h2; simp only at hb; omega
  ·have:=H.lt h1; simp only at hb; omega
  ·exact H.nd j e j' e' h1 h2 hb
end
section
variable {h0 h:Heap} {F:List Nat} {L:List Ent}
theorem gq (H:Hp h0 F h L) (k:Nat) {b:Nat} {t:TypeId} {cs:List Value} {i:Nat} {v:Value} {K:Heap->Prop} (he:L[k]? = some ⟨b,true,t,cs⟩) (hi:i<cs.length) (hv:v.oneCell'=true)
  (hk:∀ h',h'.size=h.size->Hp h0 F h' (L.set k ⟨b,true,t,cs.set i v⟩)->K h'):stV h ⟨b,i,none⟩ v K :=
 Rz (u:=cs[i]) hv (H.cell k he (fP hi)) ((H.bl k _ he).frozen i) (hk _ (Hr h _ v) (H.set k he i v))
theorem fV (H:Hp h0 F h L) {t:TypeId} {cs:List Value} {K:Nat->Heap->Prop} (hk:∀ r h',Hp h0 F h' (L++[⟨r,true,t,cs⟩])->K r h'):gE h cs t K:=hk _ _ (H.new t cs)
theorem At {b:Nat} {t:TypeId} {K:Heap->Prop} {o:Nat}:∀ {vs:List Value} {h:Heap} {L:List Ent} {cs:List Value} {k i:Nat},Hp h0 F h L->L[k]? = some ⟨b,true,t,cs⟩->o+i+vs.length<=cs.length->(∀ v∈vs,v.oneCell'=true) ->
  (∀ h',h'.size=h.size->Hp h0 F h' (L.set k ⟨b,true,t,cs.take (o+i)++vs++cs.drop (o+i+vs.length)⟩)->K h')->qH h ⟨b,o,none⟩ i vs K
 | [],h,L,cs,k,i,H,he,hl,hv,hk=>by
  refine hk h rfl ?_
  have:L.set k ⟨b,true,t,cs.take (o+i)++[]++cs.drop (o+i+0)⟩=L:=by
   rw [fT,gr,iT]
   apply pO
   intro j
   by_cases hj:k=j
   ·subst hj
    rw [iD (List.getElem?_eq_some_iff.1 he).1,he]
   ·rw [j3 hj]
  simp only [iZ]
  rw [this]
  exact H
 | v::vs,h,L,cs,k,i,H,he,hl,hv,hk=>by
  simp only [gp] at hl
  unfold qH
  rw [gC]
  have hlt:o+i<cs.length:=by omega
  refine gq H k he hlt (hv v (by simp)) fun h1 hs1 H1=>?_
  have hkl:k<L.length:=(List.getElem?_eq_some_iff.1 he).1
  refine At (vs:=vs) (k:=k) (i:=i+1) (cs:=cs.set (o+i) v) H1 (by rw [iD hkl]) (by simp; omega) (fun u hu=>hv u (by simp [hu])) fun h2 hs2 H2=>hk h2 (hs2.trans hs1) ?_
  have e1:(cs.set (o+i) v).take (o+(i+1))++vs++(cs.set (o+i) v).drop (o+(i+1)+vs.length)=cs.take (o+i)++(v::vs)++cs.drop (o+i+(v::vs).length):=by
   have h3:(cs.set (o+i) v).take (o+(i+1))=cs.take (o+i)++[v]:=by
    rw [show o+(i+1)=(o+i)+1 by omega,k6 (by simpa using hlt),List.take_set_of_le (gg _)]
    simp
   have h4:(cs.set (o+i) v).drop (o+(i+1)+vs.length)=cs.drop (o+i+(v::vs).length):=by
    rw [List.drop_set_of_lt (by omega)]
    congr 1
    simp only [gp]
    omega
   rw [h3,h4]
   simp
  rw [e1,List.set_set] at H2
  exact H2
theorem pf (H:Hp h0 F h L) (k:Nat) {b o n:Nat} {w:Bool} {t:TypeId} {cs:List Value} (he:L[k]? = some ⟨b,w,t,cs⟩) (hn:o+n<=cs.length):rdO h (some ⟨b,o,none⟩) n ((cs.drop o).take n):=by
 refine ⟨by simp; omega,fun j v hj=>?_⟩
 rw [gC]
 refine H.cell k he ?_
 rw [List.getElem?_take] at hj
 split at hj
 ·rw [kS] at hj; exact hj
 ·cases hj
theorem Ai (H:Hp h0 F h L) (k:Nat) {b:Nat} {t:TypeId} {xs rest:List Value} (he:L[k]? = some ⟨b,true,t,xs++rest⟩) {by_ n c m:Nat} {z:Value} (hn:n=xs.length) (hc:c=(xs++rest).length)
  {src:Option Addr} {new:List Value} (hr:rdO h src (m*1) new) (hm:new.length=m) (hnew:∀ v∈new,v.oneCell'=true) (hby:(n+m)*by_<=70368744177664)
  {K:Option Addr->Nat->Nat->Heap->Prop}
  (hk:∀ (b':Nat) (rest':List Value) h',Hp h0 F h' (L.set k ⟨b',true,t,(xs++new)++rest'⟩)->K (some ⟨b',0,none⟩) (n+m) ((xs++new)++rest').length h') :
  l4 h t 1 by_ [z] (some ⟨b,0,none⟩) n c src m K:=by
 refine ⟨new,hr,?_⟩
 have hkl:k<L.length:=(List.getElem?_eq_some_iff.1 he).1
 by_cases hroom:n+m<=c
 ·rw [if_pos hroom]
  simp only [fA] at hc
  show qH h ((⟨b,0,none⟩:Addr).add (n*1)) 0 new _
  rw [gC]
  have hoff:0+n*1+0=xs.length:=by omega
  refine At H he (by simp; omega) hnew fun h' hs H'=>?_
  have e1:(xs++rest).take (0+n*1+0)++new++(xs++rest).drop (0+n*1+0+new.length)=(xs++new)++rest.drop new.length:=by
   rw [hoff,List.take_left,List.drop_append,List.drop_eq_nil_of_le (by omega)]
   simp
  rw [e1] at H'
  have h2:=hk b (rest.drop new.length) h' H'
  have hc':c=((xs++new)++rest.drop new.length).length:=by simp; omega
  rw [hc']
  exact h2
 ·rw [if_neg hroom]
  refine ⟨iL hby (HS c),xs,?_,fun cap hcap=>?_⟩
  ·have h1:=pf H k (o:=0) (n:=n*1) he (by simp; omega)
   rw [vp,jr (by omega),gz (by omega)] at h1
   exact h1
  ·have h2:=hk h.size (l9 [z] (cap-(n+m))) _ (H.replace k hkl t _)
   have hl:((xs++new)++l9 [z] (cap-(n+m))).length=cap:=by
    simp only [fA,qp,gJ]
    omega
   rw [hl] at h2
   exact h2
end
theorem Hp.as {h0 h:Heap} {F:List Nat} {L L':List Ent} (H:Hp h0 F h L) (e:L=L'):Hp h0 F h L':=e ▸ H
def uS:List Ent->List Nat->List Ent->List Ent
 | L,[],B=>L++B
 | L,i::ix,b::B=>uS (L.set i b) ix B
 | _,_::_,[]=>[]
theorem KJ (L B:List Ent):uS L [] B=L++B:=by unfold uS; rfl
theorem uR:∀ (ix:List Nat) (L B:List Ent) (j:Nat) (e:Ent),ix.Nodup->(∀ i∈ix,i<L.length)->(uS L ix B)[j]? = some e ->
  (j<L.length/\j ∉ ix/\L[j]? = some e)\/∃ m,B[m]? = some e/\((m<ix.length/\ix[m]? = some j)\/(ix.length<=m/\j=L.length+(m-ix.length)))
 | [],L,B,j,e,_,_,h=>by
  unfold uS at h
  rcases gI j L.length with hl | hl
  ·rw [gk hl] at h
   exact .inl ⟨hl,by simp,h⟩
  ·rw [gM hl] at h
   exact .inr ⟨j-L.length,h, .inr ⟨by simp,by simp; omega⟩⟩
 | i::ix,L,b::B,j,e,hnd,hlt,h=>by
  unfold uS at h
  have hi:i<L.length:=hlt i (by simp)
  have hnd':=List.nodup_cons.1 hnd
  rcases uR ix (L.set i b) B j e hnd'.2 (fun k hk=>by rw [gB]; exact hlt k (by simp [hk])) h with ⟨h1,h2,h3⟩ | ⟨m,h1,h2⟩
  ·rw [gB] at h1
   by_cases hj:j=i
   ·subst hj
    rw [iD hi] at h3
    exact .inr ⟨0,h3, .inl ⟨by simp,by simp⟩⟩
   ·rw [j3 (Ne.symm hj)] at h3
    exact .inl ⟨h1,by simp [hj,h2],h3⟩
  ·refine .inr ⟨m+1,by simpa using h1,?_⟩
   rcases h2 with ⟨h3,h4⟩ | ⟨h3,h4⟩
   ·exact .inl ⟨by simp; omega,by simpa using h4⟩
   ·rw [gB] at h4
    exact .inr ⟨by simp; omega,by simp; omega⟩
 | _::_,_,[],j,e,_,_,h=>by simp [uS] at h
section
variable {h0 h h':Heap} {F:List Nat} {L A B:List Ent}
theorem RX {ix:List Nat} (hA:ix.map (fun k=>L[k]?)=A.map some) {j:Nat} {e:Ent} (hj:A[j]? = some e):∃ k,ix[j]? = some k/\L[k]? = some e:=by
 have h1:(A.map some)[j]? = some (some e):=by rw [gL,hj]; rfl
 rw [<- hA,gL] at h1
 cases hk:ix[j]? with
 | none=>rw [hk] at h1; cases h1
 | some k=>rw [hk] at h1; exact ⟨k,rfl,ig h1⟩
theorem Hp.JY (H:Hp h0 F h L) (ix:List Nat) (hnd:ix.Nodup) (hA:ix.map (fun k=>L[k]?)=A.map some):Hp h (A.map Ent.b) h A:=by
 have H1:=H.pick ix hnd hA
 refine ⟨Fr.refl _ _,H1.bl,fun k e he _ => .inl ?_,H1.nd⟩
 exact List.mem_map.2 ⟨e,fS he,rfl⟩
theorem Hp.back (H:Hp h0 F h L) (ix:List Nat) (hnd:ix.Nodup) (hA:ix.map (fun k=>L[k]?)=A.map some) (hw:A.all Ent.w=true) (H':Hp h (A.map Ent.b) h' B) (hB:B.all Ent.w=true) (hBl:ix.length<=B.length) :
  Hp h0 F h' (uS L ix B):=by
 have hAw:∀ e∈A,e.w=true:=List.all_eq_true.1 hw
 have hBw:∀ e∈B,e.w=true:=List.all_eq_true.1 hB
 have hixlt:∀ i∈ix,i<L.length:=fun i hi=>by
  obtain ⟨m,hm⟩:=pE hi
  have h1:(ix.map fun k=>L[k]?)[m]? = some L[i]?:=by rw [gL,hm]; rfl
  rw [hA,gL] at h1
  cases hk:A[m]? with
  | none=>rw [hk] at h1; cases h1
  | some e =>
   rw [hk] at h1
   exact (List.getElem?_eq_some_iff.1 (ig h1).symm).1
 have hmemA:∀ b∈A.map Ent.b,∃ k e,k∈ix/\L[k]? = some e/\e.b=b/\e.w=true:=fun b hb=>by
  obtain ⟨e,he,rfl⟩:=List.mem_map.1 hb
  obtain ⟨j,hj⟩:=pE he
  obtain ⟨k,hk1,hk2⟩:=RX hA hj
  exact ⟨k,e,fS hk1,hk2,rfl,hAw e he⟩
 have hown:∀ b∈A.map Ent.b,b∈F\/h0.size<=b:=fun b hb=>by
  obtain ⟨k,e,_,h2,rfl,h4⟩:=hmemA b hb
  exact H.wr k e h2 h4
 have hnot:∀ {j e},j ∉ ix->L[j]? = some e->e.b ∉ A.map Ent.b:=fun {j e} hj he hb=>by
  obtain ⟨k,e',h1,h2,h3,_⟩:=hmemA _ hb
  exact hj (H.nd k e' j e h2 he h3 ▸ h1)
 refine ⟨⟨iL H.fr.1 H'.fr.1,fun b hb hF=>?_⟩,fun j e he=>?_,fun j e he hwt=>?_,fun j e j' e' he he' hb=>?_⟩
 ·have hlt:b<h.size:=iK hb H.fr.1
  rw [H'.fr.2 b hlt (fun hm=>by
   rcases hown b hm with h1 | h1
   ·exact hF h1
   ·omega)]
  exact H.fr.2 b hb hF
 ·rcases uR ix L B j e hnd hixlt he with ⟨h1,h2,h3⟩ | ⟨m,h1,_⟩
  ·have:=H.bl j e h3
   unfold Blk at this ⊢
   rw [H'.fr.2 e.b (H.lt h3) (hnot h2 h3)]
   exact this
  ·exact H'.bl m e h1
 ·rcases uR ix L B j e hnd hixlt he with ⟨h1,h2,h3⟩ | ⟨m,h1,_⟩
  ·exact H.wr j e h3 hwt
  ·rcases H'.wr m e h1 hwt with h4 | h4
   ·exact hown _ h4
   ·exact .inr (iL H.fr.1 h4)
 ·rcases uR ix L B j e hnd hixlt he with ⟨h1,h2,h3⟩ | ⟨m,h1,h2⟩ <;> rcases uR ix L B j' e' hnd hixlt he' with ⟨g1,g2,g3⟩ | ⟨m',g1,g2⟩
  ·exact H.nd j e j' e' h3 g3 hb
  ·exfalso
   rcases H'.wr m' e' g1 (hBw e' (fS g1)) with h4 | h4
   ·exact hnot h2 h3 (hb ▸ h4)
   ·have:=H.lt h3; omega
  ·exfalso
   rcases H'.wr m e h1 (hBw e (fS h1)) with h4 | h4
   ·exact hnot g2 g3 (hb ▸ h4)
   ·have:=H.lt g3; omega
  ·have:=H'.nd m e m' e' h1 g1 hb
   subst this
   rcases h2 with ⟨h3,h4⟩ | ⟨h3,h4⟩ <;> rcases g2 with ⟨g3,g4⟩ | ⟨g3,g4⟩
   ·rw [h4] at g4; exact ig g4
   ·omega
   ·omega
   ·omega
theorem Hp.gi (H:Hp h [] h' L):gi h h':=⟨H.fr.1,fun b hb=>H.fr.2 b hb (by simp)⟩
theorem Fr.cell (H:Fr F h h') {a:Addr} (ha:a.block ∉ F) {v:Value} (hc:ic h a=some v):ic h' a=some v:=by
 have hlt:a.block<h.size:=by
  rcases gI a.block h.size with h1 | h1
  ·exact h1
  ·simp [ic,kL h1] at hc
 simp only [ic] at hc ⊢
 rw [H.2 _ hlt ha]
 exact hc
theorem Ny (a:Addr) (n:Nat):(a.add n).block=a.block:=by
 unfold Addr.add; split <;> rfl
theorem Fr.rdO (H:Fr F h h') {a:Option Addr} (ha:∀ x∈a,x.block ∉ F) {n:Nat} {vs:List Value} (hr:rdO h a n vs):rdO h' a n vs:=by
 cases a with
 | none=>exact hr
 | some a=>exact ⟨hr.1,fun j v hj=>H.cell (by rw [Ny]; exact ha a rfl) (hr.2 j v hj)⟩
theorem Hp.rdO (H:Hp h0 [] h L) {a:Option Addr} {n:Nat} {vs:List Value} (hr:rdO h0 a n vs):rdO h a n vs:=H.fr.rdO (fun _ _=>by simp) hr
end
theorem ga (a:Addr) (K:Addr->Prop):ptr (some a) K=K a:=rfl
theorem Hp.ext {h0 h h':Heap} {F:List Nat} {L:List Ent} (H:Hp h0 F h L) (e:Go.Den.gi h h'):Hp h0 F h' L :=
 ⟨⟨iL H.fr.1 e.1,fun b hb hF=>(e.2 b (iK hb H.fr.1)).trans (H.fr.2 b hb hF)⟩,
 fun k en hk=>by
  have h1:=H.bl k en hk
  unfold Blk at h1 ⊢
  rw [e.2 _ (H.lt hk)]
  exact h1,H.wr,H.nd⟩
theorem Hp.join {h0 h h':Heap} {F:List Nat} {L B:List Ent} (H:Hp h0 F h L) (H':Hp h [] h' B) (hB:B.all Ent.w=true):Hp h0 F h' (L++B) :=
 (H.back (A:=[]) [] List.nodup_nil rfl rfl H' hB (km _)).as (KJ L B)
theorem zx {h0 h:Heap} {F:List Nat} {L:List Ent} (H:Hp h0 F h L) (k:Nat) {b n:Nat} {w:Bool} {t:TypeId} {cs:List Value} {K:List Value->Prop} (he:L[k]? = some ⟨b,w,t,cs⟩) (hn:cs.length=n) (hk:K cs):En h ⟨b,0,none⟩ n K:=by
 refine ⟨cs,⟨hn,fun j v hj=>?_⟩,hk⟩
 rw [gC,fN]
 exact H.cell k he hj
theorem wV {h0 h:Heap} {F:List Nat} {L:List Ent} (H:Hp h0 F h L) (k:Nat) {b:Nat} {t:TypeId} {cs vs:List Value} {K:Heap->Prop} (he:L[k]? = some ⟨b,true,t,cs⟩) (hn:vs.length=cs.length) (hv:∀ v∈vs,v.oneCell'=true)
  (hk:∀ h',h'.size=h.size->Hp h0 F h' (L.set k ⟨b,true,t,vs⟩)->K h'):qH h ⟨b,0,none⟩ 0 vs K :=
 At H he (by omega) hv fun h' hs H'=>hk h' hs (by
  simp only [fN,nu,gd,hn,Bc,fT] at H'
  exact H')
theorem vk {h0 h:Heap} {F:List Nat} {L:List Ent} (H:Hp h0 F h L) {t:TypeId} {by_ m:Nat} {z:Value} {src:Option Addr} {new:List Value} (hr:rdO h src (m*1) new) (hm:new.length=m) (hm1:1<=m) (hby:m*by_<=140737488355328)
  {K:Option Addr->Nat->Nat->Heap->Prop} (hk:∀ (b':Nat) (rest':List Value) h',Go.Den.gi h h'->Hp h0 F h' (L++[⟨b',true,t,new++rest'⟩])->K (some ⟨b',0,none⟩) m (m+rest'.length) h') :
  l4 h t 1 by_ [z] none 0 0 src m K:=by
 refine ⟨new,hr,?_⟩
 rw [if_neg (by omega),fN]
 refine ⟨hby,[],rfl,fun cap hcap=>?_⟩
 have h2:=hk h.size (l9 [z] (cap-m)) _ (gi.push h _) (H.new t _)
 have hl:m+(l9 [z] (cap-m)).length=cap:=by
  simp only [qp,gJ]
  omega
 rw [hl] at h2
 exact h2
theorem HT {h0 h:Heap} {F:List Nat} {L:List Ent} (H:Hp h0 F h L) (k:Nat) {b:Nat} {t:TypeId} {xs rest:List Value} (he:L[k]? = some ⟨b,true,t,xs++rest⟩) {sz by_ n c m:Nat} {z:List Value} (hz:z.length=sz)
  (hn:xs.length=n*sz) (hc:(xs++rest).length=c*sz) {src:Option Addr} {new:List Value} (hr:rdO h src (m*sz) new) (hm:new.length=m*sz) (hnew:∀ v∈new,v.oneCell'=true) (hby:(n+m)*by_<=70368744177664)
  {K:Option Addr->Nat->Nat->Heap->Prop}
  (hk:∀ (b':Nat) (rest':List Value) (c':Nat) h',((xs++new)++rest').length=c'*sz->n+m<=c'->Hp h0 F h' (L.set k ⟨b',true,t,(xs++new)++rest'⟩)->K (some ⟨b',0,none⟩) (n+m) c' h') :
  l4 h t sz by_ z (some ⟨b,0,none⟩) n c src m K:=by
 refine ⟨new,hr,?_⟩
 have hkl:k<L.length:=(List.getElem?_eq_some_iff.1 he).1
 by_cases hroom:n+m<=c
 ·rw [if_pos hroom]
  have hmul:(n+m)*sz<=c*sz:=gD _ hroom
  rw [gZ] at hmul
  simp only [fA] at hc
  show qH h ((⟨b,0,none⟩:Addr).add (n*sz)) 0 new _
  rw [gC]
  have hoff:0+n*sz+0=xs.length:=by omega
  refine At H he (by simp; omega) hnew fun h' hs H'=>?_
  have e1:(xs++rest).take (0+n*sz+0)++new++(xs++rest).drop (0+n*sz+0+new.length)=(xs++new)++rest.drop new.length:=by
   rw [hoff,List.take_left,List.drop_append,List.drop_eq_nil_of_le (by omega)]
   simp
  rw [e1] at H'
  exact hk b (rest.drop new.length) c h' (by simp; omega) hroom H'
 ·rw [if_neg hroom]
  refine ⟨iL hby (HS c),xs,?_,fun cap hcap=>?_⟩
  ·have h1:=pf H k (o:=0) (n:=n*sz) he (by simp; omega)
   rw [vp,jr (by omega),gz (by omega)] at h1
   exact h1
  ·refine hk h.size (l9 z (cap-(n+m))) cap _ ?_ hcap (H.replace k hkl t _)
   simp only [fA,qp,hz,hn,hm]
   have:cap*sz=(n+m)*sz+(cap-(n+m))*sz:=by rw [<- gZ]; congr 1; omega
   rw [this,gZ]
theorem D6 {h0 h:Heap} {F:List Nat} {L:List Ent} (H:Hp h0 F h L) {t:TypeId} {sz by_ m:Nat} {z:List Value} (hz:z.length=sz) {src:Option Addr} {new:List Value} (hr:rdO h src (m*sz) new) (hm:new.length=m*sz) (hm1:1<=m) (hby:m*by_<=140737488355328)
  {K:Option Addr->Nat->Nat->Heap->Prop} (hk:∀ (b':Nat) (rest':List Value) (c':Nat) h',(new++rest').length=c'*sz->m<=c'->gi h h'->Hp h0 F h' (L++[⟨b',true,t,new++rest'⟩])->K (some ⟨b',0,none⟩) m c' h') :
  l4 h t sz by_ z none 0 0 src m K:=by
 refine ⟨new,hr,?_⟩
 rw [if_neg (by omega),fN]
 refine ⟨hby,[],by rw [kK]; rfl,fun cap hcap=>?_⟩
 refine hk h.size (l9 z (cap-m)) cap _ ?_ hcap (gi.push h _) (H.new t _)
 simp only [fA,qp,hz,hm]
 rw [<- gZ]; congr 1; omega
theorem Cu (z:Value):∀ n,l9 [z] n=List.replicate n z
 | 0=>rfl
 | n+1=>by rw [l9,Cu z n]; rfl
theorem gU {R T:List Value} {m:Nat} (hR:R.length=m) (j:Nat) {v:Value} (h:T[j]? = some v):(R++T)[m+j]? = some v:=by
 subst hR
 rw [gM (vr _ _),qA]
 exact h
theorem j1 {h0 h:Heap} {F:List Nat} {L:List Ent} (H:Hp h0 F h L) (k:Nat) {b:Nat} {t:TypeId} {R T:List Value} {m:Nat} (he:L[k]? = some ⟨b,true,t,R++T⟩) (hR:R.length=m) (j:Nat) {v:Value} {K:Heap->Prop}
  (hj:j<T.length) (hv:v.oneCell'=true) (hk:∀ h',h'.size=h.size->Hp h0 F h' (L.set k ⟨b,true,t,R++T.set j v⟩)->K h'):stV h ⟨b,m+j,none⟩ v K :=
 gq H k he (by simp; omega) hv fun h' hs H'=>hk h' hs (by
  have:(R++T).set (m+j) v=R++T.set j v:=by
   subst hR
   rw [jl _ _ (vr _ _),qA]
  rw [<- this]
  exact H')
theorem u8_in (n:Nat) (h:n<256):IntKind.u8.wrap (n:Int)=n:=by rw [IntKind.wrap_u8]; omega
theorem u32_in (n:Nat) (h:n<4294967296):IntKind.u32.wrap (n:Int)=n:=by rw [IntKind.wrap_u32]; omega
theorem xI (x:Int) (n:Nat) (e:x=n) (h:n<4294967296):IntKind.u32.wrap x=n:=by subst e; exact u32_in n h
theorem i64_in (x:Int) (h1:-9223372036854775808<=x) (h2:x<9223372036854775808):IntKind.i64.wrap x=x:=by rw [IntKind.wrap_i64]; omega
theorem fO (x y:Int) (e:x=y) (h1:-9223372036854775808<=y) (h2:y<9223372036854775808):IntKind.i64.wrap x=y:=by rw [e]; exact i64_in y h1 h2
theorem u64_in (x:Int) (h1:0<=x) (h2:x<18446744073709551616):IntKind.u64.wrap x=x:=by
 simp [IntKind.wrap,IntKind.bits,IntKind.signed]; omega
theorem zf (x y:Int) (e:x=y) (h1:0<=y) (h2:y<18446744073709551616):IntKind.u64.wrap x=y:=by rw [e]; exact u64_in y h1 h2
theorem QX {n j:Nat} (h:n<2 ^ j):((n:Nat):Int)<2 ^ j:=by exact_mod_cast h
theorem DZ (k:IntKind) (j:Nat) (hj:j<=k.bits) (hk:∀ n:Int,0<=n->n<2 ^ j->k.wrap n=n) (a b:Nat) (ha:a<2 ^ j) (hb:b<2 ^ j):jo .xor k a b=((a ^^^ b:Nat):Int):=by
 have hp:2 ^ j<=2 ^ k.bits:=im (by decide) hj
 have ha':a % 2 ^ k.bits=a:=jC (iK ha hp)
 have hb':b % 2 ^ k.bits=b:=jC (iK hb hp)
 simp only [jo,bits,BitVec.ofInt_natCast,BitVec.toNat_xor,BitVec.toNat_ofNat,ha',hb']
 exact hk _ (Int.natCast_nonneg _) (QX (Nat.xor_lt_two_pow ha hb))
theorem wr8 (n:Int) (h₀:0<=n) (h₁:n<2 ^ 8):IntKind.u8.wrap n=n:=by rw [IntKind.wrap_u8]; omega
theorem Sm (n:Int) (h₀:0<=n) (h₁:n<2 ^ 32):IntKind.u32.wrap n=n:=by rw [IntKind.wrap_u32]; omega
theorem NB (n:Int) (h₀:0<=n) (h₁:n<2 ^ 63):IntKind.i64.wrap n=n:=by rw [IntKind.wrap_i64]; omega
theorem PW (n:Int) (h₀:0<=n) (h₁:n<2 ^ 64):IntKind.u64.wrap n=n:=u64_in n h₀ (by omega)
theorem I1 (a b:Nat) (ha:a<256) (hb:b<256):jo .and .u8 a b=((a &&& b:Nat):Int):=(bits_nat .u8 8 (by decide) wr8 a b ha hb).1
theorem or8 (a b:Nat) (ha:a<256) (hb:b<256):jo .or .u8 a b=((a ||| b:Nat):Int):=(bits_nat .u8 8 (by decide) wr8 a b ha hb).2
theorem S9 (a b:Nat) (ha:a<256) (hb:b<256):jo .xor .u8 a b=((a ^^^ b:Nat):Int):=DZ .u8 8 (by decide) wr8 a b ha hb
theorem Rp (a b:Nat) (ha:a<4294967296) (hb:b<4294967296):jo .and .u32 a b=((a &&& b:Nat):Int):=(bits_nat .u32 32 (by decide) Sm a b ha hb).1
theorem Tc (a b:Nat) (ha:a<4294967296) (hb:b<4294967296):jo .or .u32 a b=((a ||| b:Nat):Int):=(bits_nat .u32 32 (by decide) Sm a b ha hb).2
theorem Mw (a b:Nat) (ha:a<9223372036854775808) (hb:b<9223372036854775808):jo .and .i64 a b=((a &&& b:Nat):Int):=(bits_nat .i64 63 (by decide) NB a b ha hb).1
theorem Q8 (a b:Nat) (ha:a<9223372036854775808) (hb:b<9223372036854775808):jo .xor .i64 a b=((a ^^^ b:Nat):Int):=DZ .i64 63 (by decide) NB a b ha hb
theorem Ku (a b:Nat) (ha:a<18446744073709551616) (hb:b<18446744073709551616):jo .and .u64 a b=((a &&& b:Nat):Int):=(bits_nat .u64 64 (by decide) PW a b ha hb).1
theorem Jz (a b:Nat) (ha:a<18446744073709551616) (hb:b<18446744073709551616):jo .or .u64 a b=((a ||| b:Nat):Int):=(bits_nat .u64 64 (by decide) PW a b ha hb).2
theorem E6 (x:Int):jo .and .i64 x 1=x % 2:=by
 have e:jo .and .i64 x 1=IntKind.i64.wrap (((BitVec.ofInt 64 x &&& BitVec.ofInt 64 1).toNat:Nat):Int):=rfl
 rw [e,BitVec.toNat_and,BitVec.toNat_ofInt,BitVec.toNat_ofInt]
 have e1:((1:Int) % ((2 ^ 64:Nat):Int)).toNat=1:=by decide
 rw [e1,kR,NB _ (by omega) (by omega)]
 omega
theorem lP {k:IntKind} {x i:Nat} (hi:i<=k.bits) {z:Int} (e:k.wrap ((x*2 ^ i:Nat):Int)=z):lT k (x:Int) (i:Int)=z:=by
 unfold lT
 rw [fD,Nat.min_eq_left hi,<- e]
 congr 1
theorem lG {k:IntKind} {x i:Nat} (hi:i<=k.bits):l8 k (x:Int) (i:Int)=((x / 2 ^ i:Nat):Int):=by
 unfold l8
 rw [fD,Nat.min_eq_left hi]
 have:((2:Int) ^ i)=((2 ^ i:Nat):Int):=by simp
 rw [this]
 exact (Int.ofNat_fdiv x (2 ^ i)).symm
theorem kM (a b:Nat):((a:Int).tmod (b:Int))=((a % b:Nat):Int):=(Int.ofNat_tmod a b).symm
theorem mL (a b:Nat):((a:Int).tdiv (b:Int))=((a / b:Nat):Int):=(Int.ofNat_tdiv a b).symm
section
variable {h0 h:Heap} {F:List Nat} {L L' A B D X Y Z:List Ent}
theorem Hp.pw (H:Hp h0 F h L):L.Pairwise fun a b=>a.b≠b.b:=by
 rw [List.pairwise_iff_getElem]
 intro i j hi hj hij he
 have:=H.nd i L[i] j L[j] (fP hi) (fP hj) he
 omega
theorem Hp.mk' (fr:Fr F h0 h) (bl:∀ e∈L,Blk h e.b e.t e.cs) (wr:∀ e∈L,e.w=true->e.b∈F\/h0.size<=e.b) (pw:L.Pairwise fun a b=>a.b≠b.b):Hp h0 F h L:=by
 refine ⟨fr,fun k e he=>bl e (fS he),fun k e he=>wr e (fS he),fun k e k' e' h1 h2 hb=>?_⟩
 obtain ⟨l1,e1⟩:=List.getElem?_eq_some_iff.1 h1
 obtain ⟨l2,e2⟩:=List.getElem?_eq_some_iff.1 h2
 subst e1 e2
 rcases pN k k' with hlt | he | hlt
 ·exact absurd hb (List.pairwise_iff_getElem.1 pw k k' l1 l2 hlt)
 ·exact he
 ·exact absurd hb.symm (List.pairwise_iff_getElem.1 pw k' k l2 l1 hlt)
theorem Hp.mem (H:Hp h0 F h L):∀ e∈L,Blk h e.b e.t e.cs:=fun e he=>by
 obtain ⟨k,hk⟩:=pE he
 exact H.bl k e hk
theorem Hp.GH (H:Hp h0 F h L):∀ e∈L,e.w=true->e.b∈F\/h0.size<=e.b:=fun e he=>by
 obtain ⟨k,hk⟩:=pE he
 exact H.wr k e hk
theorem Hp.perm (H:Hp h0 F h L) (p:L.Perm L'):Hp h0 F h L' :=
 Hp.mk' H.fr (fun e he=>H.mem e (p.mem_iff.2 he)) (fun e he=>H.GH e (p.mem_iff.2 he)) ((List.Perm.pairwise_iff (fun {a b} h=>Ne.symm h) p).1 H.pw)
theorem Hp.sub (H:Hp h0 F h L) (s:L'.Sublist L):Hp h0 F h L' :=
 Hp.mk' H.fr (fun e he=>H.mem e (s.mem he)) (fun e he=>H.GH e (s.mem he)) (H.pw.sublist s)
theorem Hp.pre (H:Hp h0 F h (X++Y)):Hp h0 F h X:=H.sub (List.sublist_append_left X Y)
theorem Hp.suf (H:Hp h0 F h (X++Y)):Hp h0 F h Y:=H.sub (List.sublist_append_right X Y)
theorem Hp.mid (H:Hp h0 F h (X++Y++Z)):Hp h0 F h (X++Z):=H.sub (List.Sublist.append (List.sublist_append_left X Y) (List.Sublist.refl Z))
theorem Hp.rot (H:Hp h0 F h (X++Y)):Hp h0 F h (Y++X):=H.perm jB
theorem Hp.swap (H:Hp h0 F h (X++Y++Z)):Hp h0 F h (X++Z++Y):=H.perm (by
 rw [fC,fC]
 exact tu X jB)
theorem Hp.asc (H:Hp h0 F h (X++Y++Z)):Hp h0 F h (X++(Y++Z)):=H.as (fC X Y Z)
theorem Hp.Lr (H:Hp h0 F h (X++(Y++Z))):Hp h0 F h (X++Y++Z):=H.as (fC X Y Z).symm
def N4:List Ent->List Nat->List Ent->List Ent
 | L,[],_=>L
 | L,i::ix,b::B=>N4 (L.set i b) ix B
 | L,_::_,[]=>L
theorem Ec:∀ (ix:List Nat) (L B:List Ent),B.length=ix.length->uS L ix B=N4 L ix B
 | [],L,B,h=>by
  have:B=[]:=List.length_eq_zero_iff.1 h
  subst this
  unfold uS N4
  exact fT L
 | i::ix,L,[],h=>by cases h
 | i::ix,L,b::B,h=>by
  unfold uS N4
  exact Ec ix _ B (by simpa using h)
theorem Hp.put {h':Heap} (H:Hp h0 F h L) (ix:List Nat) (hnd:ix.Nodup) (hA:ix.map (fun k=>L[k]?)=A.map some) (hw:A.all Ent.w=true) (H':Hp h (A.map Ent.b) h' B) (hB:B.all Ent.w=true) (hBl:B.length=ix.length) :
  Hp h0 F h' (N4 L ix B):=(H.back ix hnd hA hw H' hB (by omega)).as (Ec ix L B hBl)
theorem Hp.n9 (H:Hp h0 F h L) {b n:Nat} {w:Bool} {t:TypeId} {cs rest:List Value} (he:(⟨b,w,t,cs++rest⟩:Ent)∈L) (hn:cs.length=n):Go.Den.rdO h (some ⟨b,0,none⟩) n cs:=by
 obtain ⟨k,hk⟩:=pE he
 have h1:=pf H k (o:=0) (n:=n) hk (by simp; omega)
 rw [vp,jr (by omega),gz (by omega)] at h1
 exact h1
def Slot (t:TypeId) (sz:Nat) (D:List Ent) (q:Option Addr) (n c:Nat) (xs:List Value):Prop :=
 xs.length=n*sz/\((D=[]/\q=none/\n=0/\c=0)\/∃ b rest,D=[⟨b,true,t,xs++rest⟩]/\q=some ⟨b,0,none⟩/\(xs++rest).length=c*sz)
theorem Slot.nil (t:TypeId) (sz:Nat):Slot t sz [] none 0 0 []:=⟨by simp, .inl ⟨rfl,rfl,rfl,rfl⟩⟩
theorem Slot.one {t:TypeId} {sz b n c:Nat} {xs rest:List Value} (h1:xs.length=n*sz) (h2:(xs++rest).length=c*sz):Slot t sz [⟨b,true,t,xs++rest⟩] (some ⟨b,0,none⟩) n c xs:=⟨h1, .inr ⟨b,rest,rfl,rfl,h2⟩⟩
theorem Slot.w {t:TypeId} {sz n c:Nat} {q:Option Addr} {xs:List Value} (hd:Slot t sz D q n c xs):D.all Ent.w=true:=by
 rcases hd.2 with ⟨rfl,_⟩ | ⟨b,rest,rfl,_⟩ <;> rfl
theorem Slot.cell {t:TypeId} {sz n c i:Nat} {q:Option Addr} {xs:List Value} {v:Value} (hd:Slot t sz D q n c xs) (H:Hp h0 F h (A++(D++B))) (hv:xs[i]? = some v):∃ b,q=some ⟨b,0,none⟩/\ic h ⟨b,i,none⟩=some v:=by
 obtain ⟨hl,⟨rfl,rfl,rfl,rfl⟩ | ⟨b,rest,rfl,rfl,hc⟩⟩:=hd
 ·have:=(List.getElem?_eq_some_iff.1 hv).1; omega
 ·exact ⟨b,rfl,H.cell A.length (by rw [gM (gg _),iH]; rfl) (by rw [gk (List.getElem?_eq_some_iff.1 hv).1]; exact hv)⟩
theorem Slot.app {t:TypeId} {sz by_ n c m:Nat} {q:Option Addr} {xs z:List Value} (hd:Slot t sz D q n c xs) (H:Hp h0 F h (A++(D++B))) (hz:z.length=sz) {src:Option Addr} {new:List Value} (hr:Go.Den.rdO h src (m*sz) new) (hm:new.length=m*sz)
  (hnew:∀ v∈new,v.oneCell'=true) (hm1:1<=m) (hby:(n+m)*by_<=70368744177664)
  {K:Option Addr->Nat->Nat->Heap->Prop} (hk:∀ (D':List Ent) (q':Option Addr) (c':Nat) h',Slot t sz D' q' (n+m) c' (xs++new)->Hp h0 F h' (A++(D'++B))->K q' (n+m) c' h'):l4 h t sz by_ z q n c src m K:=by
 obtain ⟨hl,⟨rfl,rfl,rfl,rfl⟩ | ⟨b,rest,rfl,rfl,hc⟩⟩:=hd
 ·rw [kK] at hl
  have hx:xs=[]:=List.length_eq_zero_iff.1 hl
  subst hx
  refine D6 H hz hr hm hm1 (by rw [fN] at hby; omega) fun b' rest' c' h' h1 h2 he H'=>?_
  have:=hk [⟨b',true,t,new++rest'⟩] (some ⟨b',0,none⟩) c' h' (by
   have:=Slot.one (t:=t) (b:=b') (n:=0+m) (c:=c') (xs:=new) (rest:=rest') (by rw [fN]; exact hm) h1
   exact this) (H'.perm (by
    rw [gd,fC]
    exact tu A jB))
  rw [fN] at this
  exact this
 ·refine HT H A.length (by rw [gM (gg _),iH]; rfl) hz hl hc hr hm hnew hby fun b' rest' c' h' h1 h2 H'=>?_
  refine hk [⟨b',true,t,(xs++new)++rest'⟩] _ c' h' (Slot.one (by rw [fA,hl,hm,<- gZ]) h1) (H'.as ?_)
  rw [jl _ _ (gg _),iH]
  rfl
end
def WD (P:Program) (h:Heap):Nat->TypeId->List Value->Prop
 | 0,_,_=>False
 | f+1,t,cs=>match P.underlying t with
  | some .bool=>∃ b,cs=[.bool b]
  | some (.int k)=>∃ n,cs=[.int k n]/\k.min<=n/\n<=k.max
  | some .string=>∃ s:ByteArray,cs=[.string s]/\s.size<=reachBytes
  | some (.slice e)=>cs=[.slice none 0 0]\/∃ a len cap,cs=[.slice (some a) len cap]/\len<=cap/\cap*P.bytesOf e<=reachBytes/\∀ i,i<len->∃ cs',FD h (a.add (i*P.cellsOf e)) (P.cellsOf e) cs'/\WD P h f e cs'
  | some (.struct fs)=>cs.length=P.cellsOf t/\∀ (i:Nat) (fd:Field),fs[i]? = some fd->WD P h f fd.type ((cs.drop fd.offset).take (P.cellsOf fd.type))
  | some (.array n e)=>cs.length=P.cellsOf t/\∀ i,i<n->WD P h f e ((cs.drop (i*P.cellsOf e)).take (P.cellsOf e))
  | _=>True
section
variable {H:Type} {enc:TypeId × Value->H} {P:Program} {w:World} {base:Nat} {held:Bool}
theorem uG {e:TypeId}:∀ {l:List (DataW H)} {d:DataW H},d∈l->∀ n∈d.weights P e,n∈DataW.weightsAll P e l
 | x::l,d,h,n,hn=>by
  simp only [DataW.weightsAll,List.mem_append]
  rcases List.mem_cons.1 h with rfl | h
  ·exact .inl hn
  ·exact .inr (uG h n hn)
theorem Oj {a:Addr} {n:Nat} {cs:List Value} (h:w.cells? base a n=some cs):FD w.heap a n cs:=by
 obtain ⟨_,hl,hc⟩:=World.cells?_some h
 refine ⟨hl,fun j v hj=>?_⟩
 have:=hc j (by have:=(List.getElem?_eq_some_iff.1 hj).1; omega)
 rw [hj] at this
 exact this
theorem RQ {k:IntKind} {n:Int} (h:(Lit.int k n).wf=true):k.min<=n/\n<=k.max:=by
 simpa [Lit.wf] using h
theorem LF:∀ {fuel:Nat} {t:TypeId} {cs:List Value} {x:DataW H × List MemPlace},DataW.trod enc P w base (fun _=>true) held fuel t cs=some x->(∀ n∈x.1.weights P t,n<=reachBytes)->WD P w.heap fuel t cs
 | 0,t,cs,x,h,_=>by simp [DataW.trod] at h
 | fuel+1,t,cs,x,h,hz=>by
  unfold WD
  split
  ·rename_i ht
   obtain ⟨b,hb,_⟩:=DataW.trod_bool ht h
   exact ⟨b,hb⟩
  ·rename_i k ht
   obtain ⟨n,hn,_,hw⟩:=DataW.trod_int ht h
   exact ⟨n,hn,RQ hw⟩
  ·rename_i ht
   obtain ⟨s,hs,hx,_⟩:=DataW.trod_string ht h
   refine ⟨s,hs,?_⟩
   subst hx
   have:=hz s.data.toList.length (by simp [DataW.weights])
   simpa using this
  ·rename_i e ht
   rcases DataW.trod_slice ht h with ⟨h0,_⟩ | ⟨a,len,cap,elems,rest,n,hn,hcs,hx,_,hl,hm,hlen,hel,hsp,_⟩
   ·exact .inl h0
   ·obtain rfl:fuel=n:=by omega
    subst hx
    obtain ⟨hrl,hrel⟩:=hsp rfl
    refine .inr ⟨a,len,cap,hcs,hl,?_,fun i hi=>?_⟩
    ·have:=hz ((elems.map (·.1)).length+(rest.map (·.1)).length |> (· * P.bytesOf e)) (by simp [DataW.weights,ht])
     simp only [iu,hlen,hrl] at this
     rw [show len+(cap-len)=cap by omega] at this
     exact this
    ·have h1:=hel i hi
     have hil:i<elems.length:=by omega
     rw [fP hil] at h1
     obtain ⟨cs',g1,g2⟩:=Option.bind_eq_some_iff.1 h1
     refine ⟨cs',Oj g1,LF g2 fun m hm=>hz m ?_⟩
     simp only [DataW.weights,ht,List.mem_cons,List.mem_append]
     exact .inr (.inl (uG (List.mem_map.2 ⟨elems[i],List.getElem_mem hil,rfl⟩) m hm))
  ·rename_i fs ht
   obtain ⟨xs,n,hn,hx,hl,hlen,hf⟩:=DataW.trod_struct ht h
   obtain rfl:fuel=n:=by omega
   subst hx
   refine ⟨hl,fun i fd hfd=>?_⟩
   have h1:=hf i fd hfd
   have hi:i<xs.length:=by rw [hlen]; exact (Array.getElem?_eq_some_iff.1 hfd).1
   rw [fP hi] at h1
   refine LF h1 fun m hm=>hz m ?_
   simp only [DataW.weights,ht]
   exact DataW.weights_mem_each (j:=i) (t:=fd.type) (d:=xs[i].1) (by simp [hfd]) (by simp [fP hi]) m hm
  ·rename_i n e ht
   have h0:=h
   unfold DataW.trod at h0
   rw [ht] at h0
   simp only [] at h0
   split at h0
   ·rename_i hl
    obtain ⟨xs,hp,hx⟩:=Option.map_eq_some_iff.1 h0
    subst hx
    refine ⟨hl,fun i hi=>?_⟩
    have h1:=mapM_some_get hp i i (by simp [hi])
    have hlen:xs.length=n:=by simpa using mapM_some_length hp
    rw [fP (by omega)] at h1
    refine LF h1 fun m hm=>hz m ?_
    simp only [DataW.weights,ht]
    exact uG (List.mem_map.2 ⟨xs[i],List.getElem_mem (by omega),rfl⟩) m hm
   ·cases h0
  ·trivial
def WDx (P:Program) (h:Heap) (t:TypeId) (cs:List Value):Prop:=∃ f,WD P h f t cs
variable {h:Heap} {t:TypeId} {cs:List Value}
theorem LG (ht:P.underlying t=some .bool) (H:WDx P h t cs):∃ b,cs=[.bool b]:=by
 obtain ⟨f,H⟩:=H
 cases f with
 | zero=>exact H.elim
 | succ f=>unfold WD at H; rw [ht] at H; exact H
theorem rW {k:IntKind} (ht:P.underlying t=some (.int k)) (H:WDx P h t cs):∃ n,cs=[.int k n]/\k.min<=n/\n<=k.max:=by
 obtain ⟨f,H⟩:=H
 cases f with
 | zero=>exact H.elim
 | succ f=>unfold WD at H; rw [ht] at H; exact H
theorem Cm {e:TypeId} (ht:P.underlying t=some (.slice e)) (H:WDx P h t cs) :
  ∃ q len cap,cs=[.slice q len cap]/\len<=cap/\cap*P.bytesOf e<=reachBytes/\(q=none->len=0/\cap=0)/\∀ i,i<len->∃ a cs',q=some a/\FD h (a.add (i*P.cellsOf e)) (P.cellsOf e) cs'/\WDx P h e cs':=by
 obtain ⟨f,H⟩:=H
 cases f with
 | zero=>exact H.elim
 | succ f =>
  unfold WD at H
  rw [ht] at H
  rcases H with rfl | ⟨a,len,cap,rfl,h1,h2,h3⟩
  ·exact ⟨none,0,0,rfl,gg _,by simp,fun _=>⟨rfl,rfl⟩,fun i hi=>absurd hi (Nat.not_lt_zero i)⟩
  ·refine ⟨some a,len,cap,rfl,h1,h2,(fun hq=>absurd hq (by simp)),fun i hi=>?_⟩
   obtain ⟨cs',g1,g2⟩:=h3 i hi
   exact ⟨a,cs',rfl,g1,f,g2⟩
theorem Aq {fs:Array Field} (ht:P.underlying t=some (.struct fs)) (H:WDx P h t cs):cs.length=P.cellsOf t/\∀ (i:Nat) (fd:Field),fs[i]? = some fd->WDx P h fd.type ((cs.drop fd.offset).take (P.cellsOf fd.type)):=by
 obtain ⟨f,H⟩:=H
 cases f with
 | zero=>exact H.elim
 | succ f =>
  unfold WD at H
  rw [ht] at H
  exact ⟨H.1,fun i fd hf=>⟨f,H.2 i fd hf⟩⟩
end
section
variable {P:Program} {h:Heap}
theorem P4 {t e:TypeId} {k:IntKind} {cs:List Value} (ht:P.underlying t=some (.slice e)) (he:P.underlying e=some (.int k)) (hc:P.cellsOf e=1) (H:WDx P h t cs) :
  ∃ q cap,∃ l:List Int,cs=[.slice q l.length cap]/\l.length<=cap/\cap*P.bytesOf e<=reachBytes/\(q=none->cap=0)/\rdO h q (l.length*1) (l.map fun x => .int k x)/\∀ x∈l,k.min<=x/\x<=k.max:=by
 obtain ⟨q,len,cap,rfl,h1,h2,h3,h4⟩:=Cm ht H
 have key:∀ n,n<=len->∃ l:List Int,l.length=n/\(∀ i x,l[i]? = some x->∃ a,q=some a/\ic h (a.add i)=some (.int k x))/\∀ x∈l,k.min<=x/\x<=k.max:=by
  intro n
  induction n with
  | zero=>exact fun _=>⟨[],rfl,fun i x hx=>by simp at hx,fun x hx=>by simp at hx⟩
  | succ n ih =>
   intro hn
   obtain ⟨l,e1,e2,e3⟩:=ih (by omega)
   obtain ⟨a,cs',hq,hr,hw⟩:=h4 n (by omega)
   obtain ⟨x,rfl,hx⟩:=rW he hw
   refine ⟨l++[x],by simp [e1],fun i y hy=>?_,fun y hy=>?_⟩
   ·rcases gI i l.length with hi | hi
    ·rw [gk hi] at hy
     exact e2 i y hy
    ·have hi2:=(List.getElem?_eq_some_iff.1 hy).1
     simp at hi2
     have:i=n:=by omega
     subst this
     rw [gM hi,e1,iH] at hy
     have hy:x=y:=by simpa using hy
     subst hy
     refine ⟨a,hq,?_⟩
     have:=hr.2 0 _ rfl
     rw [hc,gu] at this
     have e0:(a.add i).add 0=a.add i:=by unfold Addr.add; rw [if_pos rfl]
     rw [e0] at this
     exact this
   ·rcases List.mem_append.1 hy with hy | hy
    ·exact e3 y hy
    ·rw [List.mem_singleton.1 hy]; exact hx
 obtain ⟨l,e1,e2,e3⟩:=key len (gg _)
 subst e1
 refine ⟨q,cap,l,rfl,h1,h2,fun hq=>(h3 hq).2,?_,e3⟩
 cases q with
 | none =>
  have:=(h3 rfl).1
  rw [List.length_eq_zero_iff.1 this]
  exact rfl
 | some a =>
  refine ⟨by simp,fun j v hj=>?_⟩
  rw [gL] at hj
  cases hx:l[j]? with
  | none=>rw [hx] at hj; cases hj
  | some x =>
   rw [hx] at hj
   obtain ⟨a',ha',hcell'⟩:=e2 j x hx
   injection ha' with ha'
   subst ha'
   have:Value.int k x=v:=by simpa using hj
   rw [<- this]
   exact hcell'
end
abbrev wS:=FuncId->Array Value->FrameMode->Heap->(FrameMode->Heap->Prop)->(FrameMode->PK)->Prop
def kQ (P:Program):wS:=fun g args u h K Kp =>
 (∃ fn,P.funcs[g]? = some fn/\(fn.name == "runtime.NumGoroutine")=false/\fn.body.isNone=false) /\
 ∀ w:World,w.heap=h->CallsD P g args u w fun e u' w'=>keeps w w'/\match e with
  | .returned _=>K u' w'.heap
  | .panicked c=>Kp u' c w'.heap
  | .outgrown=>False
theorem kQ.mono {P:Program} {g:FuncId} {args:Array Value} {u:FrameMode} {h:Heap} {K K':FrameMode->Heap->Prop} {Kp Kp':FrameMode->PK} (H:kQ P g args u h K Kp)
  (hk:∀ u h,K u h->K' u h) (hp:∀ u c h,Kp u c h->Kp' u c h):kQ P g args u h K' Kp' :=
 ⟨H.1,fun w hw=>(H.2 w hw).mono fun e u' w' he=>⟨he.1,by
  cases e with
  | returned v=>exact hk _ _ he.2
  | panicked c=>exact hp _ _ _ he.2
  | outgrown=>exact he.2⟩⟩
def Sl (u:FrameMode) (h:Heap) (K:Heap->Prop) (Kp:PK):Prop:=match u with
 | .returning=>K h
 | .panicking c=>Kp c h
 | .run=>False
def RK (u:FrameMode) (X:Prop):Prop:=match u with
 | .run=>False
 | _=>X
def j5 (D:wS) (K:Heap->Prop) (Kp:PK):List Deferred->FrameMode->Heap->Prop
 | [],u,h=>Sl u h K Kp
 | d::ds,u,h=>(match d.target with
  | .fn (.func g) cap=>RK u (D g (d.args.toList++cap.toList).toArray u h (fun u' h'=>j5 D K Kp ds (settle u') h') (fun u' c h'=>j5 D K Kp ds (raised u' c) h'))
  | _=>False)
def R6 (P:Program) (D:wS) (rs:List ResultVar) (K:VK) (Kp:PK):j6:=fun e a h=>match e with
 | .normal=>j5 D (fun h'=>tz P a h' rs fun vs=>K (AM vs) h') Kp a.defers .returning h
 | .ret=>j5 D (fun h'=>tz P a h' rs fun vs=>K (AM vs) h') Kp a.defers .returning h
 | .panic c=>j5 D (fun h'=>tz P a h' rs fun vs=>K (AM vs) h') Kp a.defers (.panicking c) h
 | _=>False
def rsT:List ResultVar->List Tmp
 | []=>[]
 | .tmp t::rs=>t::rsT rs
 | .cell t _::rs=>t::rsT rs
def Pc (P:Program) (C:gl) (D:wS) (H:Hints) (fn:Func) (args:List Value) (h:Heap) (K:VK) (Kp:PK):Prop :=
 match fn.body with
 | some c=>den P C { H with keep:=rsT fn.results.toList } c (R6 P D fn.results.toList K Kp) ⟨(args++List.replicate (fn.ntmps-args.length) undef).toArray,[]⟩ h
 | none=>False
def Jq (u:FrameMode) (KN:FrameMode->Prop) (KI:TypeId->Value->FrameMode->Prop):Prop:=match u with
 | .panicking ({ v := .iface t x,recovered:=false,goexit:=false }::older)=>KI t x (.panicking ({ v := .iface t x,recovered:=true }::older))
 | .panicking ({ v:=_,recovered:=false,goexit:=false }::_)=>False
 | u=>KN u
def isRec (o:Oper):Bool:=match o.guard with
 | none=>(match o.op with
  | .call c=>(match c.callee with
   | .builtin .recover=>Nat.beq c.args.size 0
   | _=>false)
  | _=>false)
 | some _=>false
def QR (P:Program) (C:gl) (H:Hints) (fn:Func) (args:List Value) (u:FrameMode) (h:Heap) (Kd:FrameMode->Heap->Prop) (Kdp:FrameMode->PK):Prop :=
 match fn.body with
 | some (.seq (.region _ ops false) rest)=>(match ops.toList with
  | o::os=>(match isRec o with
   | true=>Jq u
    (fun u'=>Jl P C (Ip (fun a h=>den P C H rest (fnQ P fn.results.toList (fun _ h'=>Kd u' h') fun c h'=>Kdp u' c h') a h) (fnQ P fn.results.toList (fun _ h'=>Kd u' h') fun c h'=>Kdp u' c h')) ops os ((⟨(args++List.replicate (fn.ntmps-args.length) undef).toArray,[]⟩:Act).put o.dst .nilIface) h fun a h =>
     den P C H rest (fnQ P fn.results.toList (fun _ h'=>Kd u' h') fun c h'=>Kdp u' c h') a h)
    (fun t x u'=>Jl P C (Ip (fun a h=>den P C H rest (fnQ P fn.results.toList (fun _ h'=>Kd u' h') fun c h'=>Kdp u' c h') a h) (fnQ P fn.results.toList (fun _ h'=>Kd u' h') fun c h'=>Kdp u' c h')) ops os ((⟨(args++List.replicate (fn.ntmps-args.length) undef).toArray,[]⟩:Act).put o.dst (.iface t x)) h fun a h =>
     den P C H rest (fnQ P fn.results.toList (fun _ h'=>Kd u' h') fun c h'=>Kdp u' c h') a h)
   | false=>False)
  | []=>False)
 | _=>False
section
variable {P:Program}
theorem s9 {K K':Heap->Prop} {Kp Kp':PK} (hk:∀ h,K h->K' h) (hp:∀ c h,Kp c h->Kp' c h):∀ (ds:List Deferred) (u:FrameMode) (h:Heap),j5 (kQ P) K Kp ds u h->j5 (kQ P) K' Kp' ds u h
 | [],u,h,H=>by
  cases u with
  | run=>exact H.elim
  | returning=>exact hk _ H
  | panicking c=>exact hp _ _ H
 | d::ds,u,h,H=>by
  unfold j5 at H ⊢
  split
  ·rename_i g cap ht
   rw [ht] at H
   simp only at H
   cases u with
   | run=>exact H.elim
   | returning=>exact kQ.mono H (fun u h H=>s9 hk hp ds _ _ H) fun u c h H=>s9 hk hp ds _ _ H
   | panicking c=>exact kQ.mono H (fun u h H=>s9 hk hp ds _ _ H) fun u c h H=>s9 hk hp ds _ _ H
  ·rename_i ht
   split at H
   ·rename_i g cap hg
    exact (ht _ _ hg).elim
   ·exact H.elim
theorem J2 {a:Act} {d:Option Tmp} {v:Value} {t:Tmp} (hd:d≠some t):(a.put d v).tmps.getD t undef=a.tmps.getD t undef:=by
 cases d with
 | none=>rfl
 | some d =>
  have:d≠t:=fun e=>hd (by rw [e])
  show (a.tmps.setIfInBounds d v).getD t undef=_
  simp [Array.getD_eq_getD_getElem?,this]
theorem Fz {a:Act} {d:Option Tmp} {v:Value} {h:Heap}:∀ {rs:List ResultVar} {K:List Value->Prop},(∀ t∈rsT rs,d≠some t)->tz P (a.put d v) h rs K->tz P a h rs K
 | [],K,hd,H=>H
 | .tmp t::rs,K,hd,H=>by
  have h1:=J2 (a:=a) (v:=v) (hd t (by simp [rsT]))
  unfold tz at H ⊢
  rw [h1] at H
  exact Fz (rs:=rs) (fun t ht=>hd t (by simp [rsT,ht])) H
 | .cell t ty::rs,K,hd,H=>by
  have h1:=J2 (a:=a) (v:=v) (hd t (by simp [rsT]))
  unfold tz at H ⊢
  rw [h1] at H
  split at H
  ·obtain ⟨x,hx,hdet⟩:=AD H
   exact hdet (fun _=>True) trivial _ _ (lZ.refl _ _) (Fz (rs:=rs) (fun t ht=>hd t (by simp [rsT,ht])) hx)
  ·exact H.elim
theorem Ld (rs:List ResultVar) (K:VK) (Kp:PK):lH (rsT rs) (R6 P (kQ P) rs K Kp):=fun c a d v h hd hh=>by
 simp only [R6,put_defers] at hh ⊢
 exact s9 (fun h' H=>Fz hd H) (fun _ _ H=>H) _ _ _ hh
theorem Nq {g : FuncId} {cap args : Array Value} {w : World} (H : ∃ fn, P.funcs[g]? = some fn ∧ (fn.name == "runtime.NumGoroutine") = false ∧ fn.body.isNone = false) :
  (invoke (.fn (.func g) cap) args).run P w = .ok (.enter g (args++cap)) w:=by
 obtain ⟨fn',h1,h2,h3⟩:=H
 have:wpS P true (invoke (.fn (.func g) cap) args) w.heap fun n h'=>n = .enter g (args++cap):=by
  unfold invoke callFunc
  rw [fQ,om]
  simp only [h1,h2,h3,j9,if_false]
  rw [ie]
 obtain ⟨n,w',hr,_,hw,hn⟩:=Ci _ this rfl
 rw [hw rfl,hn] at hr
 exact hr
theorem qM {fn:Func} {a:Act} {K:VK} {Kp:PK} {w₀:World}:∀ (ds:List Deferred) (u:FrameMode) (w:World),keeps w₀ w ->
  j5 (kQ P) (fun h'=>tz P a h' fn.results.toList fun vs=>K (AM vs) h') Kp ds u w.heap ->
  Leaves P fn a.tmps (fun e w'=>keeps w₀ w'/\match e with
   | .returned v=>K v w'.heap
   | .panicked c=>Kp c w'.heap
   | .outgrown=>False) ds u w
 | [],u,w,hk,H=>by
  cases u with
  | run=>exact H.elim
  | returning =>
   obtain ⟨v,hr,hv⟩:=np (fn:=fn) (a:=a) (w:=w) (K:=K) H
   exact ⟨v,hr,hk,hv⟩
  | panicking c=>exact ⟨hk,H⟩
 | d::ds,u,w,hk,H=>by
  obtain ⟨target,args⟩:=d
  unfold j5 at H
  simp only at H
  split at H
  ·rename_i g cap
   have hu:u ≠ .run:=fun e=>by subst e; exact H.elim
   have H:kQ P g (args.toList++cap.toList).toArray u w.heap (fun u' h'=>j5 (kQ P) (fun h'=>tz P a h' fn.results.toList fun vs=>K (AM vs) h') Kp ds (settle u') h') (fun u' c h'=>j5 (kQ P) (fun h'=>tz P a h' fn.results.toList fun vs=>K (AM vs) h') Kp ds (raised u' c) h'):=by
    cases u with
    | run=>exact H.elim
    | returning=>exact H
    | panicking c=>exact H
   have hargs:(args.toList++cap.toList).toArray=args++cap:=by
    apply Array.toList_inj.1; simp
   rw [hargs] at H
   refine leaves_cons hu (Nq H.1) ((H.2 w rfl).mono fun e u' w' he=>?_)
   cases e with
   | returned v=>exact qM ds _ w' (hk.trans he.1) he.2
   | panicked c=>exact qM ds _ w' (hk.trans he.1) he.2
   | outgrown=>exact he.2.elim
  ·exact H.elim
theorem zH {f:FuncId} {fn:Func} {args:List Value} {h:Heap} {K:VK} {Kp:PK} (Hn:Hints) (hm:P.follows .mixedOrders=true)
  (hf:P.funcs[f]? = some fn) (hn:(fn.name == "runtime.NumGoroutine")=false) (H:Pc P (kW P) (kQ P) Hn fn args h K Kp):kW P f args.toArray h K Kp:=by
 unfold Pc at H
 split at H
 ·rename_i c hb
  refine ⟨⟨fn,hf,hn,by rw [hb]; rfl⟩,fun w hw=>?_⟩
  subst hw
  refine calls_of_wp_defers hf hb ?_
  have hact:(⟨args.toArray++Array.replicate (fn.ntmps-args.toArray.size) undef,[]⟩:Act)=⟨(args++List.replicate (fn.ntmps-args.length) undef).toArray,[]⟩:=by
   congr 1
   apply Array.toList_inj.1
   simp
  rw [hact]
  refine wp_mono (AI (sd P) hm w c _ _ w (keeps.refl w) (Ld _ K Kp) H) fun e a w' he=>?_
  cases e with
  | normal=>exact qM a.defers _ w' he.1 he.2.2
  | ret=>exact qM a.defers _ w' he.1 he.2.2
  | panic c=>exact qM a.defers _ w' he.1 he.2
  | outgrown=>exact he.elim
  | exit id=>exact he.2.2.elim
  | goto l=>exact he.2.2.elim
 ·exact H.elim
theorem I3 {id:Nat} {ops:Array Oper} {o:Oper} {os:List Oper} {a:Act} {cs cs':List Frame} {w:World} {v:Value} {Q1:Exit->Act->World->Prop} {Q:Exit->Act->List Frame->World->Prop}
  (hops:ops.toList=o::os) (hw:Region.wanted o (yielded ops a.tmps)=true) (hr:(execOp a.eval o).run P w = .ok .recover w)
  (hrec:recoverD cs=some (v,cs')\/recoverD cs=none/\v = .nilIface/\cs'=cs)
  (h:wpList P ops Q1 os (a.put o.dst v) w) (hQ:∀ e a' w',Q1 e a' w'->Q e a' cs' w'):(Code.region id ops false).wpS P Q a cs w:=by
 intro b k hb hro
 have ho:ops[0]? = some o:=by
  have:ops.toList[0]? = some o:=by rw [hops]; rfl
  simpa using this
 have hl:wpOps P ops Q1 (List.range' 1 os.length) (a.put o.dst v) w:=by
  rw [wpOps_eq_wpList os 1 (fun j=>?_)]
  ·exact h
  ·have:ops.toList[1+j]? = os[j]?:=by rw [hops,Nat.add_comm]; rfl
   rw [<- this]; simp
 obtain ⟨e,a',w',hq,harr⟩:=wp_ops _ _ _ hl b k cs'
 have hsz:List.range ops.size=0::List.range' 1 os.length:=by
  have:ops.size=os.length+1:=by rw [<- Array.length_toList,hops]; rfl
  rw [this,List.range_eq_range']
  rfl
 have hg:=stepG_op (P:=P) (b:=b) (a:=a) (k:=k) (cs:=cs) (w:=w) (rest:=List.range' 1 os.length) ho hw
 have hfin:∀ v,(b.at a (.inRegion ops (0::List.range' 1 os.length)::k)).finish v=b.at (a.put o.dst v) (.inRegion ops (List.range' 1 os.length)::k):=by
  intro v; rw [Frame.finish_at,ho]; rfl
 have hk:(b.at a (.inRegion ops (0::List.range' 1 os.length)::k)).kind = .deferred:=hb
 have htr:=tryRecover_deferred hk cs
 have hstep:step P (lone (b.at a (.code (.region id ops false)::k)) cs w) = .next (lone (b.at a (.inRegion ops (0::List.range' 1 os.length)::k)) cs w):=by
  rw [<- hsz]; exact step_region
 refine ⟨e,a',cs',w',hQ e a' w' hq, .of_steps (.head hstep (.one (step_lone_go ?_))) harr⟩
 rw [hg,<- hfin]
 rcases hrec with hrec | ⟨hrec,rfl,rfl⟩
 ·simp only [Frame.at] at htr ⊢
  simp [stepG.apply,hr,htr,hrec,hro]
 ·simp only [Frame.at] at htr ⊢
  simp [stepG.apply,hr,htr,hrec,hro]
theorem MZ {u:FrameMode} {KN:FrameMode->Prop} {KI:TypeId->Value->FrameMode->Prop} (H:Jq u KN KI) (c₀:Frame) (cs:List Frame) (hu:c₀.mode=u) :
  ∃ v u' cs',cs' = { c₀ with mode:=u' }::cs/\(recoverD (c₀::cs)=some (v,cs')\/recoverD (c₀::cs)=none/\v = .nilIface/\cs'=c₀::cs)/\(v = .nilIface/\KN u'\/∃ t x,v = .iface t x/\KI t x u'):=by
 unfold Jq at H
 split at H
 ·rename_i t x older
  refine ⟨.iface t x,_,_,rfl, .inl ?_, .inr ⟨t,x,rfl,H⟩⟩
  simp [recoverD,hu]
 ·exact H.elim
 ·rename_i hn1 hn2
  subst hu
  refine ⟨.nilIface,c₀.mode,c₀::cs,rfl, .inr ⟨?_,rfl,rfl⟩, .inl ⟨rfl,H⟩⟩
  simp only [recoverD]
theorem K8 {o:Oper} (h:isRec o=true):o.guard=none/\∀ (ρ:Operand->Value) (w:World),(execOp ρ o).run P w = .ok .recover w:=by
 unfold isRec at h
 split at h
 ·rename_i hg
  split at h
  ·rename_i c ho
   split at h
   ·rename_i hc
    refine ⟨hg,fun ρ w=>?_⟩
    unfold execOp
    simp only [ho]
    unfold resolve
    simp only [hc]
    rfl
   ·cases h
  ·cases h
 ·cases h
theorem HK {f:FuncId} {fn:Func} {args:List Value} {u:FrameMode} {h:Heap} {Kd:FrameMode->Heap->Prop} {Kdp:FrameMode->PK} (Hn:Hints) (hm:P.follows .mixedOrders=true)
  (hf:P.funcs[f]? = some fn) (hn:(fn.name == "runtime.NumGoroutine")=false) (H:QR P (kW P) Hn fn args u h Kd Kdp):kQ P f args.toArray u h Kd Kdp:=by
 unfold QR at H
 split at H
 ·rename_i id ops rest hb
  split at H
  ·rename_i o os hops
   split at H
   ·rename_i hrec
    obtain ⟨hg,hrun⟩:=K8 (P:=P) hrec
    refine ⟨⟨fn,hf,hn,by rw [hb]; rfl⟩,fun w hw=>?_⟩
    subst hw
    refine callsD_of_wpS hf hb fun c₀ cs hu=>?_
    have hact:(⟨args.toArray++Array.replicate (fn.ntmps-args.toArray.size) undef,[]⟩:Act)=⟨(args++List.replicate (fn.ntmps-args.length) undef).toArray,[]⟩:=by
     congr 1
     apply Array.toList_inj.1
     simp
    rw [hact]
    obtain ⟨v,u',cs',hcs,hr,hv⟩:=MZ H c₀ cs hu
    have main:Jl P (kW P) (Ip (fun a h=>den P (kW P) Hn rest (fnQ P fn.results.toList (fun _ h'=>Kd u' h') fun c h'=>Kdp u' c h') a h) (fnQ P fn.results.toList (fun _ h'=>Kd u' h') fun c h'=>Kdp u' c h')) ops os ((⟨(args++List.replicate (fn.ntmps-args.length) undef).toArray,[]⟩:Act).put o.dst v) w.heap fun a h =>
      den P (kW P) Hn rest (fnQ P fn.results.toList (fun _ h'=>Kd u' h') fun c h'=>Kdp u' c h') a h:=by
     rcases hv with ⟨rfl,hv⟩ | ⟨t,x,rfl,hv⟩
     ·exact hv
     ·exact hv
    have fin:∀ e a' w',jM w (fun _=>True) (fnQ P fn.results.toList (fun _ h'=>Kd u' h') fun c h'=>Kdp u' c h') e a' w'->bodyPostS P fn c₀ cs (fun e u' w'=>keeps w w'/\match e with
      | .returned _=>Kd u' w'.heap
      | .panicked c=>Kdp u' c w'.heap
      | .outgrown=>False) e a' cs' w':=by
     intro e a' w' he
     cases e with
     | normal =>
      obtain ⟨h1,_,h3⟩:=he
      simp only [fnQ] at h3
      split at h3
      ·rename_i hd
       obtain ⟨v,hr,hk⟩:=np (K:=fun _ h'=>Kd u' h') h3
       exact ⟨hd,u',hcs,v,hr,h1,hk⟩
      ·exact h3.elim
     | ret =>
      obtain ⟨h1,_,h3⟩:=he
      simp only [fnQ] at h3
      split at h3
      ·rename_i hd
       obtain ⟨v,hr,hk⟩:=np (K:=fun _ h'=>Kd u' h') h3
       exact ⟨hd,u',hcs,v,hr,h1,hk⟩
      ·exact h3.elim
     | panic c =>
      obtain ⟨h1,h3⟩:=he
      simp only [fnQ] at h3
      split at h3
      ·rename_i hd
       exact ⟨hd,u',hcs,h1,h3⟩
      ·exact h3.elim
     | outgrown=>exact he.elim
     | exit id=>exact he.2.2.elim
     | goto l=>exact he.2.2.elim
    refine wpS_seq (I3 hops (by unfold Region.wanted; rw [hg]) (hrun _ w) hr (BB (sd P) w (fun _=>True) os _ w _ (keeps.refl w) main (fun _ _ _ _ h=>h) (fun _ _=>trivial)) fun e a' w' he=>?_)
    cases e with
    | normal =>
     refine wpS_of_wp (wp_mono (AI (sd P) hm w rest _ a' w' he.1 (Dz _ _ _ _) he.2.2) fun e a'' w'' h2=>fin e a'' w'' ?_)
     cases e with
     | panic c=>exact h2
     | outgrown=>exact h2
     | normal=>exact ⟨h2.1,trivial,h2.2.2⟩
     | ret=>exact ⟨h2.1,trivial,h2.2.2⟩
     | exit id=>exact ⟨h2.1,trivial,h2.2.2⟩
     | goto l=>exact ⟨h2.1,trivial,h2.2.2⟩
    | panic c=>exact fin (.panic c) a' w' he
    | ret=>exact fin .ret a' w' he
    | exit id=>exact fin (.exit id) a' w' he
    | goto l=>exact fin (.goto l) a' w' he
    | outgrown=>exact fin .outgrown a' w' he
   ·exact H.elim
  ·exact H.elim
 ·exact H.elim
end
end Go.Den
