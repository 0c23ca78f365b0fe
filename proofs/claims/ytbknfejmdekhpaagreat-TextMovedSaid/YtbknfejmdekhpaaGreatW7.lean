/- W7: put together by wip/tools/bundle.py: RnA RnB RnC Mwhole Bwhole WhA WhB WhC WhD WhE Mburinref5 Bburinref5 WhF WhG WhH WhI WhJ WhK WhL WhM WhN WhO WhP WhQ WhR WhT WhU WhX WhY DcA DcB DcC DcD DcE DcF DcG TxB TxC TxD. -/
import Derived.Test.YtbknfejmdekhpaaGreatW1
import Derived.Test.YtbknfejmdekhpaaGreatW2
import Derived.Test.YtbknfejmdekhpaaGreatW3
import Derived.Test.YtbknfejmdekhpaaGreatW4
import Derived.Test.YtbknfejmdekhpaaGreatW5
import Derived.Test.YtbknfejmdekhpaaGreatW6
import Derived.OrdersHeld
import Derived.OrdersIn
import Derived.TacticsIn
import Derived.RangeFuncSeq
import Derived.RangeFuncLeaves
import Derived.Test.YtbknfejmdekhpaaGreatProg
set_option linter.unusedVariables false
set_option linter.unusedSimpArgs false
set_option maxRecDepth 100000
namespace Go.Den
abbrev YP:=Nat->List Value->Heap->(VK)->Prop
def YieldsHP (P:Program):YP:=fun l args h K=>∀ w:World,w.heap=h->YieldAt Fence.wide 0 P l args.toArray w fun e w'=>keeps w w'/\∃ v,e = .returned v/\K v w'.heap
def yieldOf:Value->Option Nat
 | .func (.yield l) f c=>(match f.toList,c.toList with
  | [],[]=>some l
  | _,_=>none)
 | _=>none
theorem yieldOf_spec {v:Value} {l:Nat} (h:yieldOf v=some l):v = .func (.yield l) #[] #[]:=by
 unfold yieldOf at h
 split at h
 ·rename_i l' f c
  split at h
  ·rename_i hf hc
   obtain rfl:=Option.some.inj h
   have e1:f=#[]:=by apply Array.toList_inj.1; rw [hf]
   have e2:c=#[]:=by apply Array.toList_inj.1; rw [hc]
   rw [e1,e2]
  ·cases h
 ·cases h
def eqCellsD (P:Program):List Field->List Value->List Value->(Bool->Prop)->Prop
 | [],_,_,K=>K true
 | f::fs,cs,ds,K=>match f.name != "_",P.underlying f.type,cs[f.offset]?,ds[f.offset]? with
  | true,some (.int _),some (.int k x),some (.int k' y)=>needs (k=k') (eqCellsD P fs cs ds fun r=>K ((x == y) && r))
  | true,some .bool,some (.bool x),some (.bool y)=>eqCellsD P fs cs ds fun r=>K ((x == y) && r)
  | _,_,_,_=>False
def structEqD (P:Program) (op:BinOp) (t:TypeId) (cs ds:List Value) (K:Value->Prop):Prop:=match op,P.underlying t,P.eqGuardType P.depth t,P.stoodInHeld t with
 | .eql,some (.struct fs),false,false=>eqCellsD P fs.toList cs ds fun r=>K (.bool r)
 | .neq,some (.struct fs),false,false=>eqCellsD P fs.toList cs ds fun r=>K (.bool (!r))
 | _,_,_,_=>False
section
variable {P:Program} {qt:Bool}
theorem wpS_partCell {t:TypeId} {d:TypeDesc} {cs:Array Value} {off:Nat} {v:Value} {h:Heap} {K:VK} (hu:P.underlying t=some d) (hd:isAggT P t=false) (hv:cs.toList[off]? = some v) (H:K v h):wpS P qt (part t cs off) h K:=by
 unfold part
 rw [wpS_bind,isAggT_spec t hu,hd]
 simp only [Bool.false_eq_true,if_false]
 have:cs[off]? = some v:=by simpa using hv
 simp only [this]
 exact H
theorem equalIn_int {t:TypeId} {k0:IntKind} (hu:P.underlying t=some (.int k0)) (k:IntKind) (a b:Int) (h:Heap) (K:Bool->Heap->Prop) (d:Nat):wpS P qt (Op.equalIn (d+1) t (.int k a) (.int k b)) h K=K (a == b) h:=by
 unfold Op.equalIn
 rw [wpS_bind,wpS_underlying hu]
 simp [wpS_pure]
theorem eqCells_const {p:Prop} {cs ds:List Value}:∀ {fs:List Field},eqCellsD P fs cs ds (fun _=>p)->p
 | [],H=>H
 | f::fs,H=>by
  unfold eqCellsD at H
  split at H
  ·exact eqCells_const (needs_iff.1 H).2
  ·exact eqCells_const H
  ·exact H.elim
def eqBody (d:Nat) (xs ys:Array Value) (f:Field):Sem (ForInStep (Option Bool × Unit)):=do
 if f.name≠"_" then
  if !(<- Op.equalIn (d+1) f.type (<- part f.type xs f.offset) (<- part f.type ys f.offset)) then pure (ForInStep.done (some false,())) else pure (ForInStep.yield (none,()))
 else pure (ForInStep.yield (none,()))
theorem eqBody_ok {d : Nat} {xs ys : Array Value} {f : Field} {v w : Value} {r : Bool} {dd : TypeDesc} {h : Heap} {K : ForInStep (Option Bool × Unit) → Heap → Prop} (hn : f.name ≠ "_") (hu : P.underlying f.type = some dd) (ha : isAggT P f.type = false)
  (hv:xs.toList[f.offset]? = some v) (hw:ys.toList[f.offset]? = some w) (he:∀ K':Bool->Heap->Prop,wpS P qt (Op.equalIn (d+1) f.type v w) h K'=K' r h) (h1:r=true->K (.yield (none,())) h) (h2:r=false->K (.done (some false,())) h):wpS P qt (eqBody d xs ys f) h K:=by
 unfold eqBody
 rw [if_pos hn,wpS_bind]
 refine wpS_partCell hu ha hv ?_
 rw [wpS_bind]
 refine wpS_partCell hu ha hw ?_
 rw [wpS_bind,he]
 cases r with
 | true=>exact h1 rfl
 | false=>exact h2 rfl
theorem loop_eq {d:Nat} {xs ys:Array Value} {h:Heap}:∀ {fs:List Field} {K:Bool->Prop},eqCellsD P fs xs.toList ys.toList K ->
  wpS P qt (forIn fs ((none,()):Option Bool × Unit) fun f _=>eqBody d xs ys f) h (fun r h'=>h'=h/\((r.1=none/\K true)\/(r.1=some false/\K false))):=by
 intro fs
 induction fs with
 | nil=>intro K H; rw [List.forIn_nil]; exact ⟨rfl, .inl ⟨rfl,H⟩⟩
 | cons f fs ih =>
  intro K H
  rw [List.forIn_cons,wpS_bind]
  unfold eqCellsD at H
  split at H
  ·rename_i k0 k x k' y hn hu hv hw
   obtain ⟨hk,H2⟩:=needs_iff.1 H
   subst hk
   exact eqBody_ok (by simpa using hn) hu (by unfold isAggT; rw [hu]) hv hw (fun K'=>equalIn_int hu k x y h K' d) (fun hr=>by rw [hr] at H2; simp only [Bool.true_and] at H2; exact ih H2) (fun hr=>by rw [hr] at H2; simp only [Bool.false_and] at H2; exact ⟨rfl, .inr ⟨rfl,eqCells_const H2⟩⟩)
  ·rename_i x y hn hu hv hw
   exact eqBody_ok (by simpa using hn) hu (by unfold isAggT; rw [hu]) hv hw (fun K'=>equalIn_bool hu x y h K' d) (fun hr=>by rw [hr] at H; simp only [Bool.true_and] at H; exact ih H) (fun hr=>by rw [hr] at H; simp only [Bool.false_and] at H; exact ⟨rfl, .inr ⟨rfl,eqCells_const H⟩⟩)
  ·exact H.elim
theorem equalIn_struct {t:TypeId} {fs:Array Field} {xs ys:Array Value} {h:Heap} {K:Bool->Heap->Prop} {d:Nat} (hu:P.underlying t=some (.struct fs)) (hst:P.stoodInHeld t=false) (H:eqCellsD P fs.toList xs.toList ys.toList fun r=>K r h) :
  wpS P qt (Op.equalIn (d+2) t (.agg xs) (.agg ys)) h K:=by
 unfold Op.equalIn
 rw [wpS_bind,wpS_underlying hu]
 simp only
 rw [wpS_bind,wpS_program,hst]
 simp only [Bool.false_eq_true,if_false]
 rw [wpS_bind,<- Array.forIn_toList]
 refine wpS_mono _ (loop_eq (d:=d) H) ?_
 rintro r h' ⟨rfl,⟨h1,h2⟩ | ⟨h1,h2⟩⟩
 ·rw [h1]; exact h2
 ·rw [h1]; exact h2
theorem structEqD_sound {op:BinOp} {t:TypeId} {xs ys:Array Value} {X Y:Operand} {h:Heap} {K:VK} (H:structEqD P op t xs.toList ys.toList fun v=>K v h) :
  wpS P qt (do eqGuard op t X Y (.agg xs) (.agg ys); binOp op t (.agg xs) (.agg ys)) h K:=by
 have hm:Op.maxDepth=9998+2:=rfl
 have guard:∀ op,(op = .eql\/op = .neq)->P.eqGuardType P.depth t=false->∀ K':Unit->Heap->Prop,K' () h->wpS P qt (eqGuard op t X Y (.agg xs) (.agg ys)) h K':=fun op ho hg K' hk=>by
  unfold eqGuard
  rcases ho with rfl | rfl
  ·simp only
   rw [if_neg (by simp)]
   simp only [wpS_bind,wpS_program,hg]
   exact hk
  ·simp only
   rw [if_neg (by simp)]
   simp only [wpS_bind,wpS_program,hg]
   exact hk
 unfold structEqD at H
 split at H
 ·rename_i fs hu hg hst
  rw [wpS_bind]
  refine guard _ (.inl rfl) hg _ ?_
  show wpS P qt (do pure (.bool (<- Op.equal t (.agg xs) (.agg ys)))) h K
  rw [wpS_bind]
  unfold Op.equal
  rw [hm]
  exact equalIn_struct hu hst H
 ·rename_i fs hu hg hst
  rw [wpS_bind]
  refine guard _ (.inr rfl) hg _ ?_
  show wpS P qt (do pure (.bool (!(<- Op.equal t (.agg xs) (.agg ys))))) h K
  rw [wpS_bind]
  unfold Op.equal
  rw [hm]
  exact equalIn_struct hu hst H
 ·exact H.elim
end
def stepY (P:Program) (C:CallP) (Y:YP) (Q:PostD) (o:Oper) (a:Act) (h:Heap) (K:Act->Heap->Prop):Prop:=match o.op with
 | .call c=>(match c.callee with
  | .value f=>(match yieldOf (a.eval f) with
   | some l=>Y l (c.args.toList.map a.eval) h fun v h'=>asResT P o.type v fun v'=>K (a.put o.dst v') h'
   | none=>stepD P C Q o a h K)
  | _=>stepD P C Q o a h K)
 | .binOp op t x y _=>(match a.eval x,a.eval y with
  | .agg cs, .agg ds=>structEqD P op t cs.toList ds.toList fun v=>K (a.put o.dst v) h
  | _,_=>stepD P C Q o a h K)
 | _=>stepD P C Q o a h K
theorem stepY_eq {P:Program} {C:CallP} {Y:YP} {Q:PostD} {o:Oper} {a:Act} {h:Heap} {K:Act->Heap->Prop} (hn:∀ c,o.op ≠ .call c) (hb:∀ op t x y yt,o.op ≠ .binOp op t x y yt):stepY P C Y Q o a h K=stepD P C Q o a h K:=by
 unfold stepY
 split
 ·rename_i c ho; exact absurd ho (hn c)
 ·rename_i op t x y yt ho; exact absurd ho (hb op t x y yt)
 ·rfl
section
variable {P:Program} {C:CallP} {Q:PostD} {ops:Array Oper}
theorem oper_wide {o:Oper} {a:Act} {w:World} {n:Nat} {next:Act->World->Prop} {Q':Exit->Act->World->Prop} (h:o.wp P a w next Q'):o.wpIn Fence.wide n P a w next Q':=by
 unfold Oper.wp at h
 refine ⟨fun _ _=>trivial,?_⟩
 have e:o.semAt Fence.wide.round a.eval=execOp a.eval o:=Oper.semAt_none _ _
 rw [e]
 generalize (execOp a.eval o).run P w=r at h
 cases r with
 | ok x w' =>
  cases x <;> simp only [Oper.upon] at h <;> simp only [Oper.uponIn]
  case value u=>exact h
  case skip=>exact h
  case defer d=>exact h
  case enter f args=>exact ⟨fun hh=>by simp [Fence.wide] at hh,callsIn_wide.2 h⟩
  case row row args=>exact ⟨fun hh=>by simp [Fence.wide] at hh,fun c cs _=>let ⟨v,w',r,s⟩:=h c cs; ⟨v,w',r,stepsIn_wide.2 s⟩⟩
 | halt x w' =>
  cases x <;> simp only [Oper.upon] at h <;> simp only [Oper.uponIn]
  case panic u=>exact h
theorem stepY_wpIn (hC:CallOK P C) {o:Oper} {a:Act} {K:Act->Heap->Prop} {next:Act->World->Prop} {Q':Exit->Act->World->Prop} {w:World}
  (H:stepY P C (YieldsHP P) Q o a w.heap K) (hK:∀ a' w',keeps w w'->((∃ v,a'=a.put o.dst v)\/(∃ c,o.op = .defer c))->K a' w'.heap->next a' w')
  (hp:∀ c w',keeps w w'->Q (.panic c) a w'.heap->Q' (.panic c) a w'):o.wpIn Fence.wide 0 P a w next Q':=by
 unfold stepY at H
 split at H
 ·rename_i c ho
  split at H
  ·rename_i f hf
   split at H
   ·rename_i l hl
    obtain ⟨fn,tmps,assign,body,hy,hround⟩:=H w rfl
    refine ⟨fun _ _=>trivial,?_⟩
    have e:o.semAt Fence.wide.round a.eval=execOp a.eval o:=Oper.semAt_none _ _
    have hargs:(c.args.toList.map a.eval).toArray=c.args.map a.eval:=by apply Array.toList_inj.1; simp
    rw [hargs] at hy
    have hrun:(execOp a.eval o).run P w = .ok (.round l fn tmps assign body) w:=by
     unfold execOp
     simp only [ho,resolve,hf,yieldOf_spec hl,Deferred.ofValue]
     simp only [Sem.run_bind,Sem.run_pure,Result.andThen,invoke]
     rw [show (#[]:Array Value)++c.args.map a.eval=c.args.map a.eval by simp]
     exact hy
    rw [e,hrun]
    simp only [Oper.uponIn]
    refine ⟨fun hh=>by simp [Fence.wide] at hh,hround.mono fun e w' he=>?_⟩
    obtain ⟨hk,v,rfl,hv⟩:=he
    exact hK _ _ hk (.inl ⟨_,rfl⟩) (asResT_sound hv)
   ·exact oper_wide (stepD_wp hC H hK hp)
  ·exact oper_wide (stepD_wp hC H hK hp)
 ·rename_i op t x y yt ho
  split at H
  ·rename_i cs ds hx hy
   refine oper_wide ?_
   have h1:wpS P false (execOp a.eval o) w.heap (nextOK false (fun _ _ _ _ _=>False) (fun _ _=>False) fun v h'=>K (a.put o.dst v) h'):=by
    unfold execOp
    simp only [ho,hx,hy]
    exact wpS_v (structEqD_sound H)
   obtain ⟨n,w',hr,hk,_,hn⟩:=wpS_run _ h1 rfl
   unfold Oper.wp
   rw [hr]
   cases n <;> simp only [nextOK] at hn <;> simp only [Oper.upon]
   ·exact hK _ _ hk (.inl ⟨_,rfl⟩) hn
   ·exact hK _ _ hk (.inl ⟨_,rfl⟩) hn.2
   ·exact hn.2.elim
  ·exact oper_wide (stepD_wp hC H hK hp)
 ·exact oper_wide (stepD_wp hC H hK hp)
end
def seqY (P:Program) (C:CallP) (Y:YP) (Q:PostD) (ops:Array Oper):List Oper->Act->Heap->(Act->Heap->Prop)->Prop
 | [],a,h,K=>K a h
 | o::rest,a,h,K=>guardD ops o a (fun a=>stepY P C Y Q o a h fun a' h'=>seqY P C Y Q ops rest a' h' K) (fun a=>seqY P C Y Q ops rest (a.put o.dst undef) h K)
def withY (P:Program) (C:CallP) (Y:YP) (Q:PostD) (ops:Array Oper) (i:Nat) (a:Act) (h:Heap) (k:Act->Heap->Prop):Prop:=match ops[i]? with
 | none=>False
 | some o=>guardD ops o a (fun a=>stepY P C Y Q o a h k) (fun a=>k (a.put o.dst undef) h)
def goY (P:Program) (C:CallP) (Y:YP) (Q:PostD) (ops:Array Oper) (ro:Option (Nat->Prop)) (i:Nat) (a:Act) (h:Heap) (k:Act->Heap->Prop):Prop:=match newB ops i with
 | true=>withD P C Q ops i a h k
 | false=>withY P C Y Q ops i a h fun a' h'=>relH ro h h'/\k a' h'
def planY (P:Program) (C:CallP) (Y:YP) (Q:PostD) (ops:Array Oper) (ro:Option (Nat->Prop)):Plan->Act->Heap->(Act->Heap->Prop)->Prop
 | .done,a,h,K=>K a h
 | .take i p,a,h,K=>withT P C Q ops ro i a h fun a' h'=>planY P C Y Q ops ro p a' h' K
 | .go i p,a,h,K=>goY P C Y Q ops ro i a h fun a' h'=>planY P C Y Q ops ro p a' h' K
 | .alt i p q,a,h,K=>goY P C Y Q ops ro i a h (fun a' h'=>planY P C Y Q ops ro p a' h' K)/\planY P C Y Q ops ro q a h K
 | .bar i _ p,a,h,K=>withY P C Y Q ops i a h fun a' h'=>planY P C Y Q ops ro p a' h' K
 | .keep _,_,_,_=>False
section
variable {P:Program} {md:Region.Mode} {ops:Array Oper} {Q:Exit->Act->World->Prop} {bar:Nat->Bool} {S:World->Prop}
theorem yieldsW {i:Nat} {o:Oper} {v:Value} {a:Act} (hi:ops[i]? = some o) (hy:YieldsIf P ops S o v a) {K:Act->World->Prop} {w:World} (hS:S w) (h:K (a.put o.dst v) w):wpOpIn Fence.wide 0 P ops Q i K a w:=by
 unfold wpOpIn
 simp only [hi]
 rcases hy with ⟨hw,hv⟩ | ⟨hw,rfl⟩
 ·rw [if_pos hw]
  refine ⟨fun _ _=>trivial,?_⟩
  have e:o.semAt Fence.wide.round a.eval=execOp a.eval o:=Oper.semAt_none _ _
  rw [e,hv w hS]
  exact h
 ·rw [if_neg (by rw [hw]; simp)]
  exact ⟨fun _ _=>trivial,h⟩
theorem putW {j:Nat} {oi oj:Oper} {v:Value} (hj:ops[j]? = some oj) (hap:oi.apart ops oj=true) (hsi:∀ cs b,oi.op ≠ .select cs b) (hsj:∀ cs b,oj.op ≠ .select cs b)
  (hQ:∀ c a w,Q (.panic c) (a.put oi.dst v) w->Q (.panic c) a w) {K:Act->World->Prop} {a:Act} {w:World} (hy:YieldsIf P ops S oi v a) (h:wpOpIn Fence.wide 0 P ops Q j K (a.put oi.dst v) w) :
  wpOpIn Fence.wide 0 P ops Q j (fun a' w'=>YieldsIf P ops S oi v a'/\K (a'.put oi.dst v) w') a w:=by
 obtain ⟨h1,h2,h3⟩:=Oper.apart_spec hap
 have keep:∀ (a:Act),YieldsIf P ops S oi v a->∀ u,YieldsIf P ops S oi v (a.put oj.dst u):=fun a hy u=>hy.of_same (execOp_put oi hsi a oj.dst u h3) (wanted_put oi a oj.dst u h3)
 have swap:∀ (a:Act) u,(a.put oi.dst v).put oj.dst u=(a.put oj.dst u).put oi.dst v:=fun a u=>Act.put_comm a v u h2
 unfold wpOpIn at h ⊢
 simp only [hj] at h ⊢
 rw [wanted_put oj a oi.dst v h1] at h
 by_cases hw:Region.wanted oj (yielded ops a.tmps)=true
 ·rw [if_pos hw] at h ⊢
  obtain ⟨_,h⟩:=h
  refine ⟨fun _ _=>trivial,?_⟩
  have e:∀ ρ,oj.semAt Fence.wide.round ρ=execOp ρ oj:=fun ρ=>Oper.semAt_none _ _
  rw [e,execOp_put oj hsj a oi.dst v h1] at h
  rw [e]
  generalize (execOp a.eval oj).run P w=r at h
  cases r with
  | ok x w' =>
   cases x <;> simp only [Oper.uponIn] at h ⊢
   case value u=>rw [swap] at h; exact ⟨keep a hy u,h⟩
   case skip=>rw [swap] at h; exact ⟨keep a hy _,h⟩
   case defer d =>
    have hy':YieldsIf P ops S oi v { a with defers:=d::a.defers }:=hy.of_same rfl rfl
    refine ⟨keep _ hy' _,?_⟩
    rw [<- swap,<- Act.put_defers]
    exact h
   case enter f args =>
    refine ⟨h.1,h.2.mono fun e w'' he=>?_⟩
    cases e with
    | returned u=>simp only [swap] at he; exact ⟨keep a hy u,he⟩
    | panicked c=>exact hQ _ _ _ he
    | outgrown=>exact he
   case row row args=>exact ⟨h.1,h.2.mono fun u w'' he=>by rw [swap] at he; exact ⟨keep a hy u,he⟩⟩
   case round l f tmps assign body =>
    refine ⟨h.1,h.2.mono fun e w'' he=>?_⟩
    cases e with
    | returned u=>simp only [swap] at he; exact ⟨keep a hy u,he⟩
    | panicked c=>exact hQ _ _ _ he
    | outgrown=>exact he
  | halt x w' =>
   cases x <;> simp only [Oper.uponIn] at h ⊢
   case panic u=>exact hQ _ _ _ h
 ·rw [if_neg hw] at h ⊢
  rw [swap] at h
  exact ⟨fun _ _=>trivial,keep a hy _,h.2⟩
def wpAnyEW (P:Program) (md:Region.Mode) (ops:Array Oper) (Q:Exit->Act->World->Prop) (bar:Nat->Bool) (S:World->Prop):Nat->Array Bool->Act->World->Prop
 | 0,listed,a,w=>Region.ready md ops listed=[]/\Q .normal a w
 | fuel+1,listed,a,w =>
  (Region.ready md ops listed=[]->Q .normal a w) /\
  ∀ i∈Region.ready md ops listed,wpOpIn Fence.wide 0 P ops Q i (fun a' w'=>(bar i=true->wpAnyIn Fence.wide 0 P md ops Q fuel (listed.setIfInBounds i true) a' w') /\
   (bar i=false->S w'/\wpAnyEW P md ops Q bar S fuel (listed.setIfInBounds i true) a' w')) a w
theorem wpAnyW_of_E:∀ (fuel:Nat) (listed:Array Bool) (a:Act) (w:World),wpAnyEW P md ops Q bar S fuel listed a w->wpAnyIn Fence.wide 0 P md ops Q fuel listed a w
 | 0,_,_,_,h=>h
 | fuel+1,_,_,_,h=>⟨h.1,fun i hi=>wpOpIn_mono (fun a' w' h'=>by
   cases hb:bar i with
   | true=>exact h'.1 hb
   | false=>exact wpAnyW_of_E fuel _ a' w' (h'.2 hb).2) (h.2 i hi)⟩
theorem wpAnyEW_mono {S':World->Prop} (hS:∀ w,S w->S' w):∀ (fuel:Nat) (listed:Array Bool) (a:Act) (w:World),wpAnyEW P md ops Q bar S fuel listed a w->wpAnyEW P md ops Q bar S' fuel listed a w
 | 0,_,_,_,h=>h
 | fuel+1,_,_,_,h=>⟨h.1,fun i hi=>wpOpIn_mono (fun a' w' h'=>⟨h'.1,fun hb=>⟨hS _ (h'.2 hb).1,wpAnyEW_mono hS fuel _ a' w' (h'.2 hb).2⟩⟩) (h.2 i hi)⟩
theorem wpAnyEW_first {i:Nat} {oi:Oper} {v:Value} (Yl:Act->Prop) (hi:ops[i]? = some oi)
  (hY1:∀ a w,S w->Yl a->∀ K:Act->World->Prop,K (a.put oi.dst v) w->wpOpIn Fence.wide 0 P ops Q i K a w)
  (hY2:∀ j oj,ops[j]? = some oj->oi.apart ops oj=true->∀ (K:Act->World->Prop) a w,Yl a->wpOpIn Fence.wide 0 P ops Q j K (a.put oi.dst v) w->wpOpIn Fence.wide 0 P ops Q j (fun a' w'=>Yl a'/\K (a'.put oi.dst v) w') a w)
  (hB:∀ j (listed:Array Bool) fuel a' w',bar j=true->ClosedL md ops listed->j∈Region.ready md ops listed->i∈Region.ready md ops (listed.setIfInBounds j true) ->
   (∀ k ok,ops[k]? = some ok->k≠i->(listed.setIfInBounds j true).getD k true=false->(∀ e∈ok.after,Region.binds md e=true->e.on≠i)->oi.apart ops ok=true) ->
   Yl a'->wpAnyIn Fence.wide 0 P md ops Q fuel ((listed.setIfInBounds j true).setIfInBounds i true) (a'.put oi.dst v) w'->wpAnyIn Fence.wide 0 P md ops Q (fuel+1) (listed.setIfInBounds j true) a' w') :
  ∀ (fuel:Nat) (listed:Array Bool) (a:Act) (w:World),ClosedL md ops listed ->
   (∀ j oj,ops[j]? = some oj->j≠i->listed.getD j true=false->(∀ e∈oj.after,Region.binds md e=true->e.on≠i)->oi.apart ops oj=true) ->
   i∈Region.ready md ops listed->bar i=false->Yl a->S w ->
   wpAnyEW P md ops Q bar S fuel (listed.setIfInBounds i true) (a.put oi.dst v) w->wpAnyEW P md ops Q bar S (fuel+1) listed a w:=by
 intro fuel
 induction fuel with
 | zero =>
  intro listed a w _ _ hr hbi hy hS H
  refine ⟨fun h=>(by rw [h] at hr; cases hr),fun j hj=>?_⟩
  by_cases hji:j=i
  ·subst hji
   exact hY1 a w hS hy _ ⟨fun e=>(by rw [hbi] at e; cases e),fun _=>⟨hS,H⟩⟩
  ·have:=ready_mono hj hji
   rw [H.1] at this
   cases this
 | succ fuel ih =>
  intro listed a w hcl hfree hr hbi hy hS H
  refine ⟨fun h=>(by rw [h] at hr; cases hr),fun j hj=>?_⟩
  by_cases hji:j=i
  ·subst hji
   exact hY1 a w hS hy _ ⟨fun e=>(by rw [hbi] at e; cases e),fun _=>⟨hS,H⟩⟩
  ·have h1:=H.2 j (ready_mono hj hji)
   obtain ⟨hjun,oj,hoj,hall⟩:=mem_ready.1 hj
   have hnot:∀ e∈oj.after,Region.binds md e=true->e.on≠i:=fun e he hb heq=>by
    have h1:=hall e he hb
    have h0:=(mem_ready.1 hr).1
    rw [heq] at h1
    rcases Nat.lt_or_ge i listed.size with h' | h'
    ·simp [h'] at h0 h1; rw [h0] at h1; cases h1
    ·simp [Array.getElem?_eq_none h'] at h1
   have h2:=hY2 j oj hoj (hfree j oj hoj hji hjun hnot) _ a w hy h1
   have hfree':∀ k ok,ops[k]? = some ok->k≠i->(listed.setIfInBounds j true).getD k true=false ->
     (∀ e∈ok.after,Region.binds md e=true->e.on≠i)->oi.apart ops ok=true:=fun k ok hk hki hun hno=>by
    refine hfree k ok hk hki ?_ hno
    by_cases hjk:j=k
    ·subst hjk; exact hjun
    ·rw [getD_set_ne true hjk] at hun; exact hun
   refine wpOpIn_mono (fun a' w' h3=>?_) h2
   obtain ⟨hy',h4,h5⟩:=h3
   refine ⟨fun hb=>?_,fun hb=>?_⟩
   ·have h6:=h4 hb
    rw [Array.setIfInBounds_comm _ _ (Ne.symm hji)] at h6
    exact hB j listed fuel a' w' hb hcl hj (ready_mono hr (Ne.symm hji)) hfree' hy' h6
   ·obtain ⟨hS',h6⟩:=h5 hb
    rw [Array.setIfInBounds_comm _ _ (Ne.symm hji)] at h6
    exact ⟨hS',ih (listed.setIfInBounds j true) a' w' (hcl.set hj) hfree' (ready_mono hr (Ne.symm hji)) hbi hy' hS' h6⟩
theorem anyEW_of:∀ (fuel:Nat) (listed:Array Bool) (a:Act) (w:World),wpAnyIn Fence.wide 0 P md ops Q fuel listed a w->wpAnyEW P md ops Q (fun _=>false) (fun _=>True) fuel listed a w
 | 0,_,_,_,h=>h
 | fuel+1,_,_,_,h=>⟨h.1,fun i hi=>wpOpIn_mono (fun a' w' h'=>⟨fun e=>(by cases e),fun _=>⟨trivial,anyEW_of fuel _ a' w' h'⟩⟩) (h.2 i hi)⟩
theorem anyW_first {i:Nat} {oi:Oper} {v:Value} (hi:ops[i]? = some oi) (hsel:∀ (j:Nat) (o:Oper) cs b,ops[j]? = some o->o.op ≠ .select cs b) (hQ:∀ c a w,Q (.panic c) (a.put oi.dst v) w->Q (.panic c) a w)
  (fuel:Nat) (listed:Array Bool) (a:Act) (w:World) (hcl:ClosedL md ops listed)
  (hfree:∀ j oj,ops[j]? = some oj->j≠i->listed.getD j true=false->(∀ e∈oj.after,Region.binds md e=true->e.on≠i)->oi.apart ops oj=true) (hr:i∈Region.ready md ops listed)
  (hy:YieldsIf P ops (fun _=>True) oi v a) (H:wpAnyIn Fence.wide 0 P md ops Q fuel (listed.setIfInBounds i true) (a.put oi.dst v) w):wpAnyIn Fence.wide 0 P md ops Q (fuel+1) listed a w :=
 wpAnyW_of_E _ _ _ _ (wpAnyEW_first (bar:=fun _=>false) (S:=fun _=>True) (fun a'=>YieldsIf P ops (fun _=>True) oi v a') hi (fun a' w' hS hy' K hK=>yieldsW hi hy' hS hK)
  (fun j oj hj hap K a' w' hy' hh=>putW hj hap (fun cs b=>hsel i oi cs b hi) (fun cs b=>hsel j oj cs b hj) hQ hy' hh) (fun j listed' fuel' a' w' hb=>by cases hb) fuel listed a w hcl hfree hr rfl hy trivial (anyEW_of _ _ _ _ H))
end
section
variable {P:Program} {C:CallP} {Q:PostD} {ops:Array Oper}
theorem seqY_sound (hC:CallOK P C) (w₀:World) (Fr:Act->Prop):∀ (l:List Oper) (a:Act) (w:World) (K:Act->Heap->Prop),keeps w₀ w->seqY P C (YieldsHP P) Q ops l a w.heap K ->
  (∀ a' w',keeps w₀ w'->FrL l a a'->K a' w'.heap->Q .normal a' w'.heap)->(∀ a',FrL l a a'->Fr a')->wpListIn Fence.wide 0 P ops (postOf w₀ Fr Q) l a w
 | [],a,w,K,hk,H,hQ,hF=>⟨hk,hF a (fun W _=>agree.refl W a),hQ a w hk (fun W _=>agree.refl W a) H⟩
 | o::rest,a,w,K,hk,H,hQ,hF=>by
  have hcons:∀ a1,(∀ W,dstIn W o=true->agree W a a1)->∀ a',FrL rest a1 a'->FrL (o::rest) a a':=fun a1 h1 a' h2 W hW=>by
   simp only [List.all_cons,Bool.and_eq_true] at hW
   exact (h1 W hW.1).trans (h2 W hW.2)
  have hrec:∀ a1 w1,keeps w₀ w1->(∀ W,dstIn W o=true->agree W a a1)->seqY P C (YieldsHP P) Q ops rest a1 w1.heap K->wpListIn Fence.wide 0 P ops (postOf w₀ Fr Q) rest a1 w1:=fun a1 w1 hk1 h1 H1 =>
   seqY_sound hC w₀ Fr rest a1 w1 K hk1 H1 (fun a' w' hk' hf=>hQ a' w' hk' (hcons a1 h1 a' hf)) (fun a' hf=>hF a' (hcons a1 h1 a' hf))
  unfold wpListIn
  rcases guardD_spec H with ⟨hw,H⟩ | ⟨hw,H⟩
  ·rw [if_pos hw]
   exact (stepY_wpIn hC H (fun a' w' hk' hs h=>hrec a' w' (hk.trans hk') (fun W hW=>step_agree hs hW) h) (fun c w' hk' h=>⟨hk.trans hk',h⟩))
  ·rw [if_neg (by rw [hw]; simp)]
   exact ⟨fun _ _=>trivial,hrec _ w hk (fun W hW=>(agree.refl W a).put hW undef) H⟩
theorem withY_wpOp (hC:CallOK P C) {w₀:World} {Fr:Act->Prop} {i:Nat} {a:Act} {w:World} {k:Act->Heap->Prop} {next:Act->World->Prop} (hk:keeps w₀ w) (H:withY P C (YieldsHP P) Q ops i a w.heap k)
  (hnext:∀ a' w',keeps w₀ w'->(∀ W,ops.toList.all (dstIn W)=true->agree W a a')->k a' w'.heap->next a' w'):wpOpIn Fence.wide 0 P ops (postOf w₀ Fr Q) i next a w:=by
 unfold withY at H
 split at H
 ·exact H.elim
 ·rename_i o ho
  unfold wpOpIn
  simp only [ho]
  have hin:∀ W,ops.toList.all (dstIn W)=true->dstIn W o=true:=fun W hW=>List.all_eq_true.1 hW o (by
   have:=Array.mem_of_getElem? ho
   simpa using this)
  rcases guardD_spec H with ⟨hw,H⟩ | ⟨hw,H⟩
  ·rw [if_pos hw]
   exact (stepY_wpIn hC H (fun a' w' hk' hs h=>hnext a' w' (hk.trans hk') (fun W hW=>step_agree hs (hin W hW)) h) (fun c w' hk' h=>⟨hk.trans hk',h⟩))
  ·rw [if_neg (by rw [hw]; simp)]
   exact ⟨fun _ _=>trivial,hnext _ w hk (fun W hW=>(agree.refl W a).put (hin W hW) undef) H⟩
theorem withY_of_new {Y:YP} {i:Nat} {a:Act} {h:Heap} {k:Act->Heap->Prop} (hn:newB ops i=true) (H:withD P C Q ops i a h k):withY P C Y Q ops i a h k:=by
 unfold newB at hn
 unfold withD at H
 unfold withY
 split at hn
 ·rename_i o ho
  simp only [ho] at H ⊢
  have hc:∀ c,o.op ≠ .call c:=fun c e=>by rw [e] at hn; cases hn
  have hb:∀ op t x y yt,o.op ≠ .binOp op t x y yt:=fun op t x y yt e=>by rw [e] at hn; cases hn
  simp only [stepY_eq hc hb]
  exact H
 ·cases hn
theorem goY_wpOp (hC:CallOK P C) {ro:Option (Nat->Prop)} {w₀:World} {Fr:Act->Prop} {i:Nat} {a:Act} {w:World} {k:Act->Heap->Prop} {next:Act->World->Prop} (hk:keeps w₀ w) (H:goY P C (YieldsHP P) Q ops ro i a w.heap k)
  (hnext:∀ a' w',keeps w₀ w'->(∀ W,ops.toList.all (dstIn W)=true->agree W a a')->relH ro w.heap w'.heap->k a' w'.heap->next a' w'):wpOpIn Fence.wide 0 P ops (postOf w₀ Fr Q) i next a w:=by
 unfold goY at H
 split at H
 ·rename_i hn; exact withY_wpOp hC hk (withY_of_new hn (new_withD hn H)) fun a' w' h1 h2 h=>hnext a' w' h1 h2 (h.1.rel ro) h.2
 ·exact withY_wpOp hC hk H fun a' w' h1 h2 h=>hnext a' w' h1 h2 h.1 h.2
theorem planY_sound (ro:Option (Nat->Prop)) (hC:CallOK P C) {R:List Tmp} (hQp:PanicOK R Q) (hR:avoidR R ops=true) (w₀:World) (a₀:Act) (Fr:Act->Prop) (hs:Region.noSelect ops=true)
  (hF:∀ a',(∀ W,ops.toList.all (dstIn W)=true->agree W a₀ a')->Fr a') :
  ∀ (p:Plan) (n:Nat) (bars:List Nat) (listed:Array Bool) (a:Act) (w:World),ClosedL .any ops listed->keeps w₀ w ->
   (∀ W,ops.toList.all (dstIn W)=true->agree W a₀ a)->planY P C (YieldsHP P) Q ops ro p a w.heap (fun a' h'=>Q .normal a' h') ->
   (okPlan ops true bars n listed p=true->wpAnyEW P .any ops (postOf w₀ Fr Q) (fun i=>bars.contains i) (fun w'=>relH ro w.heap w'.heap) n listed a w) /\
   (∀ m n',n=n'+1->okPlan ops false bars n listed p=true->m∈headsP p->m∈Region.ready .any ops listed ->
    wpOpIn Fence.wide 0 P ops (postOf w₀ Fr Q) m (fun a' w'=>(bars.contains m=true->wpAnyIn Fence.wide 0 P .any ops (postOf w₀ Fr Q) n' (listed.setIfInBounds m true) a' w') /\
     (bars.contains m=false->relH ro w.heap w'.heap/\wpAnyEW P .any ops (postOf w₀ Fr Q) (fun i=>bars.contains i) (fun w'=>relH ro w.heap w'.heap) n' (listed.setIfInBounds m true) a' w')) a w):=by
 have hsel:=Region.noSelect_spec hs
 have hQ':∀ (i:Nat) (o:Oper),ops[i]? = some o->∀ (v:Value) c a w,postOf w₀ Fr Q (.panic c) (a.put o.dst v) w->postOf w₀ Fr Q (.panic c) a w:=fun i o ho v c a w h=>⟨h.1,hQp c a o.dst v _ (avoidR_spec hR ho) h.2⟩
 intro p
 induction p with
 | done =>
  intro n bars listed a w hcl hk hag H
  refine ⟨fun hok=>?_,fun m n' _ _ hm=>by cases hm⟩
  have hr:Region.ready .any ops listed=[]:=by
   have:(readyL ops listed).isEmpty=true:=by cases n <;> exact hok
   simpa [readyL] using this
  cases n with
  | zero=>exact ⟨hr,hk,hF a hag,H⟩
  | succ n=>exact ⟨fun _=>⟨hk,hF a hag,H⟩,by rw [hr]; simp⟩
 | take i p ih =>
  intro n bars listed a w hcl hk hag H
  refine ⟨fun hok=>?_,fun m n' _ _ hm=>by cases hm⟩
  cases n with
  | zero=>cases hok
  | succ n =>
   simp only [okPlan,Bool.and_eq_true] at hok
   obtain ⟨⟨_,ht⟩,hok⟩:=hok
   unfold okTake at ht
   cases ho:ops[i]? with
   | none=>rw [ho] at ht; cases ht
   | some o =>
    rw [ho] at ht
    simp only [Bool.and_eq_true,Bool.not_eq_true',List.contains_eq_mem,decide_eq_true_eq,decide_eq_false_iff_not,Bool.or_eq_true] at ht
    obtain ⟨⟨⟨⟨hf,hr⟩,hfree⟩,hbi⟩,hload⟩:=ht
    obtain ⟨v,hv,hy,hyp⟩:=float_take hC ho hf H
    have hbi':(fun i=>bars.contains i) i=false:=by simpa using hbi
    have hin:∀ W,ops.toList.all (dstIn W)=true->agree W a₀ (a.put o.dst v):=fun W hW=>(hag W hW).put (List.all_eq_true.1 hW o (by
     have:=Array.mem_of_getElem? ho
     simpa using this)) v
    have hrec:=(ih n bars (listed.setIfInBounds i true) (a.put o.dst v) w (hcl.set hr) hk hin hv).1 hok
    cases hl:isLoad o.op with
    | false =>
     refine wpAnyEW_first (fun a'=>YieldsIf P ops (fun _=>True) o v a') ho (fun a' w' _ hy' K hK=>yieldsW ho hy' trivial hK)
      (fun j oj hj hap K a' w' hy' hh=>putW hj hap (fun cs b=>hsel i o cs b ho) (fun cs b=>hsel j oj cs b hj) (hQ' i o ho v) hy' hh)
      (fun j listed' fuel a' w' _ hcl' hrj hri hfr hy' hh=>anyW_first ho hsel (hQ' i o ho v) fuel _ a' w' (hcl'.set hrj) hfr hri hy' hh)
      n listed a w hcl (Region.free_spec ho hfree) hr hbi' (hyp hl).yieldsIf (relH.refl ro _) hrec
    | true =>
     refine wpAnyEW_first (fun a'=>YieldsIf P ops (fun w'=>relH ro w.heap w'.heap) o v a') ho (fun a' w' hS hy' K hK=>yieldsW ho hy' hS hK)
      (fun j oj hj hap K a' w' hy' hh=>putW hj hap (fun cs b=>hsel i o cs b ho) (fun cs b=>hsel j oj cs b hj) (hQ' i o ho v) hy' hh)
      (fun j listed' fuel a' w' hb hcl' hrj hri _ _ _=>by
       rcases hload with h | h
       ·rw [hl] at h; cases h
       ·have hd:=depB_spec (List.all_eq_true.1 h j (by simpa using hb))
        have h1:=hcl'.ready hd hrj
        have h2:=(mem_ready.1 hri).1
        have hji:j≠i:=fun e=>by subst e; exact hbi (by simpa using hb)
        rw [getD_set_ne true hji] at h2
        rcases Nat.lt_or_ge i listed'.size with h' | h'
        ·simp [h'] at h1 h2; rw [h1] at h2; cases h2
        ·simp [Array.getElem?_eq_none h'] at h1)
      n listed a w hcl (Region.free_spec ho hfree) hr hbi' hy (relH.refl ro _) hrec
 | keep p ih =>
  intro n bars listed a w hcl hk hag H
  exact H.elim
 | go i p ih =>
  intro n bars listed a w hcl hk hag H
  have one:∀ n',okPlan ops true bars n' (listed.setIfInBounds i true) p=true->bars.contains i=false->i∈Region.ready .any ops listed ->
    wpOpIn Fence.wide 0 P ops (postOf w₀ Fr Q) i (fun a' w'=>(bars.contains i=true->wpAnyIn Fence.wide 0 P .any ops (postOf w₀ Fr Q) n' (listed.setIfInBounds i true) a' w') /\
     (bars.contains i=false->relH ro w.heap w'.heap/\wpAnyEW P .any ops (postOf w₀ Fr Q) (fun i=>bars.contains i) (fun w'=>relH ro w.heap w'.heap) n' (listed.setIfInBounds i true) a' w')) a w:=fun n' hok hbi hr=>by
   refine goY_wpOp hC hk H fun a' w' hk' hin he h=>⟨fun hb=>(by rw [hbi] at hb; cases hb),fun _=>⟨he,?_⟩⟩
   exact wpAnyEW_mono (fun w'' hw=>he.trans hw) n' _ a' w' ((ih n' bars _ a' w' (hcl.set hr) hk' (fun W hW=>(hag W hW).trans (hin W hW)) h).1 hok)
  refine ⟨fun hok=>?_,fun m n' hn hok hm hr=>?_⟩
  ·cases n with
   | zero=>cases hok
   | succ n =>
    simp only [okPlan,Bool.and_eq_true,Bool.or_eq_true,decide_eq_true_eq,Bool.not_eq_true'] at hok
    obtain ⟨⟨hr,hbi⟩,hok⟩:=hok
    have hr':Region.ready .any ops listed=[i]:=by
     rcases hr with h | h
     ·cases h
     ·exact h
    refine ⟨fun h=>(by rw [hr'] at h; cases h),fun j hj=>?_⟩
    rw [hr'] at hj
    obtain rfl:=List.mem_singleton.1 hj
    exact one n hok hbi (by rw [hr']; simp)
  ·subst hn
   simp only [okPlan,Bool.and_eq_true,Bool.or_eq_true,decide_eq_true_eq,Bool.not_eq_true'] at hok
   obtain ⟨⟨_,hbi⟩,hok⟩:=hok
   obtain rfl:m=i:=List.mem_singleton.1 hm
   exact one n' hok hbi hr
 | alt i p q ihp ihq =>
  intro n bars listed a w hcl hk hag H
  have one:∀ n',okPlan ops true bars n' (listed.setIfInBounds i true) p=true->bars.contains i=false->i∈Region.ready .any ops listed ->
    wpOpIn Fence.wide 0 P ops (postOf w₀ Fr Q) i (fun a' w'=>(bars.contains i=true->wpAnyIn Fence.wide 0 P .any ops (postOf w₀ Fr Q) n' (listed.setIfInBounds i true) a' w') /\
     (bars.contains i=false->relH ro w.heap w'.heap/\wpAnyEW P .any ops (postOf w₀ Fr Q) (fun i=>bars.contains i) (fun w'=>relH ro w.heap w'.heap) n' (listed.setIfInBounds i true) a' w')) a w:=fun n' hok hbi hr=>by
   refine goY_wpOp hC hk H.1 fun a' w' hk' hin he h=>⟨fun hb=>(by rw [hbi] at hb; cases hb),fun _=>⟨he,?_⟩⟩
   exact wpAnyEW_mono (fun w'' hw=>he.trans hw) n' _ a' w' ((ihp n' bars _ a' w' (hcl.set hr) hk' (fun W hW=>(hag W hW).trans (hin W hW)) h).1 hok)
  have both:∀ m n',okPlan ops false bars (n'+1) listed q=true->okPlan ops true bars n' (listed.setIfInBounds i true) p=true->bars.contains i=false->m∈i::headsP q->m∈Region.ready .any ops listed ->
    wpOpIn Fence.wide 0 P ops (postOf w₀ Fr Q) m (fun a' w'=>(bars.contains m=true->wpAnyIn Fence.wide 0 P .any ops (postOf w₀ Fr Q) n' (listed.setIfInBounds m true) a' w') /\
     (bars.contains m=false->relH ro w.heap w'.heap/\wpAnyEW P .any ops (postOf w₀ Fr Q) (fun i=>bars.contains i) (fun w'=>relH ro w.heap w'.heap) n' (listed.setIfInBounds m true) a' w')) a w:=fun m n' hq hp hbi hm hr=>by
   rcases List.mem_cons.1 hm with rfl | hm
   ·exact one n' hp hbi hr
   ·exact (ihq (n'+1) bars listed a w hcl hk hag H.2).2 m n' rfl hq hm hr
  refine ⟨fun hok=>?_,fun m n' hn hok hm hr=>?_⟩
  ·cases n with
   | zero=>cases hok
   | succ n =>
    simp only [okPlan,Bool.and_eq_true,Bool.or_eq_true,decide_eq_true_eq,Bool.not_eq_true'] at hok
    obtain ⟨⟨⟨hr,hbi⟩,hok1⟩,hok2⟩:=hok
    have hr':Region.ready .any ops listed=i::headsP q:=by
     rcases hr with h | h
     ·cases h
     ·exact h
    refine ⟨fun h=>(by rw [hr'] at h; cases h),fun j hj=>?_⟩
    exact both j n hok2 hok1 hbi (by rw [hr'] at hj; exact hj) hj
  ·subst hn
   simp only [okPlan,Bool.and_eq_true,Bool.or_eq_true,decide_eq_true_eq,Bool.not_eq_true'] at hok
   obtain ⟨⟨⟨_,hbi⟩,hok1⟩,hok2⟩:=hok
   exact both m n' hok2 hok1 hbi hm hr
 | bar i bars' p ih =>
  intro n bars listed a w hcl hk hag H
  refine ⟨fun hok=>?_,fun m n' _ _ hm=>by cases hm⟩
  cases n with
  | zero=>cases hok
  | succ n =>
   simp only [okPlan,Bool.and_eq_true,decide_eq_true_eq] at hok
   obtain ⟨⟨⟨_,hr⟩,hbi⟩,hok⟩:=hok
   have hr':Region.ready .any ops listed=[i]:=hr
   refine ⟨fun h=>(by rw [hr'] at h; cases h),fun j hj=>?_⟩
   rw [hr'] at hj
   obtain rfl:=List.mem_singleton.1 hj
   refine withY_wpOp hC hk H fun a' w' hk' hin h=>⟨fun _=>?_,fun hb=>(by have hb:bars.contains j=false:=hb; rw [hbi] at hb; cases hb)⟩
   exact wpAnyW_of_E n _ a' w' ((ih n bars' _ a' w' (hcl.set (by rw [hr']; simp)) hk' (fun W hW=>(hag W hW).trans (hin W hW)) h).1 hok)
end
end Go.Den
namespace Go.Den
structure HintsY extends Hints where
 rng:Nat->Option (List CT):=fun _=>none
def keyX:Exit->Option Nat
 | .ret=>some 0
 | .exit id=>some (2*id+1)
 | .goto t=>some (2*t+2)
 | _=>none
def jumpsOf:Code->List Nat
 | .ret=>[0]
 | .exit id=>[2*id+1]
 | .goto t=>[2*t+2]
 | .seq a b=>jumpsOf a++jumpsOf b
 | .cond _ a b=>jumpsOf a++jumpsOf b
 | .block id c=>(jumpsOf c).filter fun k=>!(Nat.beq k (2*id+1))
 | .loop c=>jumpsOf c
 | _=>[]
def exitK:Nat->Exit
 | 0 => .ret
 | n+1=>match Nat.beq (n % 2) 0 with
  | true => .exit (n / 2)
  | false => .goto (n / 2)
def codeK:Nat->Code
 | 0 => .ret
 | n+1=>match Nat.beq (n % 2) 0 with
  | true => .exit (n / 2)
  | false => .goto (n / 2)
theorem exitK_key {e:Exit} {k:Nat} (h:keyX e=some k):exitK k=e/\((e = .ret/\codeK k = .ret)\/(∃ id,e = .exit id/\codeK k = .exit id)\/∃ t,e = .goto t/\codeK k = .goto t):=by
 cases e with
 | ret =>
  obtain rfl:=Option.some.inj h
  exact ⟨rfl, .inl ⟨rfl,rfl⟩⟩
 | exit id =>
  obtain rfl:=Option.some.inj h
  have h1:Nat.beq (2*id % 2) 0=true:=by rw [Nat.mul_mod_right]; rfl
  have h2:2*id / 2=id:=by omega
  refine ⟨?_, .inr (.inl ⟨id,rfl,?_⟩)⟩
  ·show (match Nat.beq (2*id % 2) 0 with | true=>Exit.exit (2*id / 2) | false => .goto (2*id / 2))=_
   rw [h1,h2]
  ·show (match Nat.beq (2*id % 2) 0 with | true=>Code.exit (2*id / 2) | false => .goto (2*id / 2))=_
   rw [h1,h2]
 | goto t =>
  obtain rfl:=Option.some.inj h
  have h1:Nat.beq ((2*t+1) % 2) 0=false:=by rw [show (2*t+1) % 2=1 by omega]; rfl
  have h2:(2*t+1) / 2=t:=by omega
  refine ⟨?_, .inr (.inr ⟨t,rfl,?_⟩)⟩
  ·show (match Nat.beq ((2*t+1) % 2) 0 with | true=>Exit.exit ((2*t+1) / 2) | false => .goto ((2*t+1) / 2))=_
   rw [h1,h2]
  ·show (match Nat.beq ((2*t+1) % 2) 0 with | true=>Code.exit ((2*t+1) / 2) | false => .goto ((2*t+1) / 2))=_
   rw [h1,h2]
 | normal=>cases h
 | panic c=>cases h
 | outgrown=>cases h
def objAt (h:Heap) (l:Nat) (o:Obj):Prop:=h[l]? = some o
def putO (h:Heap) (l:Nat) (o:Obj):Heap:=h.setIfInBounds l o
def mark (D:Nat) (a:Act):Act:={ a with defers:={ target := .collected D,args:=#[] }::a.defers }
def funD (v:Value) (K:FuncId->List Value->Prop):Prop:=match v with
 | .func (.func g) first lb=>(match first.toList with
  | []=>K g lb.toList
  | _=>False)
 | _=>False
theorem funD_spec {v:Value} {K:FuncId->List Value->Prop} (H:funD v K):∃ g lb,v = .func (.func g) #[] lb/\K g lb.toList:=by
 unfold funD at H
 split at H
 ·rename_i g first lb
  split at H
  ·rename_i hf
   have e:first=#[]:=by apply Array.toList_inj.1; rw [hf]
   exact ⟨g,lb,by rw [e],H⟩
  ·exact H.elim
 ·exact H.elim
def roundQ (l:Nat) (oR oB:Obj) (oJ:Nat->Obj) (js:List Nat) (K:VK):PostD:=fun e _ h=>match e with
 | .normal=>objAt h l oB/\K (.bool true) (putO h l oR)
 | e=>(match keyX e with
  | some k=>(match js.contains k with
   | true=>objAt h l oB/\K (.bool false) (putO h l (oJ k))
   | false=>False)
  | none=>False)
def assignQ (l:Nat) (oR oB:Obj) (next:Act->Heap->Prop):PostD:=fun e a h=>match e with
 | .normal=>objAt h l oR/\next a (putO h l oB)
 | _=>False
def afterQ (l:Nat) (oJ oXJ:Nat->Obj) (Q:PostD) (a:Act) (h:Heap):List Nat->Prop
 | []=>False
 | k::js=>(objAt h l (oJ k)/\Q (exitK k) a (putO h l (oXJ k)))\/afterQ l oJ oXJ Q a h js
def allTs:List CT->(List Value->Prop)->Prop
 | [],p=>p []
 | t::ts,p=>allC t fun v=>allTs ts fun vs=>p (v::vs)
def putTs:List Tmp->List Value->Act->Act
 | p::ps,v::vs,a=>putTs ps vs (a.put (some p) v)
 | _,_,a=>a
def noDefB (ops:Array Oper):Bool:=ops.toList.all fun o=>match o.op with
 | .defer _=>false
 | _=>true
def denY (P:Program) (C:CallP) (Y:YP) (H:HintsY):Bool->Code->PostD->Act->Heap->Prop
 | _, .skip,Q,a,h=>Q .normal a h
 | top, .region id ops draw,Q,a,h=>(match top || noDefB ops with
  | true=>(match draw with
   | false=>seqY P C Y Q ops ops.toList a h fun a' h'=>Q .normal a' h'
   | true=>(match H.plan id with
    | some (bars,p)=>(match checkPlan ops bars (stripK p) && avoidR H.keep ops with
     | true=>keepD (fun ro p=>planY P C Y Q ops ro p a h fun a' h'=>Q .normal a' h') p
     | false=>False)
    | none=>False))
  | false=>False)
 | top, .seq x y,Q,a,h=>(match hintAt H.join y with
  | none=>denY P C Y H top x (seqQ (fun a' h'=>denY P C Y H top y Q a' h') Q) a h
  | some (S,W)=>(match okW W x && inS W S with
   | true=>joinD S W (fun Q' a' h'=>denY P C Y H top x Q' a' h') (fun Q' a' h'=>denY P C Y H top y Q' a' h') Q a h
   | false=>False))
 | top, .cond c x y,Q,a,h=>(match a.eval c with
  | .bool b=>bcase b (denY P C Y H top x Q a h) (denY P C Y H top y Q a h)
  | _=>False)
 | top, .block id c,Q,a,h=>denY P C Y H top c (blockQ id Q) a h
 | top, .loop c,Q,a,h=>(match hintAt H.loop c with
  | none=>False
  | some (S,W)=>(match okW W c && inS W S with
   | true=>loopD S W (fun Q' a' h'=>denY P C Y H top c Q' a' h') Q a h
   | false=>False))
 | _, .exit id,Q,a,h=>Q (.exit id) a h
 | _, .label _,Q,a,h=>Q .normal a h
 | _, .goto l,Q,a,h=>Q (.goto l) a h
 | _, .ret,Q,a,h=>Q .ret a h
 | true, .rangeFunc g ps x y,Q,a,h=>(match (headId y).bind H.rng with
  | some ts=>(match Nat.beq ts.length ps.toList.length with
   | true=>funD (a.eval g) fun gf lb=>∀ (oR oB oX:Obj) (oJ oXJ:Nat->Obj),
     (∀ (h':Heap) (K:VK),objAt h' (h.size+1) oR->allTs ts fun vs =>
      denY P C Y H false x (assignQ (h.size+1) oR oB fun a1 h1=>denY P C Y H false y (roundQ (h.size+1) oR oB oJ (jumpsOf y) K) a1 h1) (putTs ps.toList vs { a with defers:=[] }) h'->Y (h.size+1) vs h' K) ->
     C gf (.func (.yield (h.size+1)) #[] #[]::lb).toArray ((h.push (.deferred (some []))).push oR)
      (fun _ h2=>(objAt h2 (h.size+1) oR/\Q .normal (mark h.size a) (putO h2 (h.size+1) oX))\/afterQ (h.size+1) oJ oXJ Q (mark h.size a) h2 (jumpsOf y)) (fun c h2=>Q (.panic c) (mark h.size a) h2)
   | false=>False)
  | none=>False)
 | _,_,_,_,_=>False
def FR:Option Nat->Fence
 | none=>Fence.wide
 | some l=>Fence.wide.inRound l
section
variable {P:Program} {ops:Array Oper} {Q:Exit->Act->World->Prop} {r:Nat}
theorem oper_round {o:Oper} {a:Act} {w:World} {next:Act->World->Prop} (hd:∀ c,o.op ≠ .defer c) (h:o.wpIn Fence.wide 0 P a w next Q):o.wpIn (Fence.wide.inRound r) 0 P a w next Q:=by
 refine ⟨fun _ _=>trivial,?_⟩
 have h:=h.2
 have e1:o.semAt Fence.wide.round a.eval=execOp a.eval o:=Oper.semAt_none _ _
 have e2:o.semAt (Fence.wide.inRound r).round a.eval=execOp a.eval o:=Oper.semAt_eq _ _ _ hd
 rw [e1] at h
 rw [e2]
 exact h
theorem no_def {ops:Array Oper} (h:noDefB ops=true) {o:Oper} (ho:o∈ops.toList):∀ c,o.op ≠ .defer c:=fun c e=>by
 have:=List.all_eq_true.1 h o ho
 rw [e] at this
 cases this
theorem list_round:∀ (l:List Oper) (a:Act) (w:World),(∀ o∈l,∀ c,o.op ≠ .defer c)->wpListIn Fence.wide 0 P ops Q l a w->wpListIn (Fence.wide.inRound r) 0 P ops Q l a w
 | [],a,w,_,h=>h
 | o::rest,a,w,hd,h=>by
  unfold wpListIn at h ⊢
  by_cases hw:Region.wanted o (yielded ops a.tmps)=true
  ·rw [if_pos hw] at h ⊢
   exact Oper.wpIn_mono (fun a' w' h'=>list_round rest a' w' (fun o ho=>hd o (List.mem_cons_of_mem _ ho)) h') (oper_round (hd o (List.mem_cons_self ..)) h)
  ·rw [if_neg hw] at h ⊢
   exact ⟨fun _ _=>trivial,list_round rest _ w (fun o ho=>hd o (List.mem_cons_of_mem _ ho)) h.2⟩
theorem op_round {i:Nat} {a:Act} {w:World} {K:Act->World->Prop} (hd:∀ o∈ops.toList,∀ c,o.op ≠ .defer c) (h:wpOpIn Fence.wide 0 P ops Q i K a w):wpOpIn (Fence.wide.inRound r) 0 P ops Q i K a w:=by
 unfold wpOpIn at h ⊢
 cases ho:ops[i]? with
 | none=>simp only [ho] at h ⊢; exact h
 | some o =>
  simp only [ho] at h ⊢
  have hm:o∈ops.toList:=by have:=Array.mem_of_getElem? ho; simpa using this
  by_cases hw:Region.wanted o (yielded ops a.tmps)=true
  ·rw [if_pos hw] at h ⊢
   exact oper_round (hd o hm) h
  ·rw [if_neg hw] at h ⊢
   exact ⟨fun _ _=>trivial,h.2⟩
theorem any_round {md:Region.Mode} (hd:∀ o∈ops.toList,∀ c,o.op ≠ .defer c):∀ (fuel:Nat) (listed:Array Bool) (a:Act) (w:World),wpAnyIn Fence.wide 0 P md ops Q fuel listed a w->wpAnyIn (Fence.wide.inRound r) 0 P md ops Q fuel listed a w
 | 0,_,_,_,h=>h
 | fuel+1,_,_,_,h=>⟨h.1,fun i hi=>wpOpIn_mono (fun a' w' h'=>any_round hd fuel _ a' w' h') (op_round hd (h.2 i hi))⟩
end
section
variable {P:Program} {H:HintsY} {F:Fence} {n:Nat}
theorem wpIn_loop_ex {c:Code} {Q:Exit->Act->World->Prop} {a:Act} {w:World} (I:Nat->Act->World->Prop) (h₀:∃ n,I n a w)
  (round:∀ m a w,I m a w->c.wpIn F n P (Exit.then (fun a' w'=>∃ m',m'<m/\I m' a' w') Q) a w):(Code.loop c).wpIn F n P Q a w:=by
 classical
 let μ:Act->World->Nat:=fun a w=>if h:∃ n,I n a w then Classical.choose (least h) else 0
 refine wpIn_loop (fun a w=>∃ n,I n a w) μ h₀ fun a w hI=>?_
 have hs:=Classical.choose_spec (least hI)
 refine wpIn_mono (round _ a w hs.1) fun e a' w' h=>?_
 cases e with
 | normal =>
  obtain ⟨m,hlt,hm⟩:=h
  refine ⟨⟨m,hm⟩,?_⟩
  have h1:μ a' w'=Classical.choose (least ⟨m,hm⟩):=dif_pos ⟨m,hm⟩
  have h2:μ a w=Classical.choose (least hI):=dif_pos hI
  rw [h1,h2]
  exact Nat.lt_of_le_of_lt ((Classical.choose_spec (least ⟨m,hm⟩)).2 m hm) hlt
 | _=>exact h
theorem allC_of {t:CT} {p:Value->Prop} (h:∀ v,p v):allC t p:=by
 cases t <;> first
  | exact fun x=>h _
  | exact fun q n c=>h _
theorem allTs_of:∀ {ts:List CT} {q:List Value->Prop},(∀ vs,vs.length=ts.length->q vs)->allTs ts q
 | [],q,h=>h [] rfl
 | t::ts,q,h=>allC_of fun v=>allTs_of fun vs hl=>h (v::vs) (by simp [hl])
theorem putTs_zip:∀ (ps:List Tmp) (vs:List Value) (a:Act),putTs ps vs a = { a with tmps:=(ps.zip vs).foldl (fun t (p,v)=>t.setIfInBounds p v) a.tmps }
 | [],vs,a=>by simp [putTs]
 | p::ps,[],a=>by simp [putTs]
 | p::ps,v::vs,a=>by
  rw [putTs,putTs_zip ps vs]
  rfl
theorem afterQ_spec {l:Nat} {oJ oXJ:Nat->Obj} {Q:PostD} {a:Act} {h:Heap}:∀ {js:List Nat},afterQ l oJ oXJ Q a h js->∃ k,objAt h l (oJ k)/\Q (exitK k) a (putO h l (oXJ k))
 | k::js,H=>by
  rcases H with H | H
  ·exact ⟨k,H⟩
  ·exact afterQ_spec H
theorem denY_sound (hm:P.follows .mixedOrders=true):∀ (c:Code) (ro:Option Nat) (w₀:World) (Q:PostD) (a:Act) (w:World),keeps w₀ w->PanicOK H.keep Q->denY P (CallsHP P) (YieldsHP P) H ro.isNone c Q a w.heap ->
  c.wpIn (FR ro) 0 P (postC w₀ c a Q) a w:=by
 have hC:=callsHP_ok P
 intro c
 induction c with
 | skip=>intro ro w₀ Q a w hk hp h; exact wpIn_skip ⟨hk,fun W _=>agree.refl W a,h⟩
 | region id ops draw =>
  intro ro w₀ Q a w hk hp h
  simp only [denY] at h
  split at h
  ·rename_i hok
   have hdef:∀ l,ro=some l->∀ o∈ops.toList,∀ c,o.op ≠ .defer c:=fun l hl o ho=>by
    rw [hl] at hok
    exact no_def (by simpa using hok) ho
   split at h
   ·have h1:=seqY_sound hC w₀ _ ops.toList a w _ hk h (fun _ _ _ _ h=>h) (fun a' hf W hW=>hf W hW)
    refine wpIn_region_list ?_
    cases ro with
    | none=>exact h1
    | some l=>exact list_round _ _ _ (hdef l rfl) h1
   ·split at h
    ·rename_i bars p hpl
     split at h
     ·rename_i hc
      simp only [checkPlan,noSel,Bool.and_eq_true] at hc
      obtain ⟨hc,hav⟩:=hc
      refine wpIn_region_any hm ?_
      obtain ⟨ro',h⟩:=keepD_spec h
      have h1:=wpAnyW_of_E _ _ _ _ ((planY_sound ro' hC hp hav w₀ a _ hc.1 (fun a' hf W hW=>hf W hW) (stripK p) _ bars _ a { w with drawn:=w.drawn+1 } (ClosedL.start _) ⟨hk.1,hk.2.1,hk.2.2⟩ (fun W _=>agree.refl W a) h).1 hc.2)
      cases ro with
      | none=>exact h1
      | some l=>exact any_round (hdef l rfl) _ _ _ _ h1
     ·exact h.elim
    ·exact h.elim
  ·exact h.elim
 | seq x y ihx ihy =>
  intro ro w₀ Q a w hk hp h
  have hseq:∀ a1 w1,frC x a a1->keeps w₀ w1->denY P (CallsHP P) (YieldsHP P) H ro.isNone y Q a1 w1.heap->y.wpIn (FR ro) 0 P (postC w₀ (.seq x y) a Q) a1 w1:=fun a1 w1 hf hk1 h1=>by
   refine wpIn_mono (ihy ro w₀ Q a1 w1 hk1 hp h1) fun e a' w' h2=>?_
   have hfr:frC y a1 a'->frC (.seq x y) a a':=fun hf2 W hW=>by
    simp only [okW,Bool.and_eq_true] at hW
    exact (hf W hW.1).trans (hf2 W hW.2)
   cases e <;> first | exact h2 | exact ⟨h2.1,hfr h2.2.1,h2.2.2⟩
  have hfx:∀ a',frC x a a'->frC (.seq x y) a a':=fun a' hf W hW=>by
   simp only [okW,Bool.and_eq_true] at hW
   exact hf W hW.1
  simp only [denY] at h
  split at h
  ·refine wpIn_seq (wpIn_mono (ihx ro w₀ _ a w hk (hp.seqQ _) h) fun e a1 w1 h1=>?_)
   cases e with
   | normal=>exact hseq a1 w1 h1.2.1 h1.1 h1.2.2
   | panic c=>exact h1
   | outgrown=>exact h1
   | exit id=>exact ⟨h1.1,hfx _ h1.2.1,h1.2.2⟩
   | goto l=>exact ⟨h1.1,hfx _ h1.2.1,h1.2.2⟩
   | ret=>exact ⟨h1.1,hfx _ h1.2.1,h1.2.2⟩
  ·rename_i S W hj
   split at h
   ·rename_i hok
    simp only [Bool.and_eq_true] at hok
    obtain ⟨K,h1,h2⟩:=h
    refine wpIn_seq (wpIn_mono (ihx ro w₀ _ a w hk (hp.joinQ S K) h1) fun e a1 w1 h1=>?_)
    cases e with
    | normal =>
     obtain ⟨ht,hK⟩:=headOK_spec h1.2.2
     have h3:=allCs_spec (h2 w1.heap (fun i=>a1.tmps.getD i undef)) ht hK
     rw [<- patch_self (h1.2.1 W hok.1)] at h3
     exact hseq a1 w1 h1.2.1 h1.1 h3
    | panic c=>exact h1
    | outgrown=>exact h1
    | exit id=>exact ⟨h1.1,hfx _ h1.2.1,h1.2.2⟩
    | goto l=>exact ⟨h1.1,hfx _ h1.2.1,h1.2.2⟩
    | ret=>exact ⟨h1.1,hfx _ h1.2.1,h1.2.2⟩
   ·exact h.elim
 | cond c x y ihx ihy =>
  intro ro w₀ Q a w hk hp h
  simp only [denY] at h
  split at h
  ·rename_i b hb
   unfold bcase at h
   cases b with
   | true =>
    refine wpIn_cond_true hb (wpIn_mono (ihx ro w₀ Q a w hk hp h) fun e a' w' h2=>?_)
    have hfr:frC x a a'->frC (.cond c x y) a a':=fun hf W hW=>by
     simp only [okW,Bool.and_eq_true] at hW
     exact hf W hW.1
    cases e <;> first | exact h2 | exact ⟨h2.1,hfr h2.2.1,h2.2.2⟩
   | false =>
    refine wpIn_cond_false hb (wpIn_mono (ihy ro w₀ Q a w hk hp h) fun e a' w' h2=>?_)
    have hfr:frC y a a'->frC (.cond c x y) a a':=fun hf W hW=>by
     simp only [okW,Bool.and_eq_true] at hW
     exact hf W hW.2
    cases e <;> first | exact h2 | exact ⟨h2.1,hfr h2.2.1,h2.2.2⟩
  ·exact h.elim
 | block id c ih =>
  intro ro w₀ Q a w hk hp h
  refine wpIn_block (wpIn_mono (ih ro w₀ _ a w hk (hp.blockQ id) h) fun e a' w' h2=>?_)
  cases e with
  | exit id' =>
   obtain ⟨h1,h3,h4⟩:=h2
   simp only [blockQ] at h4
   simp only [Exit.inBlock]
   split at h4
   ·rename_i hb
    rw [if_pos (Nat.eq_of_beq_eq_true hb)]
    exact ⟨h1,h3,h4⟩
   ·rename_i hb
    rw [if_neg (fun e=>by subst e; rw [Nat.beq_refl] at hb; cases hb)]
    exact ⟨h1,h3,h4⟩
  | normal=>exact h2
  | goto l=>exact h2
  | ret=>exact h2
  | panic c=>exact h2
  | outgrown=>exact h2
 | loop c ih =>
  intro ro w₀ Q a w hk hp h
  simp only [denY] at h
  split at h
  ·exact h.elim
  ·rename_i S W hj
   split at h
   ·rename_i hok
    simp only [Bool.and_eq_true] at hok
    obtain ⟨J,⟨n,h0⟩,hround⟩:=h
    obtain ⟨ht,hJ⟩:=headOK_spec h0
    refine wpIn_loop_ex (fun n a' w'=>keeps w₀ w'/\frC c a a'/\∃ vs u,typBs S vs=true/\a'=patch a S vs W u/\J n vs w'.heap)
     ⟨n,hk,fun W' _=>agree.refl W' a,valsOf S a,(fun i=>a.tmps.getD i undef),ht,patch_self (agree.refl W a),hJ⟩ ?_
    rintro n a' w' ⟨hk',hf',vs,u,htv,rfl,hJn⟩
    have h1:=allCs_spec (hround n w'.heap u) htv hJn
    refine wpIn_mono (ih ro w₀ _ _ w' hk' (hp.loopQ S J n) h1) fun e a'' w'' h2=>?_
    have hfr:frC c (patch a S vs W u) a''->frC c a a'':=fun hf2 W' hW=>(hf' W' hW).trans (hf2 W' hW)
    cases e with
    | normal =>
     obtain ⟨h3,h4,m,hlt,h5⟩:=h2
     obtain ⟨ht2,hJ2⟩:=headOK_spec h5
     exact ⟨m,hlt,h3,hfr h4,valsOf S a'',(fun i=>a''.tmps.getD i undef),ht2,patch_self (hfr h4 W hok.1),hJ2⟩
    | panic c=>exact h2
    | outgrown=>exact h2
    | exit id=>exact ⟨h2.1,hfr h2.2.1,h2.2.2⟩
    | goto l=>exact ⟨h2.1,hfr h2.2.1,h2.2.2⟩
    | ret=>exact ⟨h2.1,hfr h2.2.1,h2.2.2⟩
   ·exact h.elim
 | rangeFunc g ps x y ihx ihy =>
  intro ro w₀ Q a w hk hp h
  cases ro with
  | some l=>exact h.elim
  | none =>
   simp only [Option.isNone_none,denY] at h
   split at h
   ·rename_i ts hts
    split at h
    ·rename_i hlen
     have hlen:=Nat.eq_of_beq_eq_true hlen
     obtain ⟨gf,lb,hg,h⟩:=funD_spec h
     refine wpIn_rangeFunc fun fn hfn=>?_
     obtain ⟨rec,hrec⟩:∃ rec:LoopState->Option Code->Loop,rec=fun st pe=>{ state:=st,pending:=pe,fn,tmps:=a.tmps,params:=ps,assign:=x,body:=y,defers:=w.heap.size }:=⟨_,rfl⟩
     obtain ⟨W1,hW1⟩:∃ W1,(w.alloc (.deferred (some []))).alloc (.loop (rec .ready none))=W1:=⟨_,rfl⟩
     have hh1:W1.heap=(w.heap.push (.deferred (some []))).push (.loop (rec .ready none)):=by rw [<- hW1]; rfl
     have hk1:keeps w W1:=by rw [<- hW1]; exact keeps.refl w
     have H1:=h (.loop (rec .ready none)) (.loop (rec .busy none)) (.loop (rec .exhausted none)) (fun k => .loop (rec .done (some (codeK k)))) (fun k => .loop (rec .exhausted (some (codeK k)))) ?_
     ·rw [<- hh1] at H1
      obtain ⟨fn',h1,h2,h3⟩:=H1.1
      have hargs:(.func (.yield (w.heap.size+1)) #[] #[]::lb.toList).toArray=#[.func (.yield (w.heap.size+1)) #[] #[]]++lb:=by apply Array.toList_inj.1; simp
      rw [hargs] at H1
      refine ⟨w.heap.size+1,[{ target := .collected w.heap.size,args:=#[] }],W1,{ target := .fn (.func gf) lb,args:=#[.func (.yield (w.heap.size+1)) #[] #[]] },W1,gf,
       #[.func (.yield (w.heap.size+1)) #[] #[]]++lb,W1,?_,?_,fun _ _=>trivial,?_,fun hh=>by simp [FR,Fence.wide] at hh,?_⟩
      ·rw [<- hW1,hrec]; exact run_enterLoop_outer _ _ _ _ _
      ·simp only [resolve,hg]
       simp [go_sem]
      ·unfold invoke callFunc
       simp only [Sem.run_bind,run_program,Result.andThen,h1,h2,h3,Bool.false_eq_true,if_false,Sem.run_pure]
      ·refine (callsIn_wide.2 (H1.2 W1 rfl)).mono fun e w3 he=>?_
       obtain ⟨hk3,he⟩:=he
       have hk3:=hk.trans (hk1.trans hk3)
       cases e with
       | outgrown=>exact he.elim
       | panicked c=>exact ⟨hk3,he⟩
       | returned v =>
        rcases he with ⟨hl,hq⟩ | hq
        ·refine ⟨none,w3.putObj (w.heap.size+1) (.loop (rec .exhausted none)),?_,?_⟩
         ·have:=run_endLoop (P:=P) hl (by rw [hrec]; simp)
          rw [hrec] at this ⊢
          exact this
         ·exact ⟨hk3,(fun W hW=>by cases hW),hq⟩
        ·obtain ⟨k,hl,hq⟩:=afterQ_spec hq
         refine ⟨some (codeK k),w3.putObj (w.heap.size+1) (.loop (rec .exhausted (some (codeK k)))),?_,?_⟩
         ·have:=run_endLoop (P:=P) hl (by rw [hrec]; simp)
          rw [hrec] at this ⊢
          exact this
         ·have hq:Q (exitK k) (mark w.heap.size a) (w3.putObj (w.heap.size+1) (.loop (rec .exhausted (some (codeK k))))).heap:=hq
          generalize w3.putObj (w.heap.size+1) (.loop (rec .exhausted (some (codeK k))))=w4,hw4:w3.putObj (w.heap.size+1) (.loop (rec .exhausted (some (codeK k))))=w4 at hq ⊢
          have hk4:keeps w₀ w4:=by rw [<- hw4]; exact hk3
          unfold exitK at hq
          unfold codeK
          split at hq
          ·exact wpIn_ret ⟨hk4,(fun W hW=>by cases hW),hq⟩
          ·split at hq
           ·rename_i hb
            simp only [hb]
            exact wpIn_exit ⟨hk4,(fun W hW=>by cases hW),hq⟩
           ·rename_i hb
            simp only [hb]
            exact wpIn_goto ⟨hk4,(fun W hW=>by cases hW),hq⟩
     ·intro h' K hready
      refine allTs_of fun vs hvl hd w' hw'=>?_
      subst hw'
      have hsz:vs.toArray.size=(rec .ready none).params.size:=by
       rw [hrec]
       simp only [List.size_toArray,hvl]
       simpa using hlen
      have hy:=run_yield (P:=P) (args:=vs.toArray) hready hsz
      refine ⟨_,_,_,_,hy,roundIn_of_wpIn trivial ?_⟩
      have hact:({ tmps:=((rec .ready none).params.zip vs.toArray).foldl (fun tmps (t,a)=>tmps.setIfInBounds t a) (rec .ready none).tmps,defers:=[] }:Act)=putTs ps.toList vs { a with defers:=[] }:=by
       rw [putTs_zip,hrec]
       congr 1
       rw [<- Array.foldl_toList]
       simp
      rw [hact]
      have hx:=ihx (some (w.heap.size+1)) w' _ _ w' (keeps.refl w') (fun c a d v h _ hh=>hh.elim) hd
      rw [show (rec .ready none).assign=x by rw [hrec]]
      refine wpIn_mono hx fun e a1 w1 h1=>?_
      cases e with
      | normal =>
       obtain ⟨k1,_,hl1,hb⟩:=h1
       refine ⟨w1.putObj (w.heap.size+1) (.loop (rec .busy none)),?_,?_⟩
       ·have:=run_beginRound (P:=P) hl1 (by rw [hrec])
        rw [hrec] at this ⊢
        exact this
       ·rw [show (rec .ready none).body=y by rw [hrec]]
        refine wpIn_mono (ihy (some (w.heap.size+1)) w' _ a1 (w1.putObj (w.heap.size+1) (.loop (rec .busy none))) k1 (fun c a d v h _ hh=>hh.elim) hb) fun e a2 w2 h2=>?_
        have out:∀ e,keyX e≠none->keeps w' w2/\roundQ (w.heap.size+1) (.loop (rec .ready none)) (.loop (rec .busy none)) (fun k => .loop (rec .done (some (codeK k)))) (jumpsOf y) K e a2 w2.heap->∃ k,keyX e=some k /\
          (Instr.endRound (w.heap.size+1) (some (codeK k))).run P w2 = .ok (.bool false) (w2.putObj (w.heap.size+1) (.loop (rec .done (some (codeK k)))))/\keeps w' (w2.putObj (w.heap.size+1) (.loop (rec .done (some (codeK k))))) /\
          K (.bool false) (w2.putObj (w.heap.size+1) (.loop (rec .done (some (codeK k))))).heap:=fun e hne he=>by
         obtain ⟨k2,he⟩:=he
         cases hke:keyX e with
         | none=>exact absurd hke hne
         | some k =>
          have he':objAt w2.heap (w.heap.size+1) (.loop (rec .busy none))/\K (.bool false) (putO w2.heap (w.heap.size+1) (.loop (rec .done (some (codeK k))))):=by
           cases e <;> simp only [roundQ,hke] at he <;> first
            | (cases hke; done)
            | (split at he
               ·exact he
               ·exact he.elim)
          refine ⟨k,rfl,?_,k2,he'.2⟩
          have:=run_endRound (P:=P) (some (codeK k)) he'.1
          rw [hrec] at this ⊢
          exact this
        cases e with
        | normal =>
         obtain ⟨k2,_,hl2,hK⟩:=h2
         refine ⟨.bool true,w2.putObj (w.heap.size+1) (.loop (rec .ready none)),?_,k2,_,rfl,hK⟩
         have:=run_endRound (P:=P) none hl2
         rw [hrec] at this ⊢
         exact this
        | ret =>
         obtain ⟨k,hk',h3,h4,h5⟩:=out .ret (by simp [keyX]) ⟨h2.1,h2.2.2⟩
         obtain rfl:=Option.some.inj hk'
         exact ⟨.bool false,_,h3,h4,_,rfl,h5⟩
        | exit id =>
         obtain ⟨k,hk',h3,h4,h5⟩:=out (.exit id) (by simp [keyX]) ⟨h2.1,h2.2.2⟩
         have hc:codeK k = .exit id:=by
          rcases (exitK_key hk').2 with ⟨e1,_⟩ | ⟨id',e1,e2⟩ | ⟨t',e1,_⟩
          ·cases e1
          ·rw [e2]; cases e1; rfl
          ·cases e1
         rw [hc] at h3 h4 h5
         exact ⟨.bool false,_,h3,h4,_,rfl,h5⟩
        | goto t =>
         obtain ⟨k,hk',h3,h4,h5⟩:=out (.goto t) (by simp [keyX]) ⟨h2.1,h2.2.2⟩
         have hc:codeK k = .goto t:=by
          rcases (exitK_key hk').2 with ⟨e1,_⟩ | ⟨id',e1,e2⟩ | ⟨t',e1,e2⟩
          ·cases e1
          ·cases e1
          ·rw [e2]; cases e1; rfl
         rw [hc] at h3 h4 h5
         exact ⟨.bool false,_,h3,h4,_,rfl,h5⟩
        | panic c=>exact h2.2.elim
        | outgrown=>exact h2.elim
      | panic c=>exact h1.2.elim
      | outgrown=>exact h1.elim
      | ret=>exact h1.2.2.elim
      | exit id=>exact h1.2.2.elim
      | goto t=>exact h1.2.2.elim
    ·exact h.elim
   ·exact h.elim
 | exit id=>intro ro w₀ Q a w hk hp h; exact wpIn_exit ⟨hk,fun W _=>agree.refl W a,h⟩
 | scope c ih=>intro ro w₀ Q a w hk hp h; cases ro <;> exact h.elim
 | label l=>intro ro w₀ Q a w hk hp h; exact wpIn_label ⟨hk,fun W _=>agree.refl W a,h⟩
 | goto l=>intro ro w₀ Q a w hk hp h; exact wpIn_goto ⟨hk,fun W _=>agree.refl W a,h⟩
 | ret=>intro ro w₀ Q a w hk hp h; exact wpIn_ret ⟨hk,fun W _=>agree.refl W a,h⟩
 | refuse why=>intro ro w₀ Q a w hk hp h; cases ro <;> exact h.elim
end
end Go.Den
namespace Go.Den
def endY (Res:Heap->Prop) (ds:List Deferred) (h:Heap):Prop:=match ds with
 | []=>Res h
 | [d]=>(match d.target with
  | .collected D=>objAt h D (.deferred (some []))/\Res (putO h D (.deferred none))
  | _=>False)
 | _=>False
def fnQY (P:Program) (rs:List ResultVar) (K:VK) (Kp:PK):PostD:=fun e a h=>match e with
 | .normal=>endY (fun h'=>resD P a h' rs fun vs=>K (retV vs) h') a.defers h
 | .ret=>endY (fun h'=>resD P a h' rs fun vs=>K (retV vs) h') a.defers h
 | .panic c=>endY (fun h'=>Kp c h') a.defers h
 | _=>False
def fnY (P:Program) (C:CallP) (Y:YP) (H:HintsY) (fn:Func) (args:List Value) (h:Heap) (K:VK) (Kp:PK):Prop :=
 match fn.body with
 | some c=>denY P C Y H true c (fnQY P fn.results.toList K Kp) ⟨(args++List.replicate (fn.ntmps-args.length) undef).toArray,[]⟩ h
 | none=>False
section
variable {P:Program}
theorem fnQY_panic (rs:List ResultVar) (K:VK) (Kp:PK) (R:List Tmp):PanicOK R (fnQY P rs K Kp):=fun c a d v h _ hh=>by
 simp only [fnQY,put_defers] at hh ⊢
 exact hh
theorem endY_leaves {fn:Func} {tmps:Array Value} {R:Ending->World->Prop} {Res:Heap->Prop} {ds:List Deferred} {w w0:World} {u:FrameMode} (hu:u ≠ .run) (hk:keeps w0 w) (H:endY Res ds w.heap)
  (hR:∀ w',keeps w0 w'->Res w'.heap->LeavesIn Fence.wide 0 P fn tmps R [] u w'):LeavesInM Fence.wide 0 P fn tmps R ds u w:=by
 unfold endY at H
 split at H
 ·exact hR w hk H
 ·rename_i d
  split at H
  ·rename_i D hd
   refine ⟨hu, .inl ⟨D,w.putObj D (.deferred none),hd,run_takeDeferred H.1,hR _ hk H.2⟩⟩
  ·exact H.elim
 ·exact H.elim
theorem callsHP_ofY {f:FuncId} {fn:Func} {args:List Value} {h:Heap} {K:VK} {Kp:PK} (Hn:HintsY) (hm:P.follows .mixedOrders=true)
  (hf:P.funcs[f]? = some fn) (hn:(fn.name == "runtime.NumGoroutine")=false) (H:fnY P (CallsHP P) (YieldsHP P) Hn fn args h K Kp):CallsHP P f args.toArray h K Kp:=by
 unfold fnY at H
 split at H
 ·rename_i c hb
  refine ⟨⟨fn,hf,hn,by rw [hb]; rfl⟩,fun w hw=>?_⟩
  subst hw
  refine callsIn_wide.1 (callsIn_of_wp_marks (n:=0) hf hb trivial ?_)
  have hact:(⟨args.toArray++Array.replicate (fn.ntmps-args.toArray.size) undef,[]⟩:Act)=⟨(args++List.replicate (fn.ntmps-args.length) undef).toArray,[]⟩:=by
   congr 1
   apply Array.toList_inj.1
   simp
  rw [hact]
  have h1:=denY_sound hm c none w _ _ w (keeps.refl w) (fnQY_panic _ K Kp _) H
  refine wpIn_mono (F:=Fence.wide) (n:=0) h1 fun e a w' he=>?_
  have res:∀ w'',keeps w w''->resD P a w''.heap fn.results.toList (fun vs=>K (retV vs) w''.heap)->LeavesIn Fence.wide 0 P fn a.tmps (fun e w'=>keeps w w'/\match e with
    | .returned v=>K v w'.heap
    | .panicked c=>Kp c w'.heap
    | .outgrown=>False) [] .returning w'':=fun w'' hk hr=>by
   obtain ⟨v,hv,hkv⟩:=results_run hr
   exact ⟨v,hv,hk,hkv⟩
  cases e with
  | normal =>
   obtain ⟨h2,_,h3⟩:=he
   exact endY_leaves (Res:=fun h'=>resD P a h' fn.results.toList fun vs=>K (retV vs) h') (by simp) h2 h3 res
  | ret =>
   obtain ⟨h2,_,h3⟩:=he
   exact endY_leaves (Res:=fun h'=>resD P a h' fn.results.toList fun vs=>K (retV vs) h') (by simp) h2 h3 res
  | panic c =>
   obtain ⟨h2,h3⟩:=he
   exact endY_leaves (Res:=fun h'=>Kp c h') (by simp) h2 h3 fun w'' hk hr=>⟨hk,hr⟩
  | outgrown=>exact he.elim
  | exit id=>exact he.2.2.elim
  | goto l=>exact he.2.2.elim
 ·exact H.elim
end
end Go.Den
namespace Go.Den.YtbknfejmdekhpaaGreat
open Go Go.Den
def whole_Put (C:CallP) (Y:YP) (c:Option Addr) (base:Int) (n_1:Int) (n_2:Bool) (h:Heap) (K:VK) (Kp:PK):Prop :=
newC h [.pointer c] T_p_arith_Coder fun r_3 h_4 =>
newC h_4 [.int .i64 base] T_int fun r_5 h_6 =>
newC h_6 [.int .i64 n_1, .bool n_2] T_api_Whole fun r_7 h_8 =>
newC h_8 [.int .i64 0] T_api_Errno fun r_9 h_10 =>
ldP h_10 (⟨r_3,0,none⟩:Addr) fun x_11 =>
bcase x_11.isNone (
stV h_10 (⟨r_9,0,none⟩:Addr) (.int .i64 53) fun h_12 =>
ldI h_12 (⟨r_9,0,none⟩:Addr) .i64 fun r_13 =>
K (.int .i64 r_13) h_12) <|
ldI h_10 (⟨r_5,0,none⟩:Addr) .i64 fun x_14 =>
ldP h_10 (⟨r_3,0,none⟩:Addr) fun x_15 =>
ptr x_15 fun a_16 =>
C F_arith_table_Contexts #[.pointer (some (a_16.add 0))] h_10 (fun v_17 h_18 =>
∃ (r_19:Int),v_17 = .int .i64 r_19/\(
hext h_10 h_18/\(
C F_whole_fits #[.int .i64 x_14, .int .i64 512, .int .i64 r_19] h_18 (fun v_20 h_21 =>
∃ (r_22:Bool),v_20 = .bool r_22/\(
bcase (!r_22) (
stV h_21 (⟨r_9,0,none⟩:Addr) (.int .i64 51) fun h_23 =>
ldI h_23 (⟨r_9,0,none⟩:Addr) .i64 fun r_24 =>
K (.int .i64 r_24) h_23) <|
ldI h_21 ((⟨r_7,0,none⟩:Addr).add 0) .i64 fun x_25 =>
ldB h_21 ((⟨r_7,0,none⟩:Addr).add 1) fun x_26 =>
C F_whole_right #[.agg #[.int .i64 x_25, .bool x_26]] h_21 (fun v_27 h_28 =>
∃ (r_29:Bool),v_27 = .bool r_29/\(
bcase (!r_29) (
stV h_28 (⟨r_9,0,none⟩:Addr) (.int .i64 50) fun h_30 =>
ldI h_30 (⟨r_9,0,none⟩:Addr) .i64 fun r_31 =>
K (.int .i64 r_31) h_30) <|
newC h_28 [.int .i64 0] T_int fun r_32 h_33 =>
stV h_33 (⟨r_32,0,none⟩:Addr) (.int .i64 1) fun h_34 =>
ldI h_34 ((⟨r_7,0,none⟩:Addr).add 0) .i64 fun x_35 =>
ldB h_34 ((⟨r_7,0,none⟩:Addr).add 1) fun x_36 =>
C F_whole_bits #[.agg #[.int .i64 x_35, .bool x_36]] h_34 (fun v_37 h_38 =>
∃ (r_39:Value),v_37=r_39/\(
funD (r_39) fun g_40 lb_41 =>
∀ (oR_42 oB_43 oX_44:Obj) (oJ_45 oXJ_46:Nat->Obj),
(∀ (h_47:Heap) (Kr_48:VK),objAt h_47 (h_38.size+1) oR_42->∀ (x_50:Int),(
objAt h_47 (h_38.size+1) oR_42/\(
ldP (putO h_47 (h_38.size+1) oB_43) (⟨r_3,0,none⟩:Addr) fun x_51 =>
ldI (putO h_47 (h_38.size+1) oB_43) (⟨r_5,0,none⟩:Addr) .i64 fun x_52 =>
ldI (putO h_47 (h_38.size+1) oB_43) (⟨r_32,0,none⟩:Addr) .i64 fun x_53 =>
bindI (IntKind.i64.wrap (x_52+x_53)) fun z_54 =>
C F_arith_Coder_Put #[.pointer x_51, .int .i64 z_54, .int .i64 x_50] (putO h_47 (h_38.size+1) oB_43) (fun v_55 h_56 =>
∃ (r_57:Int),v_55 = .int .i64 r_57/\(
bcase (r_57 != (0:Int)) (
stV h_56 (⟨r_9,0,none⟩:Addr) (.int .i64 r_57) fun h_58 =>
objAt h_58 (h_38.size+1) oB_43/\Kr_48 (.bool false) (putO h_58 (h_38.size+1) (oJ_45 0))) <|
ldI h_56 (⟨r_32,0,none⟩:Addr) .i64 fun x_59 =>
C F_whole_next #[.int .i64 x_59, .int .i64 x_50] h_56 (fun v_60 h_61 =>
∃ (r_62:Int),v_60 = .int .i64 r_62/\(
stV h_61 (⟨r_32,0,none⟩:Addr) (.int .i64 r_62) fun h_63 =>
objAt h_63 (h_38.size+1) oB_43/\Kr_48 (.bool true) (putO h_63 (h_38.size+1) oR_42))) (fun _ _=>False))) (fun _ _=>False)))->Y (h_38.size+1) [.int .i64 x_50] h_47 Kr_48) ->
C g_40 (.func (.yield (h_38.size+1)) #[] #[]::lb_41).toArray ((h_38.push (.deferred (some []))).push oR_42) (fun _ h_49=>(objAt h_49 (h_38.size+1) oR_42/\(
stV (putO h_49 (h_38.size+1) oX_44) (⟨r_9,0,none⟩:Addr) (.int .i64 0) fun h_64 =>
objAt h_64 h_38.size (.deferred (some []))/\(
ldI (putO h_64 h_38.size (.deferred none)) (⟨r_9,0,none⟩:Addr) .i64 fun r_65 =>
K (.int .i64 r_65) (putO h_64 h_38.size (.deferred none)))))\/(objAt h_49 (h_38.size+1) (oJ_45 0)/\(
objAt (putO h_49 (h_38.size+1) (oXJ_46 0)) h_38.size (.deferred (some []))/\(
ldI (putO (putO h_49 (h_38.size+1) (oXJ_46 0)) h_38.size (.deferred none)) (⟨r_9,0,none⟩:Addr) .i64 fun r_66 =>
K (.int .i64 r_66) (putO (putO h_49 (h_38.size+1) (oXJ_46 0)) h_38.size (.deferred none)))))\/False) (fun c_67 h_68=>objAt h_68 h_38.size (.deferred (some []))/\Kp c_67 (putO h_68 h_38.size (.deferred none))))) (Kp))) (Kp))) (Kp)))) (Kp)
def whole_PutID (C:CallP) (c:Option Addr) (base:Int) (width:Int) (id:Int) (h:Heap) (K:VK) (Kp:PK):Prop :=
bcase c.isNone (
K (.int .i64 53) h) <|
ptr c fun a_1 =>
C F_arith_table_Contexts #[.pointer (some (a_1.add 0))] h (fun v_2 h_3 =>
∃ (r_4:Int),v_2 = .int .i64 r_4/\(
C F_whole_ids #[.int .i64 base, .int .i64 width, .int .i64 r_4] h_3 (fun v_5 h_6 =>
∃ (r_7:Int),v_5 = .int .i64 r_7/\(
bcase (r_7 != (0:Int)) (
K (.int .i64 r_7) h_6) <|
bcase (decide (id<(0:Int))) (
K (.int .i64 50) h_6) <|
needs (0<=width) <|
bindI (shrI .i64 id width) fun z_8 =>
bcase (z_8 != (0:Int)) (
K (.int .i64 50) h_6) <|
bindI (IntKind.i64.wrap (width-(1:Int))) fun z_9 =>
∃ J_10:Nat->List Value->Heap->Prop,(∃ n_12,J_10 n_12 [.int .i64 1, .int .i64 z_9] h_6)/\∀ (n_12:Nat) (h_13:Heap) (u_14:Nat->Value) (v_15:Int) (i_16:Int),J_10 n_12 [.int .i64 v_15, .int .i64 i_16] h_13->(
bcase (decide (i_16≥(0:Int))) (
needs (0<=i_16) <|
bindI (shrI .i64 id i_16) fun z_17 =>
bindI (bitI .and .i64 z_17 (1:Int)) fun z_18 =>
bindI (IntKind.i64.wrap (base+v_15)) fun z_19 =>
C F_arith_Coder_Put #[.pointer c, .int .i64 z_19, .int .i64 z_18] h_13 (fun v_20 h_21 =>
∃ (r_22:Int),v_20 = .int .i64 r_22/\(
bcase (r_22 != (0:Int)) (
K (.int .i64 r_22) h_21) <|
bindI (IntKind.i64.wrap ((2:Int)*v_15)) fun z_23 =>
bindI (IntKind.i64.wrap (z_23+z_18)) fun z_24 =>
bindI (IntKind.i64.wrap (i_16-(1:Int))) fun z_25 =>
∃ m_11,m_11<n_12/\J_10 m_11 [.int .i64 z_24, .int .i64 z_25] h_21)) (Kp)) <|
K (.int .i64 0) h_13))) (Kp))) (Kp)
def whole_fits (C:CallP) (base:Int) (many:Int) (all:Int) (h:Heap) (K:VK) (Kp:PK):Prop :=
bcase (decide (base≥(0:Int))) (
bindI (IntKind.i64.wrap (all-many)) fun z_1 =>
K (.bool (decide (base<=z_1))) h) <|
K (.bool false) h
def whole_right (C:CallP) (n_1:Int) (n_2:Bool) (h:Heap) (K:VK) (Kp:PK):Prop :=
newC h [.int .i64 n_1, .bool n_2] T_api_Whole fun r_3 h_4 =>
ldB h_4 ((⟨r_3,0,none⟩:Addr).add 1) fun x_5 =>
bcase x_5 (
K (.bool true) h_4) <|
ldI h_4 ((⟨r_3,0,none⟩:Addr).add 0) .i64 fun x_6 =>
bcase (decide (x_6≥(-2147483648:Int))) (
ldI h_4 ((⟨r_3,0,none⟩:Addr).add 0) .i64 fun x_7 =>
K (.bool (decide (x_7<=(2147483648:Int)))) h_4) <|
K (.bool false) h_4
def whole_bits (C:CallP) (n_1:Int) (n_2:Bool) (h:Heap) (K:VK) (Kp:PK):Prop :=
newC h [.int .i64 n_1, .bool n_2] T_api_Whole fun r_3 h_4 =>
∃ R_5:Nat->Prop,(
ldI h_4 ((⟨r_3,0,none⟩:Addr).add 0) .i64 fun x_6 =>
R_5 (((⟨r_3,0,none⟩:Addr).add 0):Addr).block/\(
bindI (IntKind.u64.wrap x_6) fun z_7 =>
(
newC h_4 [.int .i64 0] T_int fun r_8 h_9 =>
newC h_9 [.int .u64 0] T_uint64 fun r_10 h_11 =>
stV h_11 (⟨r_8,0,none⟩:Addr) (.int .i64 0) fun h_12 =>
hkeep R_5 h_11 h_12/\(
stV h_12 (⟨r_10,0,none⟩:Addr) (.int .u64 z_7) fun h_13 =>
ldI h_13 ((⟨r_3,0,none⟩:Addr).add 0) .i64 fun x_14 =>
bcase (decide (x_14<(0:Int))) (
∃ R_15:Nat->Prop,(
ldI h_13 (⟨r_10,0,none⟩:Addr) .u64 fun x_16 =>
R_15 ((⟨r_10,0,none⟩:Addr):Addr).block/\(
bindI (IntKind.u64.wrap (0-x_16)) fun z_17 =>
stV h_13 (⟨r_8,0,none⟩:Addr) (.int .i64 1) fun h_18 =>
hkeep R_15 h_13 h_18/\(
stV h_18 (⟨r_10,0,none⟩:Addr) (.int .u64 z_17) fun h_19 =>
ldB h_19 ((⟨r_3,0,none⟩:Addr).add 1) fun x_20 =>
bcase x_20 (
stV h_19 (⟨r_8,0,none⟩:Addr) (.int .i64 1) fun h_21 =>
stV h_21 (⟨r_10,0,none⟩:Addr) (.int .u64 0) fun h_22 =>
K (.func (.func F_whole_bits_c1) #[] #[.pointer (some ⟨r_8,0,none⟩), .pointer (some ⟨r_10,0,none⟩)]) h_22) <|
K (.func (.func F_whole_bits_c1) #[] #[.pointer (some ⟨r_8,0,none⟩), .pointer (some ⟨r_10,0,none⟩)]) h_19)))) <|
ldB h_13 ((⟨r_3,0,none⟩:Addr).add 1) fun x_23 =>
bcase x_23 (
stV h_13 (⟨r_8,0,none⟩:Addr) (.int .i64 1) fun h_24 =>
stV h_24 (⟨r_10,0,none⟩:Addr) (.int .u64 0) fun h_25 =>
K (.func (.func F_whole_bits_c1) #[] #[.pointer (some ⟨r_8,0,none⟩), .pointer (some ⟨r_10,0,none⟩)]) h_25) <|
K (.func (.func F_whole_bits_c1) #[] #[.pointer (some ⟨r_8,0,none⟩), .pointer (some ⟨r_10,0,none⟩)]) h_13))/\(
newC h_4 [.int .u64 0] T_uint64 fun r_26 h_27 =>
newC h_27 [.int .i64 0] T_int fun r_28 h_29 =>
stV h_29 (⟨r_28,0,none⟩:Addr) (.int .i64 0) fun h_30 =>
hkeep R_5 h_29 h_30/\(
stV h_30 (⟨r_26,0,none⟩:Addr) (.int .u64 z_7) fun h_31 =>
ldI h_31 ((⟨r_3,0,none⟩:Addr).add 0) .i64 fun x_32 =>
bcase (decide (x_32<(0:Int))) (
∃ R_33:Nat->Prop,(
ldI h_31 (⟨r_26,0,none⟩:Addr) .u64 fun x_34 =>
R_33 ((⟨r_26,0,none⟩:Addr):Addr).block/\(
bindI (IntKind.u64.wrap (0-x_34)) fun z_35 =>
stV h_31 (⟨r_28,0,none⟩:Addr) (.int .i64 1) fun h_36 =>
hkeep R_33 h_31 h_36/\(
stV h_36 (⟨r_26,0,none⟩:Addr) (.int .u64 z_35) fun h_37 =>
ldB h_37 ((⟨r_3,0,none⟩:Addr).add 1) fun x_38 =>
bcase x_38 (
stV h_37 (⟨r_28,0,none⟩:Addr) (.int .i64 1) fun h_39 =>
stV h_39 (⟨r_26,0,none⟩:Addr) (.int .u64 0) fun h_40 =>
K (.func (.func F_whole_bits_c1) #[] #[.pointer (some ⟨r_28,0,none⟩), .pointer (some ⟨r_26,0,none⟩)]) h_40) <|
K (.func (.func F_whole_bits_c1) #[] #[.pointer (some ⟨r_28,0,none⟩), .pointer (some ⟨r_26,0,none⟩)]) h_37)))) <|
ldB h_31 ((⟨r_3,0,none⟩:Addr).add 1) fun x_41 =>
bcase x_41 (
stV h_31 (⟨r_28,0,none⟩:Addr) (.int .i64 1) fun h_42 =>
stV h_42 (⟨r_26,0,none⟩:Addr) (.int .u64 0) fun h_43 =>
K (.func (.func F_whole_bits_c1) #[] #[.pointer (some ⟨r_28,0,none⟩), .pointer (some ⟨r_26,0,none⟩)]) h_43) <|
K (.func (.func F_whole_bits_c1) #[] #[.pointer (some ⟨r_28,0,none⟩), .pointer (some ⟨r_26,0,none⟩)]) h_31))))
def whole_next (C:CallP) (v:Int) (bit:Int) (h:Heap) (K:VK) (Kp:PK):Prop :=
bcase (decide (v<(256:Int))) (
bindI (IntKind.i64.wrap ((2:Int)*v)) fun z_1 =>
bindI (IntKind.i64.wrap (z_1+bit)) fun z_2 =>
K (.int .i64 z_2) h) <|
bindI (IntKind.i64.wrap ((2:Int)*v)) fun z_3 =>
bindI (IntKind.i64.wrap (z_3+bit)) fun z_4 =>
bindI (z_4.tmod (256:Int)) fun z_5 =>
bindI (IntKind.i64.wrap (z_5+(256:Int))) fun z_6 =>
K (.int .i64 z_6) h
def whole_Get (C:CallP) (d:Option Addr) (base:Int) (h:Heap) (K:VK) (Kp:PK):Prop :=
newC h [.int .i64 0, .bool false] T_api_Whole fun r_1 h_2 =>
bcase d.isNone (
stV h_2 ((⟨r_1,0,none⟩:Addr).add 0) (.int .i64 0) fun h_3 =>
stV h_3 ((⟨r_1,0,none⟩:Addr).add 1) (.bool false) fun h_4 =>
ldI h_4 ((⟨r_1,0,none⟩:Addr).add 0) .i64 fun r_5 =>
ldB h_4 ((⟨r_1,0,none⟩:Addr).add 1) fun r_6 =>
K (.tuple #[.agg #[.int .i64 r_5, .bool r_6], .int .i64 53]) h_4) <|
ptr d fun a_7 =>
C F_arith_table_Contexts #[.pointer (some (a_7.add 0))] h_2 (fun v_8 h_9 =>
∃ (r_10:Int),v_8 = .int .i64 r_10/\(
C F_whole_fits #[.int .i64 base, .int .i64 512, .int .i64 r_10] h_9 (fun v_11 h_12 =>
∃ (r_13:Bool),v_11 = .bool r_13/\(
bcase (!r_13) (
stV h_12 ((⟨r_1,0,none⟩:Addr).add 0) (.int .i64 0) fun h_14 =>
stV h_14 ((⟨r_1,0,none⟩:Addr).add 1) (.bool false) fun h_15 =>
ldI h_15 ((⟨r_1,0,none⟩:Addr).add 0) .i64 fun r_16 =>
ldB h_15 ((⟨r_1,0,none⟩:Addr).add 1) fun r_17 =>
K (.tuple #[.agg #[.int .i64 r_16, .bool r_17], .int .i64 51]) h_15) <|
newC h_12 [.pointer d, .int .i64 base, .int .i64 1, .int .i64 0] T_whole_getter fun r_18 h_19 =>
C F_whole_getter_bit #[.pointer (some ⟨r_18,0,none⟩)] h_19 (fun v_20 h_21 =>
∃ (r_22:Int),v_20 = .int .i64 r_22/\(
C F_whole_sizes #[] h_21 (fun v_23 h_24 =>
∃ (r_25:Option Addr) (r_25n:Nat) (r_25c:Nat),v_23 = .slice r_25 r_25n r_25c/\(
∃ K_26:List Value->Heap->Prop,(
∃ J_29:Nat->List Value->Heap->Prop,(∃ n_31,J_29 n_31 [.int .i64 0] h_24)/\∀ (n_31:Nat) (h_32:Heap) (u_33:Nat->Value) (k_34:Int),J_29 n_31 [.int .i64 k_34] h_32->(
bindI (IntKind.i64.wrap ((r_25n:Int)-(1:Int))) fun z_35 =>
bcase (decide (k_34<z_35)) (
C F_whole_getter_bit #[.pointer (some ⟨r_18,0,none⟩)] h_32 (fun v_36 h_37 =>
∃ (r_38:Int),v_36 = .int .i64 r_38/\(
bcase (r_38 == (1:Int)) (
bindI (IntKind.i64.wrap (k_34+(1:Int))) fun z_39 =>
∃ m_30,m_30<n_31/\J_29 m_30 [.int .i64 z_39] h_37) <|
K_26 [.int .i64 k_34] h_37)) (Kp)) <|
K_26 [.int .i64 k_34] h_32))/\∀ (h_27:Heap) (u_28:Nat->Value) (k_40:Int),K_26 [.int .i64 k_40] h_27->(
needs (0<=k_40/\k_40<(r_25n:Int)) <|
ptr r_25 fun a_41 =>
ldI h_27 ((a_41.add (k_40.toNat*2)).add 1) .i64 fun x_42 =>
∃ J_43:Nat->List Value->Heap->Prop,(∃ n_45,J_43 n_45 [.int .i64 0, .int .i64 0] h_27)/\∀ (n_45:Nat) (h_46:Heap) (u_47:Nat->Value) (m_48:Int) (x_49:Int),J_43 n_45 [.int .i64 m_48, .int .i64 x_49] h_46->(
bcase (decide (x_49<x_42)) (
bindI (IntKind.i64.wrap ((2:Int)*m_48)) fun z_50 =>
C F_whole_getter_bit #[.pointer (some ⟨r_18,0,none⟩)] h_46 (fun v_51 h_52 =>
∃ (r_53:Int),v_51 = .int .i64 r_53/\(
bindI (IntKind.i64.wrap (z_50+r_53)) fun z_54 =>
bindI (IntKind.i64.wrap (x_49+(1:Int))) fun z_55 =>
∃ m_44,m_44<n_45/\J_43 m_44 [.int .i64 z_54, .int .i64 z_55] h_52)) (Kp)) <|
needs (0<=k_40/\k_40<(r_25n:Int)) <|
ptr r_25 fun a_56 =>
ldI h_46 ((a_56.add (k_40.toNat*2)).add 0) .u64 fun x_57 =>
bindI (IntKind.i64.wrap x_57) fun z_58 =>
bindI (IntKind.i64.wrap (m_48+z_58)) fun z_59 =>
ldI h_46 ((⟨r_18,0,none⟩:Addr).add 3) .i64 fun x_60 =>
bcase (x_60 != (0:Int)) (
ldI h_46 ((⟨r_18,0,none⟩:Addr).add 3) .i64 fun x_61 =>
stV h_46 ((⟨r_1,0,none⟩:Addr).add 0) (.int .i64 0) fun h_62 =>
stV h_62 ((⟨r_1,0,none⟩:Addr).add 1) (.bool false) fun h_63 =>
hext h_46 h_63/\(
ldI h_63 ((⟨r_1,0,none⟩:Addr).add 0) .i64 fun r_64 =>
ldB h_63 ((⟨r_1,0,none⟩:Addr).add 1) fun r_65 =>
K (.tuple #[.agg #[.int .i64 r_64, .bool r_65], .int .i64 x_61]) h_63)) <|
bcase (decide (z_59 > (2147483648:Int))) (
stV h_46 ((⟨r_1,0,none⟩:Addr).add 0) (.int .i64 0) fun h_66 =>
stV h_66 ((⟨r_1,0,none⟩:Addr).add 1) (.bool false) fun h_67 =>
ldI h_67 ((⟨r_1,0,none⟩:Addr).add 0) .i64 fun r_68 =>
ldB h_67 ((⟨r_1,0,none⟩:Addr).add 1) fun r_69 =>
K (.tuple #[.agg #[.int .i64 r_68, .bool r_69], .int .i64 50]) h_67) <|
∃ K_70:List Value->Heap->Prop,(
bcase (r_22 == (1:Int)) (
K_70 [.bool (z_59 == (0:Int))] h_46) <|
K_70 [.bool false] h_46)/\∀ (h_71:Heap) (u_72:Nat->Value) (x_73:Bool),K_70 [.bool x_73] h_71->(
bcase x_73 (
stV h_71 ((⟨r_1,0,none⟩:Addr).add 0) (.int .i64 0) fun h_74 =>
stV h_74 ((⟨r_1,0,none⟩:Addr).add 1) (.bool true) fun h_75 =>
ldI h_75 ((⟨r_1,0,none⟩:Addr).add 0) .i64 fun r_76 =>
ldB h_75 ((⟨r_1,0,none⟩:Addr).add 1) fun r_77 =>
K (.tuple #[.agg #[.int .i64 r_76, .bool r_77], .int .i64 0]) h_75) <|
bcase (r_22 == (1:Int)) (
bindI (IntKind.i64.wrap (0-z_59)) fun z_78 =>
stV h_71 ((⟨r_1,0,none⟩:Addr).add 0) (.int .i64 z_78) fun h_79 =>
stV h_79 ((⟨r_1,0,none⟩:Addr).add 1) (.bool false) fun h_80 =>
ldI h_80 ((⟨r_1,0,none⟩:Addr).add 0) .i64 fun r_81 =>
ldB h_80 ((⟨r_1,0,none⟩:Addr).add 1) fun r_82 =>
K (.tuple #[.agg #[.int .i64 r_81, .bool r_82], .int .i64 0]) h_80) <|
stV h_71 ((⟨r_1,0,none⟩:Addr).add 0) (.int .i64 z_59) fun h_83 =>
stV h_83 ((⟨r_1,0,none⟩:Addr).add 1) (.bool false) fun h_84 =>
ldI h_84 ((⟨r_1,0,none⟩:Addr).add 0) .i64 fun r_85 =>
ldB h_84 ((⟨r_1,0,none⟩:Addr).add 1) fun r_86 =>
K (.tuple #[.agg #[.int .i64 r_85, .bool r_86], .int .i64 0]) h_84))))) (Kp))) (Kp))) (Kp))) (Kp)
def whole_GetID (C:CallP) (d:Option Addr) (base:Int) (width:Int) (h:Heap) (K:VK) (Kp:PK):Prop :=
bcase d.isNone (
K (.tuple #[.int .i64 0, .int .i64 53]) h) <|
ptr d fun a_1 =>
C F_arith_table_Contexts #[.pointer (some (a_1.add 0))] h (fun v_2 h_3 =>
∃ (r_4:Int),v_2 = .int .i64 r_4/\(
C F_whole_ids #[.int .i64 base, .int .i64 width, .int .i64 r_4] h_3 (fun v_5 h_6 =>
∃ (r_7:Int),v_5 = .int .i64 r_7/\(
bcase (r_7 != (0:Int)) (
K (.tuple #[.int .i64 0, .int .i64 r_7]) h_6) <|
∃ J_8:Nat->List Value->Heap->Prop,(∃ n_10,J_8 n_10 [.int .i64 1, .int .i64 0] h_6)/\∀ (n_10:Nat) (h_11:Heap) (u_12:Nat->Value) (v_13:Int) (x_14:Int),J_8 n_10 [.int .i64 v_13, .int .i64 x_14] h_11->(
bcase (decide (x_14<width)) (
bindI (IntKind.i64.wrap (base+v_13)) fun z_15 =>
C F_arith_Decoder_Get #[.pointer d, .int .i64 z_15] h_11 (fun v_16 h_17 =>
∃ (r_18:Int),∃ (r_19:Int),v_16 = .tuple #[.int .i64 r_18, .int .i64 r_19]/\(
bcase (r_19 != (0:Int)) (
K (.tuple #[.int .i64 0, .int .i64 r_19]) h_17) <|
bindI (IntKind.i64.wrap ((2:Int)*v_13)) fun z_20 =>
bindI (IntKind.i64.wrap (z_20+r_18)) fun z_21 =>
bindI (IntKind.i64.wrap (x_14+(1:Int))) fun z_22 =>
∃ m_9,m_9<n_10/\J_8 m_9 [.int .i64 z_21, .int .i64 z_22] h_17)) (Kp)) <|
needs (0<=width) <|
bindI (shlI .i64 (1:Int) width) fun z_23 =>
bindI (IntKind.i64.wrap (v_13-z_23)) fun z_24 =>
K (.tuple #[.int .i64 z_24, .int .i64 0]) h_11))) (Kp))) (Kp)
def whole_ids (C:CallP) (base:Int) (width:Int) (all:Int) (h:Heap) (K:VK) (Kp:PK):Prop :=
bcase (decide (width<(0:Int))) (
K (.int .i64 52) h) <|
bcase (decide (width > (12:Int))) (
K (.int .i64 52) h) <|
needs (0<=width) <|
bindI (shlI .i64 (1:Int) width) fun z_1 =>
C F_whole_fits #[.int .i64 base, .int .i64 z_1, .int .i64 all] h (fun v_2 h_3 =>
∃ (r_4:Bool),v_2 = .bool r_4/\(
bcase (!r_4) (
K (.int .i64 51) h_3) <|
K (.int .i64 0) h_3)) (Kp)
def whole_bits_c1 (C:CallP) (Y:YP) (yield:Nat) (cap0:Addr) (cap1:Addr) (h:Heap) (K:VK) (Kp:PK):Prop :=
ldI h cap0 .i64 fun x_1 =>
Y yield [.int .i64 x_1] h fun v_2 h_3 =>
∃ (r_4:Bool),v_2 = .bool r_4/\(
bcase (!r_4) (
K (.tuple #[]) h_3) <|
C F_whole_sizes #[] h_3 (fun v_5 h_6 =>
∃ (r_7:Option Addr) (r_7n:Nat) (r_7c:Nat),v_5 = .slice r_7 r_7n r_7c/\(
bindI (IntKind.i64.wrap ((r_7n:Int)-(1:Int))) fun z_8 =>
∃ J_9:Nat->List Value->Heap->Prop,(∃ n_11,J_9 n_11 [.int .i64 z_8] h_6)/\∀ (n_11:Nat) (h_12:Heap) (u_13:Nat->Value) (k_14:Int),J_9 n_11 [.int .i64 k_14] h_12->(
needs (0<=k_14/\k_14<(r_7n:Int)) <|
ptr r_7 fun a_15 =>
ldI h_12 cap1 .u64 fun x_16 =>
ldI h_12 ((a_15.add (k_14.toNat*2)).add 0) .u64 fun x_17 =>
bcase (decide (x_16<x_17)) (
bindI (IntKind.i64.wrap (k_14-(1:Int))) fun z_18 =>
∃ m_10,m_10<n_11/\J_9 m_10 [.int .i64 z_18] h_12) <|
∃ J_19:Nat->List Value->Heap->Prop,(∃ n_21,J_19 n_21 [.int .i64 0] h_12)/\∀ (n_21:Nat) (h_22:Heap) (u_23:Nat->Value) (x_24:Int),J_19 n_21 [.int .i64 x_24] h_22->(
bcase (decide (x_24<k_14)) (
Y yield [.int .i64 1] h_22 fun v_25 h_26 =>
∃ (r_27:Bool),v_25 = .bool r_27/\(
bcase (!r_27) (
K (.tuple #[]) h_26) <|
bindI (IntKind.i64.wrap (x_24+(1:Int))) fun z_28 =>
∃ m_20,m_20<n_21/\J_19 m_20 [.int .i64 z_28] h_26)) <|
∃ K_29:List Value->Heap->Prop,(
bindI (IntKind.i64.wrap ((r_7n:Int)-(1:Int))) fun z_32 =>
bcase (decide (k_14<z_32)) (
Y yield [.int .i64 0] h_22 fun v_33 h_34 =>
∃ (r_35:Bool),v_33 = .bool r_35/\(
bcase (!r_35) (
K (.tuple #[]) h_34) <|
K_29 [] h_34)) <|
K_29 [] h_22)/\∀ (h_30:Heap) (u_31:Nat->Value) ,K_29 [] h_30->(
needs (0<=k_14/\k_14<(r_7n:Int)) <|
ptr r_7 fun a_36 =>
ldI h_30 ((a_36.add (k_14.toNat*2)).add 1) .i64 fun x_37 =>
bindI (IntKind.i64.wrap (x_37-(1:Int))) fun z_38 =>
∃ J_39:Nat->List Value->Heap->Prop,(∃ n_41,J_39 n_41 [.int .i64 z_38] h_30)/\∀ (n_41:Nat) (h_42:Heap) (u_43:Nat->Value) (i_44:Int),J_39 n_41 [.int .i64 i_44] h_42->(
bcase (decide (i_44≥(0:Int))) (
needs (0<=k_14/\k_14<(r_7n:Int)) <|
ptr r_7 fun a_45 =>
ldI h_42 cap1 .u64 fun x_46 =>
ldI h_42 ((a_45.add (k_14.toNat*2)).add 0) .u64 fun x_47 =>
bindI (IntKind.u64.wrap (x_46-x_47)) fun z_48 =>
needs (0<=i_44) <|
bindI (shrI .u64 z_48 i_44) fun z_49 =>
bindI (IntKind.i64.wrap z_49) fun z_50 =>
bindI (bitI .and .i64 z_50 (1:Int)) fun z_51 =>
Y yield [.int .i64 z_51] h_42 fun v_52 h_53 =>
∃ (r_54:Bool),v_52 = .bool r_54/\(
bcase (!r_54) (
K (.tuple #[]) h_53) <|
bindI (IntKind.i64.wrap (i_44-(1:Int))) fun z_55 =>
∃ m_40,m_40<n_41/\J_39 m_40 [.int .i64 z_55] h_53)) <|
K (.tuple #[]) h_42)))))) (Kp))
def whole_sizes (C:CallP)  (h:Heap) (K:VK) (Kp:PK):Prop :=
newC h [.int .u64 0, .int .i64 2, .int .u64 4, .int .i64 4, .int .u64 20, .int .i64 6, .int .u64 84, .int .i64 8, .int .u64 340, .int .i64 12, .int .u64 4436, .int .i64 32] T_whole_size fun r_1 h_2 =>
K (.slice (some ⟨r_1,0,none⟩) 6 6) h_2
def whole_getter_bit (C:CallP) (g:Option Addr) (h:Heap) (K:VK) (Kp:PK):Prop :=
ptr g fun a_1 =>
ldI h (a_1.add 3) .i64 fun x_2 =>
bcase (x_2 != (0:Int)) (
K (.int .i64 0) h) <|
ptr g fun a_3 =>
ptr g fun a_4 =>
ptr g fun a_5 =>
ldP h (a_3.add 0) fun x_6 =>
ldI h (a_4.add 1) .i64 fun x_7 =>
ldI h (a_5.add 2) .i64 fun x_8 =>
bindI (IntKind.i64.wrap (x_7+x_8)) fun z_9 =>
C F_arith_Decoder_Get #[.pointer x_6, .int .i64 z_9] h (fun v_10 h_11 =>
∃ (r_12:Int),∃ (r_13:Int),v_10 = .tuple #[.int .i64 r_12, .int .i64 r_13]/\(
ptr g fun a_14 =>
stV h_11 (a_14.add 3) (.int .i64 r_13) fun h_15 =>
ptr g fun a_16 =>
ldI h_15 (a_16.add 2) .i64 fun x_17 =>
C F_whole_next #[.int .i64 x_17, .int .i64 r_12] h_15 (fun v_18 h_19 =>
∃ (r_20:Int),v_18 = .int .i64 r_20/\(
ptr g fun a_21 =>
stV h_19 (a_21.add 2) (.int .i64 r_20) fun h_22 =>
K (.int .i64 r_12) h_22)) (Kp))) (Kp)
end Go.Den.YtbknfejmdekhpaaGreat
namespace Go.Den.YtbknfejmdekhpaaGreat
open Go Go.Den
noncomputable def hints_whole_Put:HintsY:=HintsY.mk (Hints.mk (fun i=>bif Nat.beq i 3 then some ([5], .take 0 <| .take 1 <| .take 2 <| .take 3 <| .go 4 <| .bar 5 [] <| .take 6 <| .take 7 <| .done) else (none))
 (fun i=>none)
 (fun i=>none) []) (fun i=>bif Nat.beq i 10 then some ([.int .i64]) else (none))
theorem eq_whole_Put (C:CallP) (Y:YP) (c:Option Addr) (base:Int) (n_1:Int) (n_2:Bool) (h:Heap) (K:VK) (Kp:PK) :
  fnY Go.Proofs.Tryz.prog C Y hints_whole_Put Go.Proofs.Tryz.f95 [.pointer c, .int .i64 base, .agg #[.int .i64 n_1, .bool n_2]] h K Kp=whole_Put C Y c base n_1 n_2 h K Kp:=by kernel_rfl
theorem call_whole_Put {c:Option Addr} {base:Int} {n_1:Int} {n_2:Bool} {h:Heap} {K:VK} {Kp:PK} (H:whole_Put (CallsHP Go.Proofs.Tryz.prog) (YieldsHP Go.Proofs.Tryz.prog) c base n_1 n_2 h K Kp):CallsHP Go.Proofs.Tryz.prog F_whole_Put #[.pointer c, .int .i64 base, .agg #[.int .i64 n_1, .bool n_2]] h K Kp :=
 callsHP_ofY hints_whole_Put (by kernel_rfl) Go.Proofs.Tryz.func95 (by kernel_rfl) (by rw [eq_whole_Put]; exact H)
theorem call_whole_PutID {c:Option Addr} {base:Int} {width:Int} {id:Int} {h:Heap} {K:VK} {Kp:PK} (H:whole_PutID (CallsHP Go.Proofs.Tryz.prog) c base width id h K Kp):CallsHP Go.Proofs.Tryz.prog F_whole_PutID #[.pointer c, .int .i64 base, .int .i64 width, .int .i64 id] h K Kp :=
 callsHP_ofE (Hints.mk (fun i=>none) (fun i=>bif Nat.beq i 10 then some ([(10, .int .i64),(11, .int .i64)],144115119356394752) else (none)) (fun i=>none) []) (by kernel_rfl) Go.Proofs.Tryz.func141 (by kernel_rfl) (fun C=>whole_PutID C c base width id h K Kp) (fun C=>by kernel_rfl) H
theorem call_whole_fits {base:Int} {many:Int} {all:Int} {h:Heap} {K:VK} {Kp:PK} (H:whole_fits (CallsHP Go.Proofs.Tryz.prog) base many all h K Kp):CallsHP Go.Proofs.Tryz.prog F_whole_fits #[.int .i64 base, .int .i64 many, .int .i64 all] h K Kp :=
 callsHP_ofE (Hints.mk (fun i=>none) (fun i=>none) (fun i=>none) []) (by kernel_rfl) Go.Proofs.Tryz.func145 (by kernel_rfl) (fun C=>whole_fits C base many all h K Kp) (fun C=>by kernel_rfl) H
theorem call_whole_right {n_1:Int} {n_2:Bool} {h:Heap} {K:VK} {Kp:PK} (H:whole_right (CallsHP Go.Proofs.Tryz.prog) n_1 n_2 h K Kp):CallsHP Go.Proofs.Tryz.prog F_whole_right #[.agg #[.int .i64 n_1, .bool n_2]] h K Kp :=
 callsHP_ofE (Hints.mk (fun i=>none) (fun i=>none) (fun i=>none) []) (by kernel_rfl) Go.Proofs.Tryz.func147 (by kernel_rfl) (fun C=>whole_right C n_1 n_2 h K Kp) (fun C=>by kernel_rfl) H
theorem call_whole_bits {n_1:Int} {n_2:Bool} {h:Heap} {K:VK} {Kp:PK} (H:whole_bits (CallsHP Go.Proofs.Tryz.prog) n_1 n_2 h K Kp):CallsHP Go.Proofs.Tryz.prog F_whole_bits #[.agg #[.int .i64 n_1, .bool n_2]] h K Kp :=
 callsHP_ofE (Hints.mk (fun i=>bif Nat.beq i 1 then some ([6], .keep <| .take 0 <| .take 1 <| .take 2 <| .alt 3 (.go 4 <| .go 5 <| .bar 6 [] <| .done) <| .go 4 <| .go 3 <| .go 5 <| .bar 6 [] <| .done) else (bif Nat.beq i 3 then some ([3], .keep <| .take 0 <| .take 1 <| .go 2 <| .bar 3 [] <| .done) else (none))) (fun i=>none) (fun i=>none) []) (by kernel_rfl) Go.Proofs.Tryz.func148 (by kernel_rfl) (fun C=>whole_bits C n_1 n_2 h K Kp) (fun C=>by kernel_rfl) H
theorem call_whole_next {v:Int} {bit:Int} {h:Heap} {K:VK} {Kp:PK} (H:whole_next (CallsHP Go.Proofs.Tryz.prog) v bit h K Kp):CallsHP Go.Proofs.Tryz.prog F_whole_next #[.int .i64 v, .int .i64 bit] h K Kp :=
 callsHP_ofE (Hints.mk (fun i=>none) (fun i=>none) (fun i=>none) []) (by kernel_rfl) Go.Proofs.Tryz.func149 (by kernel_rfl) (fun C=>whole_next C v bit h K Kp) (fun C=>by kernel_rfl) H
theorem call_whole_Get {d:Option Addr} {base:Int} {h:Heap} {K:VK} {Kp:PK} (H:whole_Get (CallsHP Go.Proofs.Tryz.prog) d base h K Kp):CallsHP Go.Proofs.Tryz.prog F_whole_Get #[.pointer d, .int .i64 base] h K Kp :=
 callsHP_ofE (Hints.mk (fun i=>bif Nat.beq i 18 then some ([], .take 0 <| .take 1 <| .take 2 <| .take 3 <| .take 4 <| .go 5 <| .take 6 <| .done) else (none)) (fun i=>bif Nat.beq i 9 then some ([(9, .int .i64)],8793945539072) else (bif Nat.beq i 13 then some ([(10, .int .i64),(48, .int .i64)],71776119061218304) else (none))) (fun i=>bif Nat.beq i 11 then some ([(9, .int .i64)],8793945539072) else (bif Nat.beq i 22 then some ([(79, .bool)],76766789545528952593842176) else (none))) []) (by kernel_rfl) Go.Proofs.Tryz.func167 (by kernel_rfl) (fun C=>whole_Get C d base h K Kp) (fun C=>by kernel_rfl) H
theorem call_whole_GetID {d:Option Addr} {base:Int} {width:Int} {h:Heap} {K:VK} {Kp:PK} (H:whole_GetID (CallsHP Go.Proofs.Tryz.prog) d base width h K Kp):CallsHP Go.Proofs.Tryz.prog F_whole_GetID #[.pointer d, .int .i64 base, .int .i64 width] h K Kp :=
 callsHP_ofE (Hints.mk (fun i=>none) (fun i=>bif Nat.beq i 8 then some ([(9, .int .i64),(25, .int .i64)],8796059471552) else (none)) (fun i=>none) []) (by kernel_rfl) Go.Proofs.Tryz.func168 (by kernel_rfl) (fun C=>whole_GetID C d base width h K Kp) (fun C=>by kernel_rfl) H
theorem call_whole_ids {base:Int} {width:Int} {all:Int} {h:Heap} {K:VK} {Kp:PK} (H:whole_ids (CallsHP Go.Proofs.Tryz.prog) base width all h K Kp):CallsHP Go.Proofs.Tryz.prog F_whole_ids #[.int .i64 base, .int .i64 width, .int .i64 all] h K Kp :=
 callsHP_ofE (Hints.mk (fun i=>none) (fun i=>none) (fun i=>none) []) (by kernel_rfl) Go.Proofs.Tryz.func179 (by kernel_rfl) (fun C=>whole_ids C base width all h K Kp) (fun C=>by kernel_rfl) H
noncomputable def hints_whole_bits_c1:HintsY:=HintsY.mk (Hints.mk (fun i=>bif Nat.beq i 3 then some ([], .take 1 <| .take 2 <| .take 3 <| .take 4 <| .take 0 <| .take 5 <| .take 6 <| .done) else (bif Nat.beq i 13 then some ([12], .take 0 <| .take 2 <| .take 3 <| .take 4 <| .take 5 <| .take 8 <| .take 1 <| .take 6 <| .take 7 <| .take 9 <| .take 10 <| .take 11 <| .bar 12 [] <| .take 13 <| .done) else (none)))
 (fun i=>bif Nat.beq i 3 then some ([(5, .int .i64)],16744480) else (bif Nat.beq i 6 then some ([(25, .int .i64)],2113929216) else (bif Nat.beq i 11 then some ([(6, .int .i64)],36893347409930747968) else (none))))
 (fun i=>bif Nat.beq i 10 then some ([],2196875771904) else (none)) []) (fun i=>none)
theorem eq_whole_bits_c1 (C:CallP) (Y:YP) (yield:Nat) (cap0:Addr) (cap1:Addr) (h:Heap) (K:VK) (Kp:PK) :
  fnY Go.Proofs.Tryz.prog C Y hints_whole_bits_c1 Go.Proofs.Tryz.f188 [.func (.yield yield) #[] #[], .pointer (some cap0), .pointer (some cap1)] h K Kp=whole_bits_c1 C Y yield cap0 cap1 h K Kp:=by kernel_rfl
theorem call_whole_bits_c1 {yield:Nat} {cap0:Addr} {cap1:Addr} {h:Heap} {K:VK} {Kp:PK} (H:whole_bits_c1 (CallsHP Go.Proofs.Tryz.prog) (YieldsHP Go.Proofs.Tryz.prog) yield cap0 cap1 h K Kp):CallsHP Go.Proofs.Tryz.prog F_whole_bits_c1 #[.func (.yield yield) #[] #[], .pointer (some cap0), .pointer (some cap1)] h K Kp :=
 callsHP_ofY hints_whole_bits_c1 (by kernel_rfl) Go.Proofs.Tryz.func188 (by kernel_rfl) (by rw [eq_whole_bits_c1]; exact H)
theorem call_whole_sizes  {h:Heap} {K:VK} {Kp:PK} (H:whole_sizes (CallsHP Go.Proofs.Tryz.prog)  h K Kp):CallsHP Go.Proofs.Tryz.prog F_whole_sizes #[] h K Kp :=
 callsHP_ofE (Hints.mk (fun i=>none) (fun i=>none) (fun i=>none) []) (by kernel_rfl) Go.Proofs.Tryz.func189 (by kernel_rfl) (fun C=>whole_sizes C  h K Kp) (fun C=>by kernel_rfl) H
theorem call_whole_getter_bit {g:Option Addr} {h:Heap} {K:VK} {Kp:PK} (H:whole_getter_bit (CallsHP Go.Proofs.Tryz.prog) g h K Kp):CallsHP Go.Proofs.Tryz.prog F_whole_getter_bit #[.pointer g] h K Kp :=
 callsHP_ofE (Hints.mk (fun i=>bif Nat.beq i 3 then some ([13], .take 0 <| .take 1 <| .take 2 <| .take 4 <| .take 5 <| .take 6 <| .take 8 <| .take 9 <| .take 10 <| .take 3 <| .take 7 <| .take 11 <| .take 12 <| .bar 13 [] <| .take 14 <| .take 15 <| .take 16 <| .take 17 <| .take 18 <| .done) else (none)) (fun i=>none) (fun i=>none) []) (by kernel_rfl) Go.Proofs.Tryz.func194 (by kernel_rfl) (fun C=>whole_getter_bit C g h K Kp) (fun C=>by kernel_rfl) H
end Go.Den.YtbknfejmdekhpaaGreat
namespace Go.Bm
open Go Go.Den Go.Den.YtbknfejmdekhpaaGreat
def wFrom (k:Nat):Nat:=[0,4,20,84,340,4436].getD k 0
def wWid (k:Nat):Nat:=[2,4,6,8,12,32].getD k 0
def wK (m:Nat):Nat:=if m<4 then 0 else if m<20 then 1 else if m<84 then 2 else if m<340 then 3 else if m<4436 then 4 else 5
theorem wK_le (m:Nat):wK m<=5:=by unfold wK; (repeat' split) <;> omega
theorem wK_spec (m:Nat):wFrom (wK m)<=m/\∀ k,k<=5->wK m<k->m<wFrom k:=by
 have h1:wFrom 0=0:=rfl
 have h2:wFrom 1=4:=rfl
 have h3:wFrom 2=20:=rfl
 have h4:wFrom 3=84:=rfl
 have h5:wFrom 4=340:=rfl
 have h6:wFrom 5=4436:=rfl
 have all:∀ k,k<=5->k=0\/k=1\/k=2\/k=3\/k=4\/k=5:=fun k hk=>by omega
 unfold wK
 split
 ·exact ⟨by omega,fun k hk hl=>by rcases all k hk with rfl | rfl | rfl | rfl | rfl | rfl <;> omega⟩
 ·split
  ·exact ⟨by omega,fun k hk hl=>by rcases all k hk with rfl | rfl | rfl | rfl | rfl | rfl <;> omega⟩
  ·split
   ·exact ⟨by omega,fun k hk hl=>by rcases all k hk with rfl | rfl | rfl | rfl | rfl | rfl <;> omega⟩
   ·split
    ·exact ⟨by omega,fun k hk hl=>by rcases all k hk with rfl | rfl | rfl | rfl | rfl | rfl <;> omega⟩
    ·split
     ·exact ⟨by omega,fun k hk hl=>by rcases all k hk with rfl | rfl | rfl | rfl | rfl | rfl <;> omega⟩
     ·exact ⟨by omega,fun k hk hl=>by omega⟩
def tailB (x w:Nat):List Nat:=(List.range w).map fun i=>x / 2 ^ (w-1-i) % 2
theorem tailB_len (x w:Nat):(tailB x w).length=w:=by simp [tailB]
theorem tailB_at {x w i:Nat} (h:i<w):∃ rest,tailB x w=(tailB x w).take i++x / 2 ^ (w-1-i) % 2::rest:=by
 refine ⟨(tailB x w).drop (i+1),?_⟩
 have hl:i<(tailB x w).length:=by rw [tailB_len]; exact h
 have e:x / 2 ^ (w-1-i) % 2=(tailB x w)[i]:=by simp [tailB]
 rw [e,<- List.drop_eq_getElem_cons hl,List.take_append_drop]
theorem tailB_take {x w i:Nat} (h:i<w):(tailB x w).take (i+1)=(tailB x w).take i++[x / 2 ^ (w-1-i) % 2]:=by
 have hl:i<(tailB x w).length:=by rw [tailB_len]; exact h
 rw [List.take_succ_eq_append_getElem hl]
 simp [tailB]
def headB (sg m:Nat):List Nat:=[sg]++List.replicate (wK m) 1++(if wK m<5 then [0] else [])
def bitsL (sg m:Nat):List Nat:=headB sg m++tailB (m-wFrom (wK m)) (wWid (wK m))
def sizeC:List Value:=[.int .u64 0, .int .i64 2, .int .u64 4, .int .i64 4, .int .u64 20, .int .i64 6, .int .u64 84, .int .i64 8, .int .u64 340, .int .i64 12, .int .u64 4436, .int .i64 32]
theorem sizeC_get {k:Nat} (h:k<=5):sizeC[k*2]? = some (.int .u64 (wFrom k:Nat))/\sizeC[k*2+1]? = some (.int .i64 (wWid k:Nat)):=by
 have:k=0\/k=1\/k=2\/k=3\/k=4\/k=5:=by omega
 rcases this with rfl | rfl | rfl | rfl | rfl | rfl <;> exact ⟨rfl,rfl⟩
theorem wsizes_ok {hB:Heap} {K:VK} {Kp:PK} (hk:∀ r h',Hp hB [] h' [⟨r,true,T_whole_size,sizeC⟩]->K (.slice (at0 r) 6 6) h'):CP F_whole_sizes #[] hB K Kp:=by
 refine call_whole_sizes ?_
 unfold whole_sizes
 exact newC_hp (Hp.nil hB []) fun r h H=>hk r h H
theorem objExt {h h':Heap} {l:Nat} {o:Obj} (H:objAt h l o) (e:hext h h'):objAt h' l o:=by
 have hl:=(Array.getElem?_eq_some_iff.1 H).1
 exact (e.2 l hl).trans H
theorem hpX {h0 h h':Heap} {F:List Nat} {A M M':List Ent} {l:Nat} (H:Hp h0 F h (A++M)) (hw:M.all Ent.w=true) (H':Hp h (l::M.map Ent.b) h' M'):Hp h0 (l::F) h' M':=by
 have old:∀ b,b∈M.map Ent.b->b∈F\/h0.size<=b:=fun b hb=>by
  obtain ⟨e,he,rfl⟩:=List.mem_map.1 hb
  exact H.memw e (List.mem_append_right _ he) (List.all_eq_true.1 hw e he)
 refine ⟨⟨Nat.le_trans H.fr.1 H'.fr.1,fun b hb hF=>?_⟩,H'.bl,fun k e he hew=>?_,H'.nd⟩
 ·have hbl:b≠l:=fun e=>hF (by rw [e]; exact List.mem_cons_self ..)
  have hbF:b ∉ F:=fun e=>hF (List.mem_cons_of_mem _ e)
  rw [H'.fr.2 b (Nat.lt_of_lt_of_le hb H.fr.1) (fun hm=>by
   rcases List.mem_cons.1 hm with hm | hm
   ·exact hbl hm
   ·rcases old b hm with h1 | h1
    ·exact hbF h1
    ·omega)]
  exact H.fr.2 b hb hbF
 ·rcases H'.wr k e he hew with h1 | h1
  ·rcases List.mem_cons.1 h1 with h2 | h2
   ·exact .inl (by rw [h2]; exact List.mem_cons_self ..)
   ·rcases old _ h2 with h3 | h3
    ·exact .inl (List.mem_cons_of_mem _ h3)
    ·exact .inr h3
  ·exact .inr (Nat.le_trans H.fr.1 h1)
def BitOk (Y:YP) (l:Nat) (oR oJ:Obj) (bits:List Nat) (S:List Nat->List Ent->Prop) (Sx:List Ent->Prop):Prop :=
 (∀ pre M,S pre M->M.all Ent.w=true)/\∀ {hA h:Heap} {FF:List Nat} {M:List Ent} {pre rest:List Nat} {b:Nat} {K:VK},bits=pre++b::rest->S pre M->Hp hA FF h M->objAt h l oR ->
  (∀ M' h',S (pre++[b]) M'->Hp hA FF h' M'->objAt h' l oR->K (.bool true) h')->(∀ M' h',Sx M'->Hp hA (l::FF) h' M'->objAt h' l oJ->K (.bool false) h')->Y l [.int .i64 (b:Nat)] h K
end Go.Bm
namespace Go.Bm
open Go Go.Den Go.Den.YtbknfejmdekhpaaGreat
abbrev YS:YP:=YieldsHP Go.Proofs.Tryz.prog
set_option maxHeartbeats 2000000 in
theorem bitsC_ok {h0 h:Heap} {FF:List Nat} {M:List Ent} {l sg m:Nat} {oR oJ:Obj} {cap0 cap1:Addr} {S:List Nat->List Ent->Prop} {Sx:List Ent->Prop} (hm:m<4611686018427387904) (H:Hp h0 FF h M) (hS:S [] M) (hl:objAt h l oR)
  (hc0:hcell h0 cap0=some (.int .i64 (sg:Nat))) (hc1:hcell h0 cap1=some (.int .u64 (m:Nat))) (hn0:cap0.block ∉ FF) (hn1:cap1.block ∉ FF) (hY:BitOk YS l oR oJ (bitsL sg m) S Sx) {K:VK} {Kp:PK}
  (hk:∀ M' h',S (bitsL sg m) M'->Hp h0 FF h' M'->objAt h' l oR->K (.tuple #[]) h') (hx:∀ M' h',Sx M'->Hp h0 (l::FF) h' M'->objAt h' l oJ->K (.tuple #[]) h') :
  CP F_whole_bits_c1 #[.func (.yield l) #[] #[], .pointer (some cap0), .pointer (some cap1)] h K Kp:=by
 refine call_whole_bits_c1 (cap0:=cap0) (cap1:=cap1) ?_
 unfold whole_bits_c1
 refine ldI_of (H.fr.cell hn0 hc0) ?_
 have hb0:bitsL sg m=[]++sg::(List.replicate (wK m) 1++(if wK m<5 then [0] else [])++tailB (m-wFrom (wK m)) (wWid (wK m))):=by simp [bitsL,headB]
 refine hY.2 hb0 hS (Hp.giveS (A:=[]) H) hl (fun M1 h1 hs1 H1 ho1=>?_) fun M1 h1 hx1 H1 ho1=>⟨_,rfl,bcase_true rfl (hx M1 h1 hx1 (hpX (A:=[]) H (hY.1 _ _ hS) H1) ho1)⟩
 refine ⟨_,rfl,bcase_false rfl ?_⟩
 replace H:=Hp.putS (A:=[]) H (hY.1 _ _ hS) H1 (hY.1 _ _ hs1)
 clear H1
 rw [List.nil_append] at hs1
 refine wsizes_ok fun r h2 H2=>?_
 have ho2:=objExt ho1 H2.hext
 replace H:=(H.join H2 rfl).rot
 clear H2
 refine ⟨_,_,_,rfl,?_⟩
 have H:Hp h0 FF h2 ([⟨r,true,T_whole_size,sizeC⟩]++M1):=H
 have yld:∀ {h:Heap} {M:List Ent} {pre rest:List Nat} {b:Nat} {K1:VK},Hp h0 FF h ([⟨r,true,T_whole_size,sizeC⟩]++M)->objAt h l oR->S pre M->bitsL sg m=pre++b::rest ->
   (∀ M' h',S (pre++[b]) M'->Hp h0 FF h' ([⟨r,true,T_whole_size,sizeC⟩]++M')->objAt h' l oR->K1 (.bool true) h')->(∀ M' h',Sx M'->Hp h0 (l::FF) h' M'->objAt h' l oJ->K1 (.bool false) h')->YS l [.int .i64 (b:Nat)] h K1 :=
  fun H ho hs hb h1 h2=>hY.2 hb hs H.giveS ho (fun M' h' hs' H' ho'=>h1 M' h' hs' (H.putS (hY.1 _ _ hs) H' (hY.1 _ _ hs')) ho') fun M' h' hx' H' ho'=>h2 M' h' hx' (hpX H (hY.1 _ _ hs) H') ho'
 have hwk:=wK_le m
 obtain ⟨hw1,hw2⟩:=wK_spec m
 refine bindI_of (((5:Nat):Int)) (by exact i64_at _ _ (by omega) (by omega) (by omega)) ?_
 refine ⟨fun n vs h'=>∃ k:Nat,n=k/\wK m<=k/\k<=5/\vs=[.int .i64 (k:Nat)]/\Hp h0 FF h' ([⟨r,true,T_whole_size,sizeC⟩]++M1)/\objAt h' l oR,⟨5,5,rfl,hwk,Nat.le_refl _,rfl,H,ho2⟩,?_⟩
 clear H ho2
 rintro n h u xx ⟨k,rfl,hk1,hk2,hxx,H,ho⟩
 injection hxx with hxx
 injection hxx with _ hxx
 subst hxx
 obtain ⟨g0,g1⟩:=sizeC_get hk2
 refine needs_of (by omega) (ptr_of (a:=⟨r,0,none⟩) ?_)
 rw [Int.toNat_natCast]
 refine ldI_of (H.fr.cell hn1 hc1) ?_
 refine ldI_of (hpB H 0 rfl (by rw [Nat.zero_add,Nat.add_zero]; exact g0)) ?_
 refine bcase_dec (fun h3=>?_) fun h3=>?_
 ·have hlt:wK m<n:=by
   rcases Nat.lt_or_ge (wK m) n with h4 | h4
   ·exact h4
   ·have:wK m=n:=by omega
    rw [this] at hw1
    omega
  refine bindI_of (((n-1:Nat):Int)) (by exact i64_at _ _ (by omega) (by omega) (by omega)) ?_
  exact ⟨n-1,by omega,n-1,rfl,by omega,by omega,rfl,H,ho⟩
 ·have hkn:wK m=n:=by
   rcases Nat.lt_or_ge (wK m) n with h4 | h4
   ·have:=hw2 n hk2 h4
    omega
   ·omega
  refine ⟨fun n' vs h'=>∃ (x:Nat) (M':List Ent),x+n'=n/\vs=[.int .i64 (x:Nat)]/\S ([sg]++List.replicate x 1) M'/\Hp h0 FF h' ([⟨r,true,T_whole_size,sizeC⟩]++M')/\objAt h' l oR,⟨n,0,M1,by omega,rfl,hs1,H,ho⟩,?_⟩
  clear H ho hs1
  rintro n2 h u xx ⟨x,M2,hxn,hxx,hs2,H,ho⟩
  injection hxx with hxx
  injection hxx with _ hxx
  subst hxx
  refine bcase_dec (fun h4=>?_) fun h4=>?_
  ·have hb:bitsL sg m=([sg]++List.replicate x 1)++1::(List.replicate (n-x-1) 1++(if wK m<5 then [0] else [])++tailB (m-wFrom (wK m)) (wWid (wK m))):=by
    have e:List.replicate (wK m) 1=List.replicate x 1++1::List.replicate (n-x-1) 1:=by
     rw [<- List.replicate_succ,List.replicate_append_replicate]
     congr 1
     omega
    unfold bitsL headB
    rw [e]
    simp
   refine yld (b:=1) H ho hs2 hb (fun M3 h5 hs3 H ho=>?_) fun M3 h5 hx3 H ho=>⟨_,rfl,bcase_true rfl (hx M3 h5 hx3 H ho)⟩
   refine ⟨_,rfl,bcase_false rfl ?_⟩
   refine bindI_of (((x+1:Nat):Int)) (by exact i64_at _ _ (by omega) (by omega) (by omega)) ?_
   refine ⟨n2-1,by omega,x+1,M3,by omega,rfl,?_,H,ho⟩
   rw [List.replicate_succ',<- List.append_assoc]
   exact hs3
  ·obtain rfl:x=n:=by omega
   refine ⟨fun vs h'=>vs=[]/\∃ M',S (headB sg m) M'/\Hp h0 FF h' ([⟨r,true,T_whole_size,sizeC⟩]++M')/\objAt h' l oR,?_,?_⟩
   ·refine bindI_of (((5:Nat):Int)) (by exact i64_at _ _ (by omega) (by omega) (by omega)) ?_
    refine bcase_dec (fun h6=>?_) fun h6=>?_
    ·have h6:wK m<5:=by omega
     have hb:bitsL sg m=([sg]++List.replicate x 1)++0::tailB (m-wFrom (wK m)) (wWid (wK m)):=by
      unfold bitsL headB
      rw [if_pos h6,hkn]
      simp
     refine yld (b:=0) H ho hs2 hb (fun M3 h5 hs3 H ho=>?_) fun M3 h5 hx3 H ho=>⟨_,rfl,bcase_true rfl (hx M3 h5 hx3 H ho)⟩
     refine ⟨_,rfl,bcase_false rfl ⟨rfl,M3,?_,H,ho⟩⟩
     unfold headB
     rw [if_pos h6,hkn]
     exact hs3
    ·refine ⟨rfl,M2,?_,H,ho⟩
     unfold headB
     rw [if_neg (by omega),hkn,List.append_nil]
     exact hs2
   ·clear H ho hs2
    rintro h u ⟨_,M2,hs2,H,ho⟩
    refine needs_of (by omega) (ptr_of (a:=⟨r,0,none⟩) ?_)
    refine ldI_of (hpB H 0 rfl (by rw [Nat.zero_add]; exact g1)) ?_
    rw [hkn] at hw1
    have hwid:2<=wWid x/\wWid x<=32:=by
     have:x=0\/x=1\/x=2\/x=3\/x=4\/x=5:=by omega
     rcases this with rfl | rfl | rfl | rfl | rfl | rfl <;> decide
    obtain ⟨w,hw⟩:∃ w,w=wWid x:=⟨_,rfl⟩
    rw [<- hw] at hwid ⊢
    have hbits:bitsL sg m=headB sg m++tailB (m-wFrom x) w:=by rw [hw,<- hkn]; rfl
    refine bindI_of (((w:Int)-1)) (by exact i64_in _ (by omega) (by omega)) ?_
    refine ⟨fun n' vs h'=>∃ (i:Nat) (M':List Ent),i+n'=w/\vs=[.int .i64 ((w:Int)-1-(i:Nat))]/\S (headB sg m++(tailB (m-wFrom x) w).take i) M'/\Hp h0 FF h' ([⟨r,true,T_whole_size,sizeC⟩]++M')/\objAt h' l oR,⟨w,0,M2,by omega,by simp,by simpa using hs2,H,ho⟩,?_⟩
    clear H ho hs2
    rintro n3 h u xx ⟨i,M3,hin,hxx,hs3,H,ho⟩
    injection hxx with hxx
    injection hxx with _ hxx
    subst hxx
    refine bcase_dec (fun h7=>?_) fun h7=>?_
    ·have hi:i<w:=by omega
     refine needs_of (by omega) (ptr_of (a:=⟨r,0,none⟩) ?_)
     refine ldI_of (H.fr.cell hn1 hc1) ?_
     refine ldI_of (hpB H 0 rfl (by rw [Nat.zero_add,Nat.add_zero]; exact g0)) ?_
     obtain ⟨y,hy⟩:∃ y,y=m-wFrom x:=⟨_,rfl⟩
     refine bindI_of (((y:Nat):Int)) (by exact u64_at _ _ (by omega) (by omega) (by omega)) ?_
     refine needs_of (by omega) ?_
     rw [show (w:Int)-1-(i:Nat)=((w-1-i:Nat):Int) by omega]
     refine bindI_of (((y / 2 ^ (w-1-i):Nat):Int)) (by exact shr_of (by show _<=64; omega)) ?_
     have hyl:y / 2 ^ (w-1-i)<=y:=Nat.div_le_self _ _
     obtain ⟨q,hq⟩:∃ q,q=y / 2 ^ (w-1-i):=⟨_,rfl⟩
     rw [<- hq] at hyl ⊢
     refine bindI_of (((q:Nat):Int)) (by exact i64_in _ (by omega) (by omega)) ?_
     refine bindI_of (((q % 2:Nat):Int)) (by exact (and63_1 _).trans (by omega)) ?_
     obtain ⟨rest,hrest⟩:=tailB_at (x:=m-wFrom x) hi
     rw [<- hy] at hrest hs3 hbits
     rw [<- hq] at hrest
     refine yld (b:=q % 2) (rest:=rest) H ho hs3 (by rw [hbits,List.append_assoc]; exact congrArg (headB sg m++·) hrest) (fun M4 h5 hs4 H ho=>?_) fun M4 h5 hx4 H ho=>⟨_,rfl,bcase_true rfl (hx M4 h5 hx4 H ho)⟩
     refine ⟨_,rfl,bcase_false rfl ?_⟩
     refine bindI_of (((w:Int)-1-(i+1:Nat))) (by exact i64_at _ _ (by omega) (by omega) (by omega)) ?_
     refine ⟨n3-1,by omega,i+1,M4,by omega,rfl,?_,H,ho⟩
     rw [tailB_take hi,<- hy,<- hq,<- List.append_assoc]
     exact hs4
    ·have hi:w=i:=by omega
     subst hi
     refine hk M3 h ?_ (Hp.suf H) ho
     rw [List.take_of_length_le (by rw [tailB_len]; exact Nat.le_refl _)] at hs3
     rw [hbits]
     exact hs3
end Go.Bm
namespace Go.Bm
open Go Go.Den Go.Den.YtbknfejmdekhpaaGreat
def sgW (v:Int) (none:Bool):Nat:=if none=true then 1 else if v<0 then 1 else 0
def mW (v:Int) (none:Bool):Nat:=match none with
 | true=>0
 | false=>v.natAbs
theorem keepE {h0 h h':Heap} {F:List Nat} {L L':List Ent} {e:Ent} (H:Hp h0 F h L) (H':Hp h0 F h' L') (k k':Nat) (he:L[k]? = some e) (he':L'[k']? = some e) (hs:h.size<=h'.size):hkeep (fun b=>b=e.b) h h':=by
 refine ⟨hs,fun b hb hR=>?_⟩
 subst hR
 exact (H'.bl k' e he').trans (H.bl k e he).symm
theorem u64_neg {v:Int} (hv:-9223372036854775808<=v/\v<9223372036854775808) (h:v<0):IntKind.u64.wrap (0-IntKind.u64.wrap v)=((v.natAbs:Nat):Int):=by
 simp [IntKind.wrap,IntKind.bits,IntKind.signed]
 omega
set_option maxHeartbeats 2000000 in
theorem bits_ok {hB:Heap} {v:Int} {none:Bool} (hv:-9223372036854775808<=v/\v<9223372036854775808) {K:VK} {Kp:PK}
  (hk:∀ rs rm h',Hp hB [] h' [⟨rs,true,T_int,[.int .i64 (sgW v none:Nat)]⟩,⟨rm,true,T_uint64,[.int .u64 (mW v none:Nat)]⟩]->K (.func (.func F_whole_bits_c1) #[] #[.pointer (some ⟨rs,0,Option.none⟩), .pointer (some ⟨rm,0,Option.none⟩)]) h') :
  CP F_whole_bits #[.agg #[.int .i64 v, .bool none]] hB K Kp:=by
 refine call_whole_bits ?_
 unfold whole_bits
 have H:=Hp.nil hB []
 refine newC_hp H fun r3 h H=>?_
 refine ⟨fun b=>b=r3,?_⟩
 refine ldI_of (hpA H 0 rfl rfl) ⟨by rw [add_blockG],?_⟩
 refine bindI_gen fun z hz=>?_
 subst hz
 refine ⟨?_,?_⟩
 ·refine newC_hp H fun rs h H=>?_
  refine newC_hp H fun rm h H=>?_
  refine stV_hp H 1 rfl (Nat.le_of_ble_eq_true rfl) rfl fun h hz H1=>⟨keepE H H1 0 0 rfl rfl (by omega),?_⟩
  replace H:=H1
  clear H1
  refine stV_hp H 2 rfl (Nat.le_of_ble_eq_true rfl) rfl fun h hz H=>?_
  refine ldI_of (hpA H 0 rfl rfl) ?_
  refine bcase_dec (fun h1=>?_) fun h1=>?_
  ·refine ⟨fun b=>b=rm,?_⟩
   refine ldI_of (H.cell 2 rfl rfl) ⟨rfl,?_⟩
   refine bindI_of (((v.natAbs:Nat):Int)) (by exact u64_neg hv h1) ?_
   refine stV_hp H 1 rfl (Nat.le_of_ble_eq_true rfl) rfl fun h hz H1=>⟨keepE H H1 2 2 rfl rfl (by omega),?_⟩
   replace H:=H1
   clear H1
   refine stV_hp H 2 rfl (Nat.le_of_ble_eq_true rfl) rfl fun h hz H=>?_
   refine ldB_of (hpA H 0 rfl rfl) ?_
   cases none with
   | true =>
    refine bcase_true rfl ?_
    refine stV_hp H 1 rfl (Nat.le_of_ble_eq_true rfl) rfl fun h hz H=>?_
    refine stV_hp H 2 rfl (Nat.le_of_ble_eq_true rfl) rfl fun h hz H=>?_
    exact hk rs rm h (H.pick [1,2] (by decide) rfl)
   | false =>
    refine bcase_false rfl ?_
    have e1:sgW v false=1:=by unfold sgW; rw [if_neg (by simp),if_pos h1]
    have e2:mW v false=v.natAbs:=rfl
    rw [e1,e2] at hk
    exact hk rs rm h (H.pick [1,2] (by decide) rfl)
  ·refine ldB_of (hpA H 0 rfl rfl) ?_
   cases none with
   | true =>
    refine bcase_true rfl ?_
    refine stV_hp H 1 rfl (Nat.le_of_ble_eq_true rfl) rfl fun h hz H=>?_
    refine stV_hp H 2 rfl (Nat.le_of_ble_eq_true rfl) rfl fun h hz H=>?_
    exact hk rs rm h (H.pick [1,2] (by decide) rfl)
   | false =>
    refine bcase_false rfl ?_
    have e1:sgW v false=0:=by unfold sgW; rw [if_neg (by simp),if_neg h1]
    have e2:mW v false=v.natAbs:=rfl
    rw [e1,e2] at hk
    have e3:IntKind.u64.wrap v=((v.natAbs:Nat):Int):=u64_at _ _ (by omega) (by omega) (by omega)
    rw [e3] at H
    exact hk rs rm h (H.pick [1,2] (by decide) rfl)
 ·refine newC_hp H fun rm h H=>?_
  refine newC_hp H fun rs h H=>?_
  refine stV_hp H 2 rfl (Nat.le_of_ble_eq_true rfl) rfl fun h hz H1=>⟨keepE H H1 0 0 rfl rfl (by omega),?_⟩
  replace H:=H1
  clear H1
  refine stV_hp H 1 rfl (Nat.le_of_ble_eq_true rfl) rfl fun h hz H=>?_
  refine ldI_of (hpA H 0 rfl rfl) ?_
  refine bcase_dec (fun h1=>?_) fun h1=>?_
  ·refine ⟨fun b=>b=rm,?_⟩
   refine ldI_of (H.cell 1 rfl rfl) ⟨rfl,?_⟩
   refine bindI_of (((v.natAbs:Nat):Int)) (by exact u64_neg hv h1) ?_
   refine stV_hp H 2 rfl (Nat.le_of_ble_eq_true rfl) rfl fun h hz H1=>⟨keepE H H1 1 1 rfl rfl (by omega),?_⟩
   replace H:=H1
   clear H1
   refine stV_hp H 1 rfl (Nat.le_of_ble_eq_true rfl) rfl fun h hz H=>?_
   refine ldB_of (hpA H 0 rfl rfl) ?_
   cases none with
   | true =>
    refine bcase_true rfl ?_
    refine stV_hp H 2 rfl (Nat.le_of_ble_eq_true rfl) rfl fun h hz H=>?_
    refine stV_hp H 1 rfl (Nat.le_of_ble_eq_true rfl) rfl fun h hz H=>?_
    exact hk rs rm h (H.pick [2,1] (by decide) rfl)
   | false =>
    refine bcase_false rfl ?_
    have e1:sgW v false=1:=by unfold sgW; rw [if_neg (by simp),if_pos h1]
    have e2:mW v false=v.natAbs:=rfl
    rw [e1,e2] at hk
    exact hk rs rm h (H.pick [2,1] (by decide) rfl)
  ·refine ldB_of (hpA H 0 rfl rfl) ?_
   cases none with
   | true =>
    refine bcase_true rfl ?_
    refine stV_hp H 2 rfl (Nat.le_of_ble_eq_true rfl) rfl fun h hz H=>?_
    refine stV_hp H 1 rfl (Nat.le_of_ble_eq_true rfl) rfl fun h hz H=>?_
    exact hk rs rm h (H.pick [2,1] (by decide) rfl)
   | false =>
    refine bcase_false rfl ?_
    have e1:sgW v false=0:=by unfold sgW; rw [if_neg (by simp),if_neg h1]
    have e2:mW v false=v.natAbs:=rfl
    rw [e1,e2] at hk
    have e3:IntKind.u64.wrap v=((v.natAbs:Nat):Int):=u64_at _ _ (by omega) (by omega) (by omega)
    rw [e3] at H
    exact hk rs rm h (H.pick [2,1] (by decide) rfl)
def rightW (v:Int) (none:Bool):Prop:=none=true\/-2147483648<=v/\v<=2147483648
theorem mW_lt {v:Int} {none:Bool} (h:rightW v none):mW v none<=2147483648:=by
 unfold mW
 cases none with
 | true=>exact Nat.zero_le _
 | false =>
  rcases h with h | h
  ·cases h
  ·show v.natAbs<=_
   omega
section
variable {hB:Heap} {K:VK} {Kp:PK}
theorem wright_ok {v:Int} {none:Bool} (hk:∀ (b:Bool) h',(b=true↔rightW v none)->hext hB h'->K (.bool b) h'):CP F_whole_right #[.agg #[.int .i64 v, .bool none]] hB K Kp:=by
 refine call_whole_right ?_
 unfold whole_right
 have H:=Hp.nil hB []
 refine newC_hp H fun r3 h H=>?_
 refine ldB_of (hpA H 0 rfl rfl) ?_
 cases none with
 | true=>exact bcase_true rfl (hk true _ (by simp [rightW]) H.hext)
 | false =>
  refine bcase_false rfl ?_
  refine ldI_of (hpA H 0 rfl rfl) ?_
  with_reducible_and_instances refine bcase_dec (fun h1=>?_) fun h1=>?_
  ·refine ldI_of (hpA H 0 rfl rfl) ?_
   refine hk _ _ ⟨fun h2 => .inr ⟨by omega,of_decide_eq_true h2⟩,fun h2=>?_⟩ H.hext
   rcases h2 with h2 | h2
   ·cases h2
   ·exact decide_eq_true h2.2
  ·refine hk false _ ⟨(fun h2=>by cases h2),fun h2=>?_⟩ H.hext
   rcases h2 with h2 | h2
   ·cases h2
   ·omega
theorem wfits_ok {base:Int} {many all:Nat} (h1:many<=9223372036854775807) (h2:all<=9223372036854775807) (hk:∀ b:Bool,(b=true↔0<=base/\base+many<=all)->K (.bool b) hB):CP F_whole_fits #[.int .i64 base, .int .i64 (many:Nat), .int .i64 (all:Nat)] hB K Kp:=by
 refine call_whole_fits ?_
 unfold whole_fits
 refine bcase_dec (fun h3=>?_) fun h3=>hk false (by simp; omega)
 refine bindI_of (((all:Int)-many)) (by exact i64_in _ (by omega) (by omega)) ?_
 exact hk _ (by simp; omega)
def nextW (v b:Nat):Nat:=if v<256 then 2*v+b else (2*v+b) % 256+256
theorem nextW_lt {v b:Nat} (hv:v<512) (hb:b<=1):nextW v b<512:=by unfold nextW; split <;> omega
theorem wnext_ok {v b:Nat} (hv:v<512) (hb:b<=1) (hk:K (.int .i64 (nextW v b:Nat)) hB):CP F_whole_next #[.int .i64 (v:Nat), .int .i64 (b:Nat)] hB K Kp:=by
 refine call_whole_next ?_
 unfold whole_next
 have hd:(decide ((v:Int)<256))=decide (v<256):=decide_eq_decide.2 (by omega)
 rw [hd]
 by_cases h3:v<256
 ·refine bcase_true (decide_eq_true h3) ?_
  refine bindI_of (((2*v:Nat):Int)) (by exact i64_at _ _ (by omega) (by omega) (by omega)) ?_
  refine bindI_of (((2*v+b:Nat):Int)) (by exact i64_at _ _ (by omega) (by omega) (by omega)) ?_
  have e:nextW v b=2*v+b:=by unfold nextW; rw [if_pos (by omega)]
  rw [e] at hk
  exact hk
 ·refine bcase_false (decide_eq_false h3) ?_
  refine bindI_of (((2*v:Nat):Int)) (by exact i64_at _ _ (by omega) (by omega) (by omega)) ?_
  refine bindI_of (((2*v+b:Nat):Int)) (by exact i64_at _ _ (by omega) (by omega) (by omega)) ?_
  refine bindI_of ((((2*v+b) % 256:Nat):Int)) (by exact tmod_nat _ 256) ?_
  have e:nextW v b=(2*v+b) % 256+256:=by unfold nextW; rw [if_neg (by omega)]
  refine bindI_of (((nextW v b:Nat):Int)) (by exact i64_at _ _ (by omega) (by omega) (by omega)) ?_
  exact hk
end
end Go.Bm
namespace Go.Bm
open Go Go.Den Go.Den.YtbknfejmdekhpaaGreat
theorem putO_size (h:Heap) (l:Nat) (o:Obj):(putO h l o).size=h.size:=by simp [putO]
theorem putO_ne {h:Heap} {l b:Nat} {o:Obj} (hb:b≠l):(putO h l o)[b]? = h[b]?:=by
 unfold putO
 rw [Array.getElem?_setIfInBounds_ne (Ne.symm hb)]
theorem putO_at {h:Heap} {l:Nat} {o:Obj} (hl:l<h.size):objAt (putO h l o) l o:=by
 unfold objAt putO
 simp [hl]
theorem objAt_lt {h:Heap} {l:Nat} {o:Obj} (H:objAt h l o):l<h.size:=(Array.getElem?_eq_some_iff.1 H).1
section
variable {h0 h h':Heap} {F FF:List Nat} {L M M':List Ent} {l:Nat}
theorem hpPush (H:Hp h0 F h L) (o:Obj):Hp h0 F (h.push o) L:=by
 have get:∀ b,b<h.size->(h.push o)[b]? = h[b]?:=fun b hb=>by rw [Array.getElem?_push_lt hb]; simp [hb]
 refine ⟨⟨by simp; exact Nat.le_succ_of_le H.fr.1,fun b hb hF=>?_⟩,fun k e he=>?_,H.wr,H.nd⟩
 ·rw [get b (Nat.lt_of_lt_of_le hb H.fr.1)]
  exact H.fr.2 b hb hF
 ·exact (H.bl k e he).push o
theorem hpReset (H:Hp h0 F h L) (hl:∀ e∈L,e.b≠l) (o:Obj):Hp (putO h l o) (L.map Ent.b) (putO h l o) L:=by
 refine ⟨Fr.refl _ _,fun k e he=>?_,fun k e he _ => .inl (List.mem_map.2 ⟨e,List.mem_of_getElem? he,rfl⟩),H.nd⟩
 have:=H.bl k e he
 unfold Blk at this ⊢
 rw [putO_ne (hl e (List.mem_of_getElem? he))]
 exact this
theorem hpFar (H:Hp h0 F h L) (hl:∀ e∈L,e.b≠l) (h1:h0.size<=l) (o:Obj):Hp h0 F (putO h l o) L:=by
 refine ⟨⟨by rw [putO_size]; exact H.fr.1,fun b hb hF=>?_⟩,fun k e he=>?_,H.wr,H.nd⟩
 ·rw [putO_ne (by omega)]
  exact H.fr.2 b hb hF
 ·have:=H.bl k e he
  unfold Blk at this ⊢
  rw [putO_ne (hl e (List.mem_of_getElem? he))]
  exact this
theorem roundBack {hA hE:Heap} {oR oB:Obj} (H:Hp hA FF h M) (hw:M.all Ent.w=true) (hl:∀ e∈M,e.b≠l) (ho:objAt h l oR) (HE:Hp (putO h l oB) (M.map Ent.b) hE M') (hw':M'.all Ent.w=true) :
  objAt hE l oB/\(∀ e∈M',e.b≠l)/\Hp hA FF (putO hE l oR) M'/\objAt (putO hE l oR) l oR:=by
 have hlt:=objAt_lt ho
 have hlm:l ∉ M.map Ent.b:=fun hm=>by
  obtain ⟨e,he,hb⟩:=List.mem_map.1 hm
  exact hl e he hb
 have hoB:objAt hE l oB:=(HE.fr.2 l (by rw [putO_size]; exact hlt) hlm).trans (putO_at hlt)
 have hne:∀ e∈M',e.b≠l:=fun e he hb=>by
  rcases HE.memw e he (List.all_eq_true.1 hw' e he) with h1 | h1
  ·rw [hb] at h1; exact hlm h1
  ·rw [putO_size] at h1; omega
 have old:∀ b,b∈M.map Ent.b->b∈FF\/hA.size<=b:=fun b hb=>by
  obtain ⟨e,he,rfl⟩:=List.mem_map.1 hb
  exact H.memw e he (List.all_eq_true.1 hw e he)
 have hsz:hA.size<=hE.size:=Nat.le_trans H.fr.1 (by have:=HE.fr.1; rwa [putO_size] at this)
 refine ⟨hoB,hne,⟨⟨by rw [putO_size]; exact hsz,fun b hb hF=>?_⟩,fun k e he=>?_,fun k e he hew=>?_,HE.nd⟩,putO_at (objAt_lt hoB)⟩
 ·by_cases hbl:b=l
  ·subst hbl
   exact (putO_at (objAt_lt hoB)).trans (ho.symm.trans (H.fr.2 b hb hF))
  ·rw [putO_ne hbl,HE.fr.2 b (by rw [putO_size]; exact Nat.lt_of_lt_of_le hb H.fr.1) (fun hm=>by
    rcases old b hm with h1 | h1
    ·exact hF h1
    ·omega),putO_ne hbl]
   exact H.fr.2 b hb hF
 ·have:=HE.bl k e he
  unfold Blk at this ⊢
  rw [putO_ne (hne e (List.mem_of_getElem? he))]
  exact this
 ·rcases HE.wr k e he hew with h1 | h1
  ·exact old _ h1
  ·rw [putO_size] at h1
   exact .inr (Nat.le_trans H.fr.1 h1)
end
end Go.Bm
namespace Go.Bm
open Go Go.Den Go.Den.YtbknfejmdekhpaaGreat
open Go.Ar (Cod CodOk codL idx putM putM_ok)
def stepW (m:Nat) (base:Int) (x:Nat × Cod) (b:Nat):Nat × Cod:=(nextW x.1 b,putM x.2 (idx (base+(x.1:Int)) m) b)
def runW (m:Nat) (base:Int) (l:List Nat) (x:Nat × Cod):Nat × Cod:=l.foldl (stepW m base) x
theorem runW_snoc (m:Nat) (base:Int) (l:List Nat) (b:Nat) (x:Nat × Cod):runW m base (l++[b]) x=stepW m base (runW m base l x) b:=by
 unfold runW
 rw [List.foldl_append]
 rfl
theorem bitsL_le {sg m:Nat} (hs:sg<=1):∀ b∈bitsL sg m,b<=1:=fun b hb=>by
 unfold bitsL headB tailB at hb
 rcases List.mem_append.1 hb with hb | hb
 ·rcases List.mem_append.1 hb with hb | hb
  ·rcases List.mem_append.1 hb with hb | hb
   ·rw [List.mem_singleton.1 hb]; exact hs
   ·rw [(List.mem_replicate.1 hb).2]; exact Nat.le_refl _
  ·split at hb
   ·rw [List.mem_singleton.1 hb]; exact Nat.zero_le _
   ·cases hb
 ·obtain ⟨i,_,rfl⟩:=List.mem_map.1 hb
  exact Nat.le_of_lt_succ (Nat.mod_lt _ (by decide))
theorem wWid_le (k:Nat) (h:k<=5):wWid k<=32:=by
 have:k=0\/k=1\/k=2\/k=3\/k=4\/k=5:=by omega
 rcases this with rfl | rfl | rfl | rfl | rfl | rfl <;> decide
theorem bitsL_len (sg m:Nat):(bitsL sg m).length<=39:=by
 have h1:=wK_le m
 have h2:=wWid_le _ h1
 unfold bitsL headB
 rw [List.length_append,tailB_len,List.length_append,List.length_append,List.length_replicate,List.length_singleton]
 split <;> simp <;> omega
theorem sgW_le (v:Int) (none:Bool):sgW v none<=1:=by unfold sgW; (repeat' split) <;> omega
set_option maxHeartbeats 4000000 in
theorem wput_ok {h0 h:Heap} {FF:List Nat} {p q r m n0:Nat} {s:Cod} {rest:List Value} (HC:Hp h0 FF h (codL p q r s rest)) (hc:CodOk m n0 s) (hm1:1<=m) (hm2:m<=131072) {base v:Int} {none:Bool} (hv:-9223372036854775808<=v/\v<9223372036854775808) (hN:n0+64<=16777216)
  {K:VK} {Kp:PK} (hk51:∀ h',¬ (0<=base/\base+(512:Nat)<=(m:Nat))->Hp h0 FF h' (codL p q r s rest)->K (.int .i64 51) h')
  (hk50:∀ h',(0<=base/\base+(512:Nat)<=(m:Nat))->¬ rightW v none->Hp h0 FF h' (codL p q r s rest)->K (.int .i64 50) h')
  (hk0:∀ r' rest' h',(0<=base/\base+(512:Nat)<=(m:Nat))->rightW v none->Hp h0 FF h' (codL p q r' (runW m base (bitsL (sgW v none) (mW v none)) (1,s)).2 rest')->K (.int .i64 0) h') :
  CP F_whole_Put #[.pointer (at0 p), .int .i64 base, .agg #[.int .i64 v, .bool none]] h K Kp:=by
 refine call_whole_Put ?_
 unfold whole_Put
 have H:=Hp.nil h []
 refine newC_hp H fun r3 h H=>?_
 refine newC_hp H fun r5 h H=>?_
 refine newC_hp H fun r7 h H=>?_
 refine newC_hp H fun r9 h H=>?_
 refine ldP_of (H.cell 0 rfl rfl) ?_
 refine bcase_false (by rfl) ?_
 refine ldI_of (H.cell 1 rfl rfl) (ldP_of (H.cell 0 rfl rfl) (ptr_of (a:=⟨p,0,Option.none⟩) ?_))
 refine Go.Ar.contexts_ok (n:=s.st.length) (HC.ext H.hext) 0 rfl ?_
 refine ⟨_,rfl,hext.refl _,?_⟩
 rw [hc.len]
 refine wfits_ok (many:=512) (all:=m) (by decide) (by omega) fun bf hbf=>?_
 refine ⟨_,rfl,?_⟩
 refine bcase_not (fun h2=>?_) fun h2=>?_
 ·refine stV_hp H 3 rfl (Nat.le_of_ble_eq_true rfl) rfl fun h hz H=>?_
  refine ldI_of (H.cell 3 rfl rfl) ?_
  exact hk51 h (fun hh=>by rw [hbf.2 hh] at h2; cases h2) (HC.ext H.hext)
 have hfit:=hbf.1 h2
 refine ldI_of (hpA H 2 rfl rfl) (ldB_of (hpA H 2 rfl rfl) ?_)
 refine wright_ok fun br h1 hbr e1=>?_
 have H:=H.ext e1
 refine ⟨_,rfl,?_⟩
 refine bcase_not (fun h2=>?_) fun h2=>?_
 ·refine stV_hp H 3 rfl (Nat.le_of_ble_eq_true rfl) rfl fun h hz H=>?_
  refine ldI_of (H.cell 3 rfl rfl) ?_
  exact hk50 h hfit (fun hh=>by rw [hbr.2 hh] at h2; cases h2) (HC.ext H.hext)
 have hright:=hbr.1 h2
 refine newC_hp H fun r32 h H=>?_
 refine stV_hp H 4 rfl (Nat.le_of_ble_eq_true rfl) rfl fun h hz H=>?_
 refine ldI_of (hpA H 2 rfl rfl) (ldB_of (hpA H 2 rfl rfl) ?_)
 refine bits_ok hv fun rs rm hP H'=>?_
 replace H:=H.join H' rfl
 clear H'
 refine ⟨_,rfl,?_⟩
 have hs1:=sgW_le v none
 have hml:=mW_lt hright
 obtain ⟨sg,hsg⟩:∃ sg,sg=sgW v none:=⟨_,rfl⟩
 obtain ⟨mm,hmm⟩:∃ mm,mm=mW v none:=⟨_,rfl⟩
 rw [<- hsg] at H hs1 hk0
 rw [<- hmm] at H hml hk0
 obtain ⟨bits,hbits⟩:∃ bits,bits=bitsL sg mm:=⟨_,rfl⟩
 have hbl:=bitsL_le (m:=mm) hs1
 have hbn:=bitsL_len sg mm
 rw [<- hbits] at hbl hbn hk0
 simp only [funD]
 intro oR oB oX oJ oXJ hround
 have HA:=(HC.join H rfl).pick [5,8,9,3,4,6,7,0,1,2] (by decide) (L':=[⟨r7,true,T_api_Whole,[.int .i64 v, .bool none]⟩,⟨rs,true,T_int,[.int .i64 (sg:Nat)]⟩,⟨rm,true,T_uint64,[.int .u64 (mm:Nat)]⟩] ++
  ([⟨r3,true,T_p_arith_Coder,[.pointer (at0 p)]⟩,⟨r5,true,T_int,[.int .i64 base]⟩,⟨r9,true,T_api_Errno,[.int .i64 0]⟩,⟨r32,true,T_int,[.int .i64 1]⟩]++codL p q r s rest)) rfl
 obtain ⟨D,hD⟩:∃ D,D=hP.size:=⟨_,rfl⟩
 rw [<- hD] at hround ⊢
 have hlt:∀ e∈([⟨r7,true,T_api_Whole,[.int .i64 v, .bool none]⟩,⟨rs,true,T_int,[.int .i64 (sg:Nat)]⟩,⟨rm,true,T_uint64,[.int .u64 (mm:Nat)]⟩] ++
  ([⟨r3,true,T_p_arith_Coder,[.pointer (at0 p)]⟩,⟨r5,true,T_int,[.int .i64 base]⟩,⟨r9,true,T_api_Errno,[.int .i64 0]⟩,⟨r32,true,T_int,[.int .i64 1]⟩]++codL p q r s rest):List Ent),e.b<D:=fun e he=>by rw [hD]; exact (HA.mem e he).lt
 have hDh0:h0.size<=D:=by rw [hD]; exact HA.fr.1
 obtain ⟨h1,hh1⟩:∃ h1,h1=(hP.push (.deferred (some []))).push oR:=⟨_,rfl⟩
 have H1:=hpPush (hpPush HA (.deferred (some []))) oR
 rw [<- hh1] at H1 ⊢
 have hs1z:h1.size=D+2:=by rw [hh1,hD]; simp
 have hoR:objAt h1 (D+1) oR:=by
  unfold objAt
  rw [hh1,hD,Array.getElem?_push,if_pos (by simp)]
 have hoD:objAt h1 D (.deferred (some [])):=by
  unfold objAt
  rw [hh1,hD,Array.getElem?_push,if_neg (by simp),Array.getElem?_push,if_pos rfl]
 obtain ⟨Row,hRow⟩:∃ Row:Nat->List Ent,Row=fun node=>[⟨r3,true,T_p_arith_Coder,[.pointer (at0 p)]⟩,⟨r5,true,T_int,[.int .i64 base]⟩,⟨r9,true,T_api_Errno,[.int .i64 0]⟩,⟨r32,true,T_int,[.int .i64 (node:Nat)]⟩]:=⟨_,rfl⟩
 refine bitsC_ok (h0:=h1) (h:=h1) (M:=[⟨r3,true,T_p_arith_Coder,[.pointer (at0 p)]⟩,⟨r5,true,T_int,[.int .i64 base]⟩,⟨r9,true,T_api_Errno,[.int .i64 0]⟩,⟨r32,true,T_int,[.int .i64 1]⟩]++codL p q r s rest) (l:=D+1) (oR:=oR) (oJ:=oJ 0) (sg:=sg) (m:=mm) (cap0:=⟨rs,0,Option.none⟩) (cap1:=⟨rm,0,Option.none⟩)
  (S:=fun pre M=>∃ r' rest',CodOk m (n0+pre.length) (runW m base pre (1,s)).2/\(runW m base pre (1,s)).1<512/\(∀ e∈M,e.b≠D+1/\e.b≠D) /\
   M=[⟨r3,true,T_p_arith_Coder,[.pointer (at0 p)]⟩,⟨r5,true,T_int,[.int .i64 base]⟩,⟨r9,true,T_api_Errno,[.int .i64 0]⟩,⟨r32,true,T_int,[.int .i64 ((runW m base pre (1,s)).1:Nat)]⟩]++codL p q r' (runW m base pre (1,s)).2 rest')
  (Sx:=fun _=>False) (by omega) (Hp.giveS H1) ⟨r,rest,by simpa [runW] using hc,by show 1<512; omega,(fun e he=>by have:=hlt e (List.mem_append_right _ he); omega),rfl⟩ hoR (H1.cell 1 rfl rfl) (H1.cell 2 rfl rfl) ?_ ?_ ?_ (fun M2 h2 hS2 H2 ho2=>?_) (fun M2 h2 hS2=>hS2.elim)
 ·intro hm
  obtain ⟨e,he,hb⟩:=List.mem_map.1 hm
  exact (List.pairwise_append.1 H1.pw).2.2 ⟨rs,true,T_int,[.int .i64 (sg:Nat)]⟩ (by simp) e he hb.symm
 ·intro hm
  obtain ⟨e,he,hb⟩:=List.mem_map.1 hm
  exact (List.pairwise_append.1 H1.pw).2.2 ⟨rm,true,T_uint64,[.int .u64 (mm:Nat)]⟩ (by simp) e he hb.symm
 ·rw [<- hbits]
  refine ⟨fun pre M hS=>?_,fun {hA hh FFA M pre rest' b K1} hb hS HM ho htrue _=>?_⟩
  ·obtain ⟨_,_,_,_,_,rfl⟩:=hS
   rfl
  ·obtain ⟨r',rest'',hcod,hnode,hne,rfl⟩:=hS
   have hpl:pre.length<39:=by
    have:=congrArg List.length hb
    simp at this
    omega
   have hb1:b<=1:=hbl b (by rw [hb]; simp)
   refine hround hh K1 ho _ ⟨ho,?_⟩
   have HB:=hpReset HM (fun e he=>(hne e he).1) oB
   refine ldP_of (HB.cell 0 rfl rfl) (ldI_of (HB.cell 1 rfl rfl) (ldI_of (HB.cell 3 rfl rfl) ?_))
   have hsn:=runW_snoc m base pre b (1,s)
   generalize runW m base pre (1,s)=st at hcod hnode hsn HM HB hne ⊢
   obtain ⟨node,S1⟩:=st
   have hnode:node<512:=hnode
   have hcod:CodOk m (n0+pre.length) S1:=hcod
   refine bindI_of ((base+(node:Int))) (by exact i64_in _ (by omega) (by omega)) ?_
   refine Go.Ar.put_ok (bit:=b) (HB.give [4,5,6] (by decide) rfl) hcod.wf hcod.done (by rw [hcod.n]; omega) (by rw [hcod.len]; exact hm1) (by rw [hcod.len]; exact hm2) hb1 fun r4 rest4 h4 H'=>?_
   have HE:=HB.put [4,5,6] (by decide) rfl rfl H' rfl rfl
   clear H'
   rw [hcod.len] at HE
   refine ⟨_,rfl,?_⟩
   refine bcase_false (by rfl) ?_
   refine ldI_of (HE.cell 3 rfl rfl) ?_
   refine wnext_ok hnode hb1 ?_
   refine ⟨_,rfl,?_⟩
   refine stV_hp HE 3 rfl (Nat.le_of_ble_eq_true rfl) rfl fun h5 hz5 HE=>?_
   have HE:Hp (putO hh (D+1) oB) _ h5 ([⟨r3,true,T_p_arith_Coder,[.pointer (at0 p)]⟩,⟨r5,true,T_int,[.int .i64 base]⟩,⟨r9,true,T_api_Errno,[.int .i64 0]⟩,⟨r32,true,T_int,[.int .i64 (nextW node b:Nat)]⟩]++codL p q r4 (putM S1 (idx (base+(node:Int)) m) b) rest4):=HE
   obtain ⟨g1,g2,g3,g4⟩:=roundBack HM rfl (fun e he=>(hne e he).1) ho HE rfl
   refine ⟨g1,htrue _ _ ⟨r4,rest4,?_,?_,fun e he=>⟨g2 e he,fun hb=>?_⟩,?_⟩ g3 g4⟩
   ·rw [hsn,List.length_append,List.length_singleton]
    exact putM_ok hcod _ _ (by omega)
   ·rw [hsn]
    exact nextW_lt hnode hb1
   ·rcases HE.memw e he (List.all_eq_true.1 (by rfl:(List.all _ Ent.w)=true) e he) with h6 | h6
    ·obtain ⟨e2,he2,hb2⟩:=List.mem_map.1 h6
     exact (hne e2 he2).2 (hb2.trans hb)
    ·rw [putO_size] at h6
     have:=objAt_lt ho
     omega
   ·rw [hsn]
    rfl
 ·rw [<- hbits] at hS2
  obtain ⟨r',rest',hcod,hnode,hne,rfl⟩:=hS2
  refine .inl ⟨ho2,?_⟩
  have HX:=hpReset H2 (fun e he=>(hne e he).1) oX
  refine stV_hp HX 2 rfl (Nat.le_of_ble_eq_true rfl) rfl fun h3 hz3 H3=>?_
  have H3:Hp (putO h2 (D+1) oX) _ h3 ([⟨r3,true,T_p_arith_Coder,[.pointer (at0 p)]⟩,⟨r5,true,T_int,[.int .i64 base]⟩,⟨r9,true,T_api_Errno,[.int .i64 0]⟩,⟨r32,true,T_int,[.int .i64 ((runW m base bits (1,s)).1:Nat)]⟩]++codL p q r' (runW m base bits (1,s)).2 rest'):=H3
  have hDn:∀ {L:List Ent},(∀ e∈L,e.b≠D+1/\e.b≠D)->D ∉ L.map Ent.b:=fun hL hm=>by
   obtain ⟨e,he,hb⟩:=List.mem_map.1 hm
   exact (hL e he).2 hb
  have h2s:D+1<h2.size:=objAt_lt ho2
  have hD2:objAt h2 D (.deferred (some [])):=(H2.fr.2 D (by omega) (hDn fun e he=>by have:=hlt e (List.mem_append_right _ he); omega)).trans hoD
  have hD3:objAt h3 D (.deferred (some [])):=by
   refine (H3.fr.2 D (by rw [putO_size]; omega) (hDn hne)).trans ?_
   rw [putO_ne (by omega)]
   exact hD2
  refine ⟨hD3,?_⟩
  have H4:=hpReset (l:=D) H3 (fun e he=>(hne e he).2) (.deferred Option.none)
  refine ldI_of (H4.cell 2 rfl rfl) ?_
  refine hk0 r' rest' _ hfit hright ?_
  have K1:=H1.putS rfl H2 rfl
  have K2:=hpFar (l:=D+1) K1 (fun e he=>by
   rcases List.mem_append.1 he with he | he
   ·have:=hlt e (List.mem_append_left _ he); omega
   ·exact (hne e he).1) (by omega) oX
  have K3:=K2.putS rfl H3 rfl
  have K4:=hpFar (l:=D) K3 (fun e he=>by
   rcases List.mem_append.1 he with he | he
   ·have:=hlt e (List.mem_append_left _ he); omega
   ·exact (hne e he).2) hDh0 (.deferred Option.none)
  exact K4.pick [7,8,9] (by decide) rfl
end Go.Bm
namespace Go.Den.YtbknfejmdekhpaaGreat
open Go Go.Den
end Go.Den.YtbknfejmdekhpaaGreat
namespace Go.Den.YtbknfejmdekhpaaGreat
open Go Go.Den
end Go.Den.YtbknfejmdekhpaaGreat
namespace Go.Bm
open Go Go.Den Go.Den.YtbknfejmdekhpaaGreat
section
variable {hB:Heap} {K:VK} {Kp:PK}
end
end Go.Bm
namespace Go.Bm
open Go Go.Den Go.Den.YtbknfejmdekhpaaGreat
end Go.Bm
namespace Go.Bm
open Go Go.Den Go.Den.YtbknfejmdekhpaaGreat
open Go.Ar (Cod CodOk newC flushM bytesM)
def encS (l:List (Int × Bool)) (s:Cod):Cod:=l.foldl (fun s x=>(runW 512 0 (bitsL (sgW x.1 x.2) (mW x.1 x.2)) (1,s)).2) s
def RightL (l:List (Int × Bool)):Prop:=∀ x∈l,rightW x.1 x.2
def EncWh (l:List (Int × Bool)) (e:Int) (bs:List Nat):Prop :=
 ¬ RightL l/\e=50/\bs=[]\/RightL l/\e=0/\bs=bytesM (flushM (encS l (newC 512)))/\∃ n,n<=64*l.length/\CodOk 512 n (encS l (newC 512))
variable {hB:Heap} {q1:Option Addr} {c1:Nat} {l:List (Int × Bool)} {K:VK} {Kp:PK}
end Go.Bm
namespace Go.Bm
open Go Go.Den Go.Den.YtbknfejmdekhpaaGreat
variable {h:Heap} {a b:Option Addr} {ca cb:Nat} {la lb:List (Int × Bool)} {K:VK} {Kp:PK}
end Go.Bm
namespace Go.Bm
open Go Go.Den Go.Den.YtbknfejmdekhpaaGreat
open Go.Ar (Dec BOk decL idx getD getD_ok getD_bit)
def getW (m:Nat) (base:Int) (st:Nat × Dec):Nat × Dec:=(nextW st.1 (getD st.2 (idx (base+(st.1:Nat)) m)).2,(getD st.2 (idx (base+(st.1:Nat)) m)).1)
def bitW (m:Nat) (base:Int) (st:Nat × Dec):Nat:=(getD st.2 (idx (base+(st.1:Nat)) m)).2
theorem bitW_le (m:Nat) (base:Int) (st:Nat × Dec):bitW m base st<=1:=getD_bit _
variable {h0 h:Heap} {FF:List Nat} {e:Ent} {bp:Option Addr} {bc m n g:Nat} {bytes:List Nat} {base:Int} {K:VK} {Kp:PK}
set_option maxHeartbeats 2000000 in
theorem gbit_ok {p q v:Nat} {s:Dec} (H:Hp h0 FF h (decL p q e bp bc s++[⟨g,true,T_whole_getter,[.pointer (at0 p), .int .i64 base, .int .i64 (v:Nat), .int .i64 0]⟩])) (hw:e.w=true) (hb:BOk e bp bytes) (hok:Go.Ar.DecOk bytes m n s) (hbl:bytes.length<140737488351300) (hn:n<16777216) (hm1:1<=m) (hm2:m<=131072) (hv:v<512) (hbase:-1<=base/\base<=131072)
  (hk:∀ h',Go.Ar.DecOk bytes m (n+1) (getW m base (v,s)).2->(getW m base (v,s)).1<512->Hp h0 FF h' (decL p q e bp bc (getW m base (v,s)).2++[⟨g,true,T_whole_getter,[.pointer (at0 p), .int .i64 base, .int .i64 ((getW m base (v,s)).1:Nat), .int .i64 0]⟩])->K (.int .i64 (bitW m base (v,s):Nat)) h') :
  CP F_whole_getter_bit #[.pointer (at0 g)] h K Kp:=by
 refine call_whole_getter_bit ?_
 unfold whole_getter_bit
 refine ptr_of (a:=⟨g,0,none⟩) ?_
 refine ldI_of (hpA H 3 rfl rfl) ?_
 refine bcase_false (by rfl) ?_
 refine ptr_of (a:=⟨g,0,none⟩) (ptr_of (a:=⟨g,0,none⟩) (ptr_of (a:=⟨g,0,none⟩) ?_))
 refine ldP_of (hpA H 3 rfl rfl) (ldI_of (hpA H 3 rfl rfl) (ldI_of (hpA H 3 rfl rfl) ?_))
 refine bindI_of ((base+(v:Int))) (by exact i64_in _ (by omega) (by omega)) ?_
 refine Go.Ar.get_ok (H.give [0,1,2] (by simp) rfl) (by rw [hok.b]; exact hb) hok.wf (by rw [hok.b]; exact hbl) (by rw [hok.n]; exact hn) (by rw [hok.len]; exact hm1) (by rw [hok.len]; exact hm2) fun h' H'=>?_
 replace H:=H.put [0,1,2] (by simp) rfl (by simp [decL,Go.Ar.decE,hw]) H' (by simp [decL,Go.Ar.decE,hw]) rfl
 clear H'
 rw [hok.len] at H ⊢
 have hb1:(getD s (idx (base+(v:Nat)) m)).2<=1:=getD_bit _
 refine ⟨_,_,rfl,?_⟩
 refine ptr_of (a:=⟨g,0,none⟩) ?_
 refine stV_hp H 3 rfl (Nat.le_of_ble_eq_true rfl) rfl fun h hz H=>?_
 refine ptr_of (a:=⟨g,0,none⟩) ?_
 refine ldI_of (hpA H 3 rfl rfl) ?_
 refine wnext_ok hv hb1 ?_
 refine ⟨_,rfl,?_⟩
 refine ptr_of (a:=⟨g,0,none⟩) ?_
 refine stV_hp H 3 rfl (Nat.le_of_ble_eq_true rfl) rfl fun h hz H=>?_
 exact hk h (getD_ok hok _ hn) (nextW_lt hv hb1) H
end Go.Bm
namespace Go.Bm
open Go Go.Den Go.Den.YtbknfejmdekhpaaGreat
open Go.Ar (Dec)
def onesW (m:Nat) (base:Int):Nat->Nat->Nat × Dec->Nat × (Nat × Dec)
 | 0,k,st=>(k,st)
 | f+1,k,st=>if bitW m base st=1 then onesW m base f (k+1) (getW m base st) else (k,getW m base st)
def tailW (m:Nat) (base:Int) (st:Nat × Dec):Nat->(Nat × Dec) × Nat
 | 0=>(st,0)
 | i+1=>(getW m base (tailW m base st i).1,2*(tailW m base st i).2+bitW m base (tailW m base st i).1)
theorem tailW_lt (m:Nat) (base:Int) (st:Nat × Dec) (i:Nat):(tailW m base st i).2<2 ^ i:=by
 induction i with
 | zero=>exact Nat.one_pos
 | succ i ih =>
  have:=bitW_le m base (tailW m base st i).1
  show 2*(tailW m base st i).2+bitW m base (tailW m base st i).1<_
  rw [Nat.pow_succ]
  omega
def ansW (sg x:Nat):Int × Int × Bool:=if x > 2147483648 then (50,0,false) else if sg=1 then (if x=0 then (0,0,true) else (0,-(x:Int),false)) else (0,(x:Int),false)
def decW (m:Nat) (base:Int) (s:Dec):(Int × Int × Bool) × Dec :=
 (ansW (bitW m base (1,s)) ((tailW m base (onesW m base 5 0 (getW m base (1,s))).2 (wWid (onesW m base 5 0 (getW m base (1,s))).1)).2+wFrom (onesW m base 5 0 (getW m base (1,s))).1),
  (tailW m base (onesW m base 5 0 (getW m base (1,s))).2 (wWid (onesW m base 5 0 (getW m base (1,s))).1)).1.2)
theorem wFrom_le (k:Nat):wFrom k<=4436:=by
 have:k=0\/k=1\/k=2\/k=3\/k=4\/k=5\/6<=k:=by omega
 rcases this with rfl | rfl | rfl | rfl | rfl | rfl | h
 all_goals first | decide | skip
 unfold wFrom
 rw [List.getD_eq_getElem?_getD,List.getElem?_eq_none (by simpa using h)]
 decide
variable {h0 h:Heap} {FF:List Nat} {e:Ent} {bp:Option Addr} {bc m n:Nat} {bytes:List Nat} {base:Int} {K:VK} {Kp:PK}
end Go.Bm
namespace Go.Bm
open Go Go.Den Go.Den.YtbknfejmdekhpaaGreat
open Go.Ar (Dec BOk decL)
variable {h0 h:Heap} {FF:List Nat} {e:Ent} {bp:Option Addr} {bc m n:Nat} {bytes:List Nat} {base:Int} {K:VK} {Kp:PK}
set_option maxHeartbeats 4000000 in
theorem wget_ok {p q:Nat} {s:Dec} (HC:Hp h0 FF h (decL p q e bp bc s)) (hw:e.w=true) (hb:BOk e bp bytes) (hok:Go.Ar.DecOk bytes m n s) (hbl:bytes.length<140737488351300) (hn:n+64<=16777216) (hm1:1<=m) (hm2:m<=131072) (hfit:0<=base/\base+(512:Nat)<=(m:Nat))
  (hk:∀ h' n',n'<=n+64->Go.Ar.DecOk bytes m n' (decW m base s).2->Hp h0 FF h' (decL p q e bp bc (decW m base s).2)->K (.tuple #[.agg #[.int .i64 (decW m base s).1.2.1, .bool (decW m base s).1.2.2], .int .i64 (decW m base s).1.1]) h') :
  CP F_whole_Get #[.pointer (at0 p), .int .i64 base] h K Kp:=by
 refine call_whole_Get ?_
 unfold whole_Get
 have H:=Hp.nil h []
 refine newC_hp H fun r1 h H=>?_
 refine bcase_false (by rfl) ?_
 refine ptr_of (a:=⟨p,0,none⟩) ?_
 refine Go.Ar.contexts_ok (n:=s.st.length) (HC.ext H.hext) 0 rfl ?_
 refine ⟨_,rfl,?_⟩
 rw [hok.len]
 refine wfits_ok (many:=512) (all:=m) (by decide) (by omega) fun bf hbf=>?_
 refine ⟨_,rfl,?_⟩
 refine bcase_not (fun h2=>absurd (hbf.2 hfit) (by rw [h2]; decide)) fun h2=>?_
 have hbase:-1<=base/\base<=131072:=by omega
 refine newC_hp H fun r3 h H=>?_
 have H:=(HC.join H rfl).pick [0,1,2,4,3] (by decide) (L':=decL p q e bp bc s++([⟨r3,true,T_whole_getter,[.pointer (at0 p), .int .i64 base, .int .i64 (1:Nat), .int .i64 0]⟩]++[⟨r1,true,T_api_Whole,[.int .i64 0, .bool false]⟩])) rfl
 obtain ⟨Q,hQ⟩:∃ Q:List Ent->Nat × Dec->List Ent,Q=fun Y st=>decL p q e bp bc st.2++([⟨r3,true,T_whole_getter,[.pointer (at0 p), .int .i64 base, .int .i64 (st.1:Nat), .int .i64 0]⟩]++Y):=⟨_,rfl⟩
 have hQd:∀ Y st,Q Y st=decL p q e bp bc st.2++([⟨r3,true,T_whole_getter,[.pointer (at0 p), .int .i64 base, .int .i64 (st.1:Nat), .int .i64 0]⟩]++Y):=fun Y st=>by rw [hQ]
 rw [<- hQd _ (1,s)] at H
 have gb:∀ {Y:List Ent} {h:Heap} {st:Nat × Dec} {n:Nat} {K1:VK},Hp h0 FF h (Q Y st)->Go.Ar.DecOk bytes m n st.2->st.1<512->n<16777216 ->
   (∀ h',Go.Ar.DecOk bytes m (n+1) (getW m base st).2->(getW m base st).1<512->Hp h0 FF h' (Q Y (getW m base st))->K1 (.int .i64 (bitW m base st:Nat)) h') ->
   CP F_whole_getter_bit #[.pointer (at0 r3)] h K1 Kp:=fun {Y h st n K1} H hok hv hn hk1=>by
  obtain ⟨v,s⟩:=st
  rw [hQd] at H
  refine gbit_ok (H.give [0,1,2,3] (by simp) rfl) hw hb hok hbl hn hm1 hm2 hv hbase fun h' hok' hv' H'=>?_
  have H:=H.put [0,1,2,3] (by simp) rfl (by simp [decL,Go.Ar.decE,hw]) H' (by simp [decL,Go.Ar.decE,hw]) rfl
  exact hk1 h' hok' hv' (by rw [hQd]; exact H)
 clear HC
 refine gb H hok (by show 1<512; omega) (by omega) fun h hok1 hv1 H=>?_
 refine ⟨_,rfl,?_⟩
 have hsb:=bitW_le m base (1,s)
 unfold decW at hk
 generalize bitW m base (1,s)=sg at hk hsb ⊢
 generalize getW m base (1,s)=st1 at hk hok1 hv1 H ⊢
 refine wsizes_ok fun rz h H'=>?_
 rw [hQd] at H
 have H:=H.join H' rfl
 clear H'
 refine ⟨_,_,_,rfl,?_⟩
 obtain ⟨P,hP⟩:∃ P:Nat × Dec->List Ent,P=Q [⟨r1,true,T_api_Whole,[.int .i64 0, .bool false]⟩,⟨rz,true,T_whole_size,sizeC⟩]:=⟨_,rfl⟩
 have hPd:∀ st,P st=decL p q e bp bc st.2++([⟨r3,true,T_whole_getter,[.pointer (at0 p), .int .i64 base, .int .i64 (st.1:Nat), .int .i64 0]⟩]++[⟨r1,true,T_api_Whole,[.int .i64 0, .bool false]⟩,⟨rz,true,T_whole_size,sizeC⟩]):=fun st=>by rw [hP,hQd]
 have H:Hp h0 FF h (P st1):=by rw [hPd]; exact H
 replace gb:∀ {h:Heap} {st:Nat × Dec} {n:Nat} {K1:VK},Hp h0 FF h (P st)->Go.Ar.DecOk bytes m n st.2->st.1<512->n<16777216 ->
   (∀ h',Go.Ar.DecOk bytes m (n+1) (getW m base st).2->(getW m base st).1<512->Hp h0 FF h' (P (getW m base st))->K1 (.int .i64 (bitW m base st:Nat)) h') ->
   CP F_whole_getter_bit #[.pointer (at0 r3)] h K1 Kp:=fun H hok hv hn hk1=>by rw [hP] at H hk1; exact gb H hok hv hn hk1
 refine ⟨fun vs h'=>∃ n',n'<=n+6/\vs=[.int .i64 ((onesW m base 5 0 st1).1:Nat)]/\(onesW m base 5 0 st1).1<=5/\Go.Ar.DecOk bytes m n' (onesW m base 5 0 st1).2.2/\(onesW m base 5 0 st1).2.1<512/\Hp h0 FF h' (P (onesW m base 5 0 st1).2),?_,?_⟩
 ·refine ⟨fun f vs h'=>∃ (k:Nat) (st:Nat × Dec),f+k=5/\vs=[.int .i64 (k:Nat)]/\onesW m base f k st=onesW m base 5 0 st1/\Go.Ar.DecOk bytes m (n+1+k) st.2/\st.1<512/\Hp h0 FF h' (P st),⟨5,0,st1,rfl,rfl,rfl,hok1,hv1,H⟩,?_⟩
  rintro f h u x ⟨k,st,hfk,hxx,hon,hok2,hv2,H⟩
  injection hxx with hx1 hxx
  injection hx1 with _ hx1
  subst hx1
  refine bindI_of ((5:Int)) (by rfl) ?_
  refine bcase_dec (fun h4=>?_) fun h4=>?_
  ·obtain ⟨f,rfl⟩:∃ g,f=g+1:=⟨f-1,by omega⟩
   refine gb H hok2 hv2 (by omega) fun h hok3 hv3 H=>?_
   refine ⟨_,rfl,?_⟩
   have hon:(if bitW m base st=1 then onesW m base f (k+1) (getW m base st) else (k,getW m base st))=onesW m base 5 0 st1:=hon
   refine bcase_eq (fun h5=>?_) fun h5=>?_
   ·rw [if_pos (by omega)] at hon
    refine bindI_of (((k+1:Nat):Int)) (by exact i64_at _ _ (by omega) (by omega) (by omega)) ?_
    exact ⟨f,by omega,k+1,getW m base st,by omega,rfl,hon,hok3,hv3,H⟩
   ·rw [if_neg (by omega)] at hon
    rw [<- hon]
    exact ⟨n+1+k+1,by omega,rfl,by show k<=5; omega,hok3,hv3,H⟩
  ·obtain rfl:f=0:=by omega
   have hon:(k,st)=onesW m base 5 0 st1:=hon
   rw [<- hon]
   exact ⟨n+1+k,by omega,rfl,by show k<=5; omega,hok2,hv2,H⟩
 rintro h u x ⟨n1,hn1,hxx,hk5,hok2,hv2,H⟩
 injection hxx with hx1 hxx
 injection hx1 with _ hx1
 subst hx1
 generalize (onesW m base 5 0 st1).1=kk at hk hk5 ⊢
 generalize (onesW m base 5 0 st1).2=st2 at hk hok2 hv2 H ⊢
 have hwl:=wWid_le kk
 have hfl:=wFrom_le kk
 refine needs_of (by omega) (ptr_of (a:=⟨rz,0,none⟩) ?_)
 have hadd:((⟨rz,0,none⟩:Addr).add (kk*2))=⟨rz,0+kk*2,none⟩:=by rw [add_mk]
 rw [Int.toNat_natCast,hadd]
 refine ldI_of (hpA (o:=0+kk*2) (i:=1) (by rw [hPd] at H; exact H) 5 rfl (by rw [Nat.zero_add]; exact (sizeC_get hk5).2)) ?_
 refine ⟨fun f vs h'=>∃ i:Nat,f+i=wWid kk/\vs=[.int .i64 ((tailW m base st2 i).2:Nat), .int .i64 (i:Nat)]/\Go.Ar.DecOk bytes m (n1+i) (tailW m base st2 i).1.2/\(tailW m base st2 i).1.1<512/\Hp h0 FF h' (P (tailW m base st2 i).1),⟨wWid kk,0,by omega,rfl,hok2,hv2,H⟩,?_⟩
 rintro f h u x y ⟨i,hfi,hxx,hok3,hv3,H⟩
 injection hxx with hx1 hxx
 injection hxx with hx2 hxx
 injection hx1 with _ hx1
 injection hx2 with _ hx2
 subst hx1 hx2
 have htl:=tailW_lt m base st2 i
 have hpw:2 ^ i<=2 ^ 32:=Nat.pow_le_pow_right (by omega) (by omega)
 have hp32:(2:Nat) ^ 32=4294967296:=rfl
 have hbw:=bitW_le m base (tailW m base st2 i).1
 refine bcase_dec (fun h4=>?_) fun h4=>?_
 ·refine bindI_of (((2*(tailW m base st2 i).2:Nat):Int)) (by exact i64_at _ _ (by omega) (by omega) (by omega)) ?_
  refine gb H hok3 hv3 (by omega) fun h hok4 hv4 H=>?_
  refine ⟨_,rfl,?_⟩
  refine bindI_of (((2*(tailW m base st2 i).2+bitW m base (tailW m base st2 i).1:Nat):Int)) (by exact i64_at _ _ (by omega) (by omega) (by omega)) ?_
  refine bindI_of (((i+1:Nat):Int)) (by exact i64_at _ _ (by omega) (by omega) (by omega)) ?_
  exact ⟨f-1,by omega,i+1,by omega,rfl,hok4,hv4,H⟩
 obtain rfl:i=wWid kk:=by omega
 generalize tailW m base st2 (wWid kk)=T at hk hok3 hv3 H htl hbw ⊢
 obtain ⟨st3,t⟩:=T
 have hk:=hk
 simp only at hk hok3 hv3 H htl
 refine needs_of (by omega) (ptr_of (a:=⟨rz,0,none⟩) ?_)
 rw [hadd]
 refine ldI_of (hpA (o:=0+kk*2) (i:=0) (by rw [hPd] at H; exact H) 5 rfl (by rw [Nat.zero_add]; exact (sizeC_get hk5).1)) ?_
 refine bindI_of (((wFrom kk:Nat):Int)) (by exact i64_in _ (by omega) (by omega)) ?_
 refine bindI_of (((t+wFrom kk:Nat):Int)) (by exact i64_at _ _ (by omega) (by omega) (by omega)) ?_
 rw [hPd] at H
 refine ldI_of (hpA H 3 rfl rfl) ?_
 refine bcase_false (by rfl) ?_
 have hkk:=fun h'=>hk h' (n1+wWid kk) (by omega) hok3
 clear hk
 generalize t+wFrom kk=X at hkk ⊢
 refine bcase_dec (fun h5=>?_) fun h5=>?_
 ·refine stV_hp H 4 rfl (Nat.le_of_ble_eq_true rfl) rfl fun h hz H=>?_
  refine stV_hp H 4 rfl (Nat.le_of_ble_eq_true rfl) rfl fun h hz H=>?_
  refine ldI_of (hpA H 4 rfl rfl) (ldB_of (hpA H 4 rfl rfl) ?_)
  unfold ansW at hkk
  rw [if_pos (by omega)] at hkk
  exact hkk _ (Hp.pre H)
 unfold ansW at hkk
 rw [if_neg (by omega)] at hkk
 refine ⟨fun vs h'=>vs=[.bool (decide (sg=1/\X=0))]/\h'=h,?_,?_⟩
 ·refine bcase_eq (fun h6=>?_) fun h6=>?_
  ·refine ⟨?_,rfl⟩
   have:((X:Int) == 0)=decide (sg=1/\X=0):=by
    by_cases hx:X=0
    ·subst hx; simp; omega
    ·simp [hx]
   rw [this]
  ·refine ⟨?_,rfl⟩
   rw [decide_eq_false (fun hh=>h6 (by omega))]
 rintro h' u x ⟨hxx,rfl⟩
 injection hxx with hx1 hxx
 injection hx1 with hx1
 subst hx1
 refine bcase_dec (fun h6=>?_) fun h6=>?_
 ·refine stV_hp H 4 rfl (Nat.le_of_ble_eq_true rfl) rfl fun h hz H=>?_
  refine stV_hp H 4 rfl (Nat.le_of_ble_eq_true rfl) rfl fun h hz H=>?_
  refine ldI_of (hpA H 4 rfl rfl) (ldB_of (hpA H 4 rfl rfl) ?_)
  rw [if_pos h6.1,if_pos h6.2] at hkk
  exact hkk _ (Hp.pre H)
 refine bcase_eq (fun h7=>?_) fun h7=>?_
 ·refine bindI_of ((-(X:Int))) (by (rw [Int.zero_sub]; exact i64_in _ (by omega) (by omega))) ?_
  refine stV_hp H 4 rfl (Nat.le_of_ble_eq_true rfl) rfl fun h hz H=>?_
  refine stV_hp H 4 rfl (Nat.le_of_ble_eq_true rfl) rfl fun h hz H=>?_
  refine ldI_of (hpA H 4 rfl rfl) (ldB_of (hpA H 4 rfl rfl) ?_)
  rw [if_pos (by omega),if_neg (by omega)] at hkk
  exact hkk _ (Hp.pre H)
 ·refine stV_hp H 4 rfl (Nat.le_of_ble_eq_true rfl) rfl fun h hz H=>?_
  refine stV_hp H 4 rfl (Nat.le_of_ble_eq_true rfl) rfl fun h hz H=>?_
  refine ldI_of (hpA H 4 rfl rfl) (ldB_of (hpA H 4 rfl rfl) ?_)
  rw [if_neg (by omega)] at hkk
  exact hkk _ (Hp.pre H)
end Go.Bm
namespace Go.Bm
open Go Go.Den Go.Den.YtbknfejmdekhpaaGreat
end Go.Bm
namespace Go.Bm
open Go Go.Den Go.Den.YtbknfejmdekhpaaGreat
variable {hB:Heap} {q1:Option Addr} {c1:Nat} {b:List Nat} {n:Int} {K:VK} {Kp:PK}
end Go.Bm
namespace Go.Bm
open Go Go.Den Go.Den.YtbknfejmdekhpaaGreat
variable {hB:Heap} {q1:Option Addr} {c1:Nat} {b:List Nat} {n:Int} {K:VK} {Kp:PK}
end Go.Bm
namespace Go.Bm
open Go Go.Den Go.Den.YtbknfejmdekhpaaGreat
variable {hB:Heap} {K:VK} {Kp:PK}
end Go.Bm
namespace Go.Bm
open Go Go.Den Go.Den.YtbknfejmdekhpaaGreat
open Go.Ar (Cod Dec idx putM getD)
def dsN (nx:Nat->Nat->Nat) (m:Nat) (base:Int):List Nat->Nat->List (Nat × Nat)
 | [],_=>[]
 | b::l,v=>(idx (base+(v:Int)) m,b)::dsN nx m base l (nx v b)
def ndN (nx:Nat->Nat->Nat) (l:List Nat) (v:Nat):Nat:=l.foldl nx v
theorem dsN_len (nx:Nat->Nat->Nat) (m:Nat) (base:Int):∀ (l:List Nat) (v:Nat),(dsN nx m base l v).length=l.length
 | [],_=>rfl
 | b::l,v=>by unfold dsN; rw [List.length_cons,List.length_cons,dsN_len nx m base l]
theorem dsN_bit (nx:Nat->Nat->Nat) (m:Nat) (base:Int):∀ (l:List Nat) (v:Nat),(∀ b∈l,b<=1)->∀ d∈dsN nx m base l v,d.2<=1
 | [],_,_=>fun d hd=>by cases hd
 | b::l,v,h=>fun d hd=>by
  unfold dsN at hd
  rcases List.mem_cons.1 hd with rfl | hd
  ·exact h b (List.mem_cons_self ..)
  ·exact dsN_bit nx m base l _ (fun b' hb=>h b' (List.mem_cons_of_mem _ hb)) d hd
theorem dsN_app (nx:Nat->Nat->Nat) (m:Nat) (base:Int):∀ (l l':List Nat) (v:Nat),dsN nx m base (l++l') v=dsN nx m base l v++dsN nx m base l' (ndN nx l v)
 | [],_,_=>rfl
 | b::l,l',v=>by
  show (_,b)::dsN nx m base (l++l') (nx v b)=(_,b)::(dsN nx m base l (nx v b)++dsN nx m base l' (ndN nx l (nx v b)))
  rw [dsN_app nx m base l l' (nx v b)]
theorem ndN_app (nx:Nat->Nat->Nat) (l l':List Nat) (v:Nat):ndN nx (l++l') v=ndN nx l' (ndN nx l v):=List.foldl_append
def runX (nx:Nat->Nat->Nat) (m:Nat) (base:Int) (l:List Nat) (x:Nat × Cod):Nat × Cod:=l.foldl (fun x b=>(nx x.1 b,putM x.2 (idx (base+(x.1:Int)) m) b)) x
theorem runX_snoc (nx:Nat->Nat->Nat) (m:Nat) (base:Int) (l:List Nat) (b:Nat) (x:Nat × Cod):runX nx m base (l++[b]) x=(nx (runX nx m base l x).1 b,putM (runX nx m base l x).2 (idx (base+((runX nx m base l x).1:Int)) m) b):=by
 unfold runX
 rw [List.foldl_append]
 rfl
theorem runX_cdL (nx:Nat->Nat->Nat) (m:Nat) (base:Int):∀ (l:List Nat) (v:Nat) (L:List (Nat × Nat)),runX nx m base l (v,cdL m L)=(ndN nx l v,cdL m (L++dsN nx m base l v))
 | [],v,L=>by show (v,cdL m L)=(v,cdL m (L++[])); rw [List.append_nil]
 | b::l,v,L=>by
  show runX nx m base l (nx v b,putM (cdL m L) (idx (base+(v:Int)) m) b)=(ndN nx l (nx v b),cdL m (L++((idx (base+(v:Int)) m,b)::dsN nx m base l (nx v b))))
  rw [<- cdL_snoc m L (idx (base+(v:Int)) m,b),runX_cdL nx m base l,List.append_assoc]
  rfl
def dsWh (m:Nat) (base v:Int) (none:Bool):List (Nat × Nat):=dsN nextW m base (bitsL (sgW v none) (mW v none)) 1
theorem dsWh_len (m:Nat) (base v:Int) (none:Bool):(dsWh m base v none).length<=39:=by
 unfold dsWh
 rw [dsN_len]
 exact bitsL_len _ _
theorem dsWh_bit (m:Nat) (base v:Int) (none:Bool):∀ d∈dsWh m base v none,d.2<=1:=dsN_bit _ _ _ _ _ (bitsL_le (sgW_le v none))
theorem run_wh (m:Nat) (base v:Int) (none:Bool) (L:List (Nat × Nat)):(runW m base (bitsL (sgW v none) (mW v none)) (1,cdL m L)).2=cdL m (L++dsWh m base v none):=by
 rw [show runW m base (bitsL (sgW v none) (mW v none)) (1,cdL m L)=runX nextW m base (bitsL (sgW v none) (mW v none)) (1,cdL m L) from rfl,runX_cdL]
 rfl
def nextI (v b:Nat):Nat:=2*v+b
def runI (m:Nat) (base:Int) (l:List Nat) (x:Nat × Cod):Nat × Cod:=runX nextI m base l x
def dsId (m:Nat) (base:Int) (w x:Nat):List (Nat × Nat):=dsN nextI m base (tailB x w) 1
theorem dsId_len (m:Nat) (base:Int) (w x:Nat):(dsId m base w x).length=w:=by
 unfold dsId
 rw [dsN_len,tailB_len]
theorem tailB_bit (x w:Nat):∀ b∈tailB x w,b<=1:=fun b hb=>by
 unfold tailB at hb
 obtain ⟨i,_,rfl⟩:=List.mem_map.1 hb
 exact Nat.le_of_lt_succ (Nat.mod_lt _ (by decide))
theorem dsId_bit (m:Nat) (base:Int) (w x:Nat):∀ d∈dsId m base w x,d.2<=1:=dsN_bit _ _ _ _ _ (tailB_bit x w)
theorem run_id (m:Nat) (base:Int) (w x:Nat) (L:List (Nat × Nat)):(runI m base (tailB x w) (1,cdL m L)).2=cdL m (L++dsId m base w x):=by
 unfold runI
 rw [runX_cdL]
 rfl
theorem ndI (x w:Nat) (hx:x<2 ^ w):∀ i,i<=w->ndN nextI ((tailB x w).take i) 1=2 ^ i+x / 2 ^ (w-i)
 | 0,_=>by
  rw [Nat.sub_zero,Nat.div_eq_of_lt hx]
  rfl
 | i+1,hi=>by
  rw [tailB_take (by omega),ndN_app,ndI x w hx i (by omega)]
  show 2*(2 ^ i+x / 2 ^ (w-i))+x / 2 ^ (w-1-i) % 2=_
  rw [show w-i=(w-1-i)+1 by omega,show w-(i+1)=w-1-i by omega,Nat.pow_succ,Nat.pow_succ,<- Nat.div_div_eq_div_mul]
  omega
def getI (m:Nat) (base:Int) (st:Nat × Dec):Nat × Dec:=(nextI st.1 (getD st.2 (idx (base+(st.1:Nat)) m)).2,(getD st.2 (idx (base+(st.1:Nat)) m)).1)
def itI (m:Nat) (base:Int) (st:Nat × Dec):Nat->Nat × Dec
 | 0=>st
 | i+1=>getI m base (itI m base st i)
theorem itI_lt (m:Nat) (base:Int) (s:Dec):∀ i,2 ^ i<=(itI m base (1,s) i).1/\(itI m base (1,s) i).1<2 ^ (i+1)
 | 0=>⟨Nat.le_refl _,by show 1<2; omega⟩
 | i+1=>by
  have ih:=itI_lt m base s i
  have hb:(getD (itI m base (1,s) i).2 (idx (base+((itI m base (1,s) i).1:Nat)) m)).2<=1:=Go.Ar.getD_bit _
  show 2 ^ (i+1)<=2*(itI m base (1,s) i).1+_/\2*(itI m base (1,s) i).1+_<2 ^ (i+1+1)
  rw [Nat.pow_succ 2 (i+1),Nat.pow_succ 2 i] at *
  omega
section
variable {L:List (Nat × Nat)} {D:Nat->Dec} (hW:Walk L D) {m:Nat} {base:Int}
include hW
theorem get_one {A B:List (Nat × Nat)} {v b:Nat} (e:L=A++(idx (base+(v:Int)) m,b)::B):getW m base (v,D A.length)=(nextW v b,D (A++[(idx (base+(v:Int)) m,b)]).length)/\bitW m base (v,D A.length)=b:=by
 have h:=hW.at e
 unfold getW bitW
 dsimp only at h ⊢
 rw [h,List.length_append]
 exact ⟨rfl,rfl⟩
theorem get_ones:∀ (j f k:Nat) (A B:List (Nat × Nat)) (v:Nat),j<=f->L=A++(dsN nextW m base (List.replicate j 1++(if j<f then [0] else [])) v++B) ->
  onesW m base f k (v,D A.length)=(k+j,(ndN nextW (List.replicate j 1++(if j<f then [0] else [])) v,D (A++dsN nextW m base (List.replicate j 1++(if j<f then [0] else [])) v).length))
 | 0,0,k,A,B,v,_,_=>by simp [onesW,ndN,dsN]
 | 0,f+1,k,A,B,v,_,e=>by
  rw [if_pos (by omega)] at e ⊢
  obtain ⟨h1,h2⟩:=get_one hW (A:=A) (B:=B) (v:=v) (b:=0) e
  unfold onesW
  rw [h2,if_neg (by omega),h1]
  rfl
 | j+1,f+1,k,A,B,v,hj,e=>by
  have hif:(if j+1<f+1 then [0] else ([]:List Nat))=if j<f then [0] else []:=by
   by_cases h:j<f
   ·rw [if_pos h,if_pos (by omega)]
   ·rw [if_neg h,if_neg (by omega)]
  rw [hif] at e ⊢
  rw [List.replicate_succ,List.cons_append] at e ⊢
  have e:L=A++(idx (base+(v:Int)) m,1)::(dsN nextW m base (List.replicate j 1++(if j<f then [0] else [])) (nextW v 1)++B):=e
  obtain ⟨h1,h2⟩:=get_one hW e
  have ih:=get_ones j f (k+1) (A++[(idx (base+(v:Int)) m,1)]) B (nextW v 1) (by omega) (by rw [List.append_assoc]; exact e)
  unfold onesW
  rw [h2,if_pos rfl,h1,ih]
  show _=(k+(j+1),ndN nextW (List.replicate j 1++(if j<f then [0] else [])) (nextW v 1),D (A++([(idx (base+(v:Int)) m,1)]++dsN nextW m base (List.replicate j 1++(if j<f then [0] else [])) (nextW v 1))).length)
  rw [<- List.append_assoc,show k+1+j=k+(j+1) by omega]
theorem get_tail {A:List (Nat × Nat)} {x w v:Nat} (hx:x<2 ^ w):∀ i,i<=w->∀ B,L=A++(dsN nextW m base ((tailB x w).take i) v++B) ->
  tailW m base (v,D A.length) i=((ndN nextW ((tailB x w).take i) v,D (A++dsN nextW m base ((tailB x w).take i) v).length),x / 2 ^ (w-i))
 | 0,_,B,_=>by
  rw [Nat.sub_zero,Nat.div_eq_of_lt hx]
  simp [tailW,ndN,dsN]
 | i+1,hi,B,e=>by
  rw [tailB_take (by omega),dsN_app,List.append_assoc] at e
  have ih:=get_tail hx i (by omega) _ e
  have e2:L=(A++dsN nextW m base ((tailB x w).take i) v)++(idx (base+((ndN nextW ((tailB x w).take i) v:Nat):Int)) m,x / 2 ^ (w-1-i) % 2)::B:=by rw [e,List.append_assoc]; rfl
  obtain ⟨h1,h2⟩:=get_one hW e2
  unfold tailW
  rw [ih]
  dsimp only
  rw [h1,h2,tailB_take (by omega),dsN_app,ndN_app,List.append_assoc]
  refine Prod.ext rfl ?_
  show 2*(x / 2 ^ (w-i))+x / 2 ^ (w-1-i) % 2=x / 2 ^ (w-(i+1))
  rw [show w-i=(w-1-i)+1 by omega,show w-(i+1)=w-1-i by omega,Nat.pow_succ,<- Nat.div_div_eq_div_mul]
  omega
theorem get_num {A B:List (Nat × Nat)} {sg x:Nat} (hs:sg<=1) (hx:x<=2147483648) (e:L=A++(dsN nextW m base (bitsL sg x) 1++B)) :
  decW m base (D A.length)=(ansW sg x,D (A++dsN nextW m base (bitsL sg x) 1).length):=by
 have hb:bitsL sg x=sg::((List.replicate (wK x) 1++(if wK x<5 then [0] else []))++(tailB (x-wFrom (wK x)) (wWid (wK x))).take (wWid (wK x))):=by
  unfold bitsL headB
  rw [List.take_of_length_le (by rw [tailB_len]; exact Nat.le_refl _)]
  simp
 obtain ⟨hk1,hk2⟩:=wK_spec x
 have hk5:=wK_le x
 have hw:x-wFrom (wK x)<2 ^ wWid (wK x):=by
  have:wK x=0\/wK x=1\/wK x=2\/wK x=3\/wK x=4\/wK x=5:=by omega
  rcases this with h | h | h | h | h | h <;> rw [h] at hk1 hk2 ⊢
  ·have:=hk2 1 (by omega) (by omega); simp [wFrom,wWid] at this ⊢; omega
  ·have:=hk2 2 (by omega) (by omega); simp [wFrom,wWid] at this ⊢; omega
  ·have:=hk2 3 (by omega) (by omega); simp [wFrom,wWid] at this ⊢; omega
  ·have:=hk2 4 (by omega) (by omega); simp [wFrom,wWid] at this ⊢; omega
  ·have:=hk2 5 (by omega) (by omega); simp [wFrom,wWid] at this ⊢; omega
  ·simp [wFrom,wWid]; omega
 rw [hb] at e ⊢
 generalize hH:(List.replicate (wK x) 1++(if wK x<5 then [0] else []):List Nat)=hd at e ⊢
 have e1:L=A++(idx (base+((1:Nat):Int)) m,sg)::(dsN nextW m base (hd++(tailB (x-wFrom (wK x)) (wWid (wK x))).take (wWid (wK x))) (nextW 1 sg)++B):=e
 obtain ⟨h1,h2⟩:=get_one hW e1
 rw [dsN_app] at e1
 have e2:L=(A++[(idx (base+((1:Nat):Int)) m,sg)])++(dsN nextW m base hd (nextW 1 sg)++(dsN nextW m base ((tailB (x-wFrom (wK x)) (wWid (wK x))).take (wWid (wK x))) (ndN nextW hd (nextW 1 sg))++B)):=by
  rw [e1]; simp
 have h3:=get_ones hW (wK x) 5 0 _ _ (nextW 1 sg) hk5 (by rw [hH]; exact e2)
 rw [hH] at h3
 have h4:=get_tail hW hw (wWid (wK x)) (Nat.le_refl _) B (A:=A++[(idx (base+((1:Nat):Int)) m,sg)]++dsN nextW m base hd (nextW 1 sg)) (v:=ndN nextW hd (nextW 1 sg)) (by rw [e2,List.append_assoc _ (dsN nextW m base hd (nextW 1 sg))])
 rw [Nat.sub_self,Nat.pow_zero,Nat.div_one] at h4
 unfold decW
 rw [h1,h2,h3]
 dsimp only
 rw [Nat.zero_add,h4]
 dsimp only
 rw [show x-wFrom (wK x)+wFrom (wK x)=x by omega]
 refine Prod.ext rfl ?_
 show D _=D (A++((idx (base+((1:Nat):Int)) m,sg)::dsN nextW m base (hd++(tailB (x-wFrom (wK x)) (wWid (wK x))).take (wWid (wK x))) (nextW 1 sg))).length
 rw [dsN_app]
 simp
theorem get_wh {A B:List (Nat × Nat)} {v:Int} {none:Bool} (hr:rightW v none) (e:L=A++(dsWh m base v none++B)) :
  decW m base (D A.length)=((0,(if none=true then 0 else v),none),D (A++dsWh m base v none).length):=by
 have hm:=mW_lt hr
 rw [get_num hW (sgW_le v none) hm e]
 refine Prod.ext ?_ rfl
 show ansW (sgW v none) (mW v none)=_
 unfold ansW
 rw [if_neg (by omega)]
 cases none with
 | true=>rfl
 | false =>
  have e0:mW v false=v.natAbs:=rfl
  have hm2:v.natAbs<=2147483648:=hm
  rw [e0]
  by_cases hv:v<0
  ·have e1:¬ v.natAbs=0:=by omega
   have e2:sgW v false=1:=by unfold sgW; rw [if_neg (by decide),if_pos hv]
   rw [e2,if_pos rfl,if_neg e1,show (-((v.natAbs:Nat):Int))=v by omega]
   rfl
  ·have e2:sgW v false=0:=by unfold sgW; rw [if_neg (by decide),if_neg hv]
   rw [e2,if_neg (by decide),show (((v.natAbs:Nat):Int))=v by omega]
   rfl
theorem get_id {A B:List (Nat × Nat)} {w x:Nat} (hx:x<2 ^ w) (e:L=A++(dsId m base w x++B)):∀ i,i<=w ->
  itI m base (1,D A.length) i=(ndN nextI ((tailB x w).take i) 1,D (A++dsN nextI m base ((tailB x w).take i) 1).length)
 | 0,_=>by simp [itI,ndN,dsN]
 | i+1,hi=>by
  have ih:=get_id hx e i (by omega)
  have e2:tailB x w=(tailB x w).take (i+1)++(tailB x w).drop (i+1):=(List.take_append_drop _ _).symm
  unfold dsId at e
  rw [e2,tailB_take (by omega),dsN_app,dsN_app,List.append_assoc,List.append_assoc] at e
  have e3:L=(A++dsN nextI m base ((tailB x w).take i) 1)++(idx (base+((ndN nextI ((tailB x w).take i) 1:Nat):Int)) m,x / 2 ^ (w-1-i) % 2)::(dsN nextI m base ((tailB x w).drop (i+1)) (ndN nextI ((tailB x w).take i++[x / 2 ^ (w-1-i) % 2]) 1)++B):=by rw [e,List.append_assoc]; rfl
  have h:=hW.at e3
  unfold itI
  rw [ih]
  unfold getI
  dsimp only at h ⊢
  rw [h,tailB_take (by omega),dsN_app,ndN_app]
  refine Prod.ext rfl ?_
  show D (_+1)=D (A++(dsN nextI m base ((tailB x w).take i) 1++[(_,_)])).length
  rw [<- List.append_assoc]; simp only [List.length_append,List.length_singleton]
theorem get_ID {A B:List (Nat × Nat)} {w x:Nat} (hx:x<2 ^ w) (e:L=A++(dsId m base w x++B)):itI m base (1,D A.length) w=(2 ^ w+x,D (A++dsId m base w x).length):=by
 have ht:(tailB x w).take w=tailB x w:=List.take_of_length_le (by rw [tailB_len]; exact Nat.le_refl _)
 have h:=get_id hW hx e w (Nat.le_refl _)
 have hn:=ndI x w hx w (Nat.le_refl _)
 rw [ht] at h hn
 rw [h,hn,Nat.sub_self,Nat.pow_zero,Nat.div_one]
 rfl
end
end Go.Bm
namespace Go.Bm
open Go Go.Den Go.Den.YtbknfejmdekhpaaGreat
open Go.Ar (newC)
theorem EncWh.bytes {l:List (Int × Bool)} {e:Int} {bs:List Nat} (h:EncWh l e bs):(∀ x∈bs,x<256)/\bs.length<140737488351300:=by
 rcases h with ⟨_,_,rfl⟩ | ⟨_,_,rfl,n,hn,hok⟩
 ·exact ⟨(fun x hx=>by cases hx),by decide⟩
 ·refine ⟨Go.Ar.flushM_lt hok.wf,?_⟩
  have h1:=Go.Ar.flushM_len (encS l (newC 512))
  have h2:=hok.wf.len
  have h3:=hok.wf.n
  omega
end Go.Bm
namespace Go.Bm
open Go Go.Den Go.Den.YtbknfejmdekhpaaGreat
open Go.Ar (Cod CodOk Dec BOk codL decL idx putM putM_ok getD getD_ok getD_bit)
theorem runX_ok {nx:Nat->Nat->Nat} {m n0:Nat} {base:Int} {s:Cod} (hc:CodOk m n0 s):∀ (l:List Nat) (v:Nat),n0+l.length<=16777216->CodOk m (n0+l.length) (runX nx m base l (v,s)).2:=by
 intro l
 induction l generalizing n0 s with
 | nil=>intro v _; exact hc
 | cons b l ih =>
  intro v hn
  rw [List.length_cons] at hn ⊢
  have h1:=ih (putM_ok hc (idx (base+(v:Int)) m) b (by omega)) (nx v b) (by omega)
  rw [show n0+(l.length+1)=n0+1+l.length by omega]
  exact h1
theorem runX_fst (nx:Nat->Nat->Nat) (m:Nat) (base:Int) (s:Cod):∀ (l:List Nat) (v:Nat),(runX nx m base l (v,s)).1=ndN nx l v:=by
 intro l
 induction l generalizing s with
 | nil=>intro v; rfl
 | cons b l ih=>intro v; exact ih (putM s (idx (base+(v:Int)) m) b) (nx v b)
def IdFit (base:Int) (w m:Nat):Prop:=0<=base/\base+((2 ^ w:Nat):Int)<=(m:Int)
theorem pow12 {w:Nat} (h:w<=12):1<=2 ^ w/\2 ^ w<=4096:=by
 have h1:(2:Nat) ^ w<=2 ^ 12:=Nat.pow_le_pow_right (by decide) h
 have h2:0<(2:Nat) ^ w:=Nat.pow_pos (by decide)
 have h3:(2:Nat) ^ 12=4096:=by decide
 omega
theorem shl1_of {w:Nat} (h:w<=12):shlI .i64 (1:Int) ((w:Nat):Int)=((2 ^ w:Nat):Int):=by
 have hp:=pow12 h
 refine shl_of (x:=1) (i:=w) (by show w<=64; omega) ?_
 rw [Nat.one_mul]
 exact i64_in _ (by omega) (by omega)
section
variable {hB:Heap} {K:VK} {Kp:PK}
theorem wids_ok {base width:Int} {m:Nat} (hm:m<=131072) (h52:¬ (0<=width/\width<=12)->K (.int .i64 52) hB) (h51:∀ w:Nat,width=(w:Nat)->w<=12->¬ IdFit base w m->K (.int .i64 51) hB) (hk0:∀ w:Nat,width=(w:Nat)->w<=12->IdFit base w m->K (.int .i64 0) hB) :
  CP F_whole_ids #[.int .i64 base, .int .i64 width, .int .i64 (m:Nat)] hB K Kp:=by
 refine call_whole_ids ?_
 unfold whole_ids
 refine bcase_dec (fun h1=>h52 (by omega)) fun h1=>?_
 refine bcase_dec (fun h2=>h52 (by omega)) fun h2=>?_
 obtain ⟨w,rfl⟩:∃ w:Nat,width=(w:Nat):=⟨width.toNat,by omega⟩
 have hw:w<=12:=by omega
 have hp:=pow12 hw
 refine needs_of (by omega) ?_
 refine bindI_of (((2 ^ w:Nat):Int)) (by exact shl1_of hw) ?_
 refine wfits_ok (many:=2 ^ w) (all:=m) (by omega) (by omega) fun bf hbf=>?_
 refine ⟨_,rfl,?_⟩
 refine bcase_not (fun h3=>h51 w rfl hw fun hh=>?_) fun h3=>hk0 w rfl hw (hbf.1 h3)
 rw [hbf.2 hh] at h3
 cases h3
end
section
variable {h0 h:Heap} {FF:List Nat} {m n0:Nat} {base width id:Int} {K:VK} {Kp:PK}
set_option maxHeartbeats 4000000 in
theorem wputid_ok {p q r:Nat} {s:Cod} {rest:List Value} (HC:Hp h0 FF h (codL p q r s rest)) (hc:CodOk m n0 s) (hm1:1<=m) (hm2:m<=131072) (hN:n0+64<=16777216)
  (hk52:¬ (0<=width/\width<=12)->K (.int .i64 52) h) (hk51:∀ w:Nat,width=(w:Nat)->w<=12->¬ IdFit base w m->K (.int .i64 51) h)
  (hk50:∀ w:Nat,width=(w:Nat)->w<=12->IdFit base w m->¬ (0<=id/\id<((2 ^ w:Nat):Int))->K (.int .i64 50) h)
  (hk0:∀ (w x r':Nat) rest' h',width=(w:Nat)->w<=12->IdFit base w m->id=(x:Nat)->x<2 ^ w->Hp h0 FF h' (codL p q r' (runI m base (tailB x w) (1,s)).2 rest')->K (.int .i64 0) h') :
  CP F_whole_PutID #[.pointer (at0 p), .int .i64 base, .int .i64 width, .int .i64 id] h K Kp:=by
 refine call_whole_PutID ?_
 unfold whole_PutID
 refine bcase_false (by rfl) ?_
 refine ptr_of (a:=⟨p,0,none⟩) ?_
 refine Go.Ar.contexts_ok (n:=s.st.length) HC 0 rfl ?_
 refine ⟨_,rfl,?_⟩
 rw [hc.len]
 refine wids_ok hm2 (fun h1=>⟨_,rfl,?_⟩) (fun w ew hw h1=>⟨_,rfl,?_⟩) (fun w ew hw h1=>⟨_,rfl,?_⟩)
 ·refine bcase_true (by rfl) ?_
  exact hk52 h1
 ·refine bcase_true (by rfl) ?_
  exact hk51 w ew hw h1
 subst ew
 have hp:=pow12 hw
 refine bcase_false (by rfl) ?_
 refine bcase_dec (fun h2=>hk50 w rfl hw h1 (by omega)) fun h2=>?_
 obtain ⟨x,rfl⟩:∃ x:Nat,id=(x:Nat):=⟨id.toNat,by omega⟩
 refine needs_of (by omega) ?_
 refine bindI_of (((x / 2 ^ w:Nat):Int)) (by exact shr_of (by show w<=64; omega)) ?_
 refine bcase_ne (fun h3=>hk50 w rfl hw h1 fun hh=>h3 ?_) fun h3=>?_
 ·rw [Nat.div_eq_of_lt (by omega)]
  rfl
 have hx:x<2 ^ w:=by
  have h3:x / 2 ^ w=0:=by omega
  rcases Nat.div_eq_zero_iff.1 h3 with h4 | h4
  ·omega
  ·exact h4
 refine bindI_of (((w:Int)-1)) (by exact i64_in _ (by omega) (by omega)) ?_
 refine ⟨fun f vs h'=>∃ (i r':Nat) (rest':List Value),i+f=w/\vs=[.int .i64 ((runI m base ((tailB x w).take i) (1,s)).1:Nat), .int .i64 ((w:Int)-1-(i:Int))] /\
  Hp h0 FF h' (codL p q r' (runI m base ((tailB x w).take i) (1,s)).2 rest'),⟨w,0,r,rest,by omega,(by rw [show ((w:Int)-1-((0:Nat):Int))=(w:Int)-1 by omega]; rfl),HC⟩,?_⟩
 clear HC
 rintro f h u v1 v2 ⟨i,r',rest',hif,hxx,H⟩
 injection hxx with hx1 hxx
 injection hxx with hx2 hxx
 injection hx1 with _ hx1
 injection hx2 with _ hx2
 subst hx1 hx2
 refine bcase_dec (fun h4=>?_) fun h4=>?_
 ·have hi:i<w:=by omega
  have hlen:((tailB x w).take i).length=i:=by rw [List.length_take,tailB_len]; omega
  have hcod:=runX_ok (nx:=nextI) (base:=base) hc ((tailB x w).take i) 1 (by rw [hlen]; omega)
  have hnd:=(runX_fst nextI m base s ((tailB x w).take i) 1).trans (ndI x w hx i (by omega))
  have hsn:=runX_snoc nextI m base ((tailB x w).take i) (x / 2 ^ (w-1-i) % 2) (1,s)
  have htk:=tailB_take (x:=x) hi
  have hpi:(2:Nat) ^ i<=2 ^ w:=Nat.pow_le_pow_right (by decide) (by omega)
  have hdv:x / 2 ^ (w-i)<2 ^ w:=Nat.lt_of_le_of_lt (Nat.div_le_self _ _) hx
  rw [hlen] at hcod
  unfold runI at H ⊢
  rw [<- htk] at hsn
  generalize runX nextI m base ((tailB x w).take i) (1,s)=st at hcod hnd hsn H ⊢
  obtain ⟨nd,S1⟩:=st
  have hnd:nd=2 ^ i+x / 2 ^ (w-i):=hnd
  have hcod:CodOk m (n0+i) S1:=hcod
  have hb1:x / 2 ^ (w-1-i) % 2<=1:=Nat.le_of_lt_succ (Nat.mod_lt _ (by decide))
  rw [show ((w:Int)-1-(i:Int))=((w-1-i:Nat):Int) by omega]
  refine needs_of (by omega) ?_
  refine bindI_of (((x / 2 ^ (w-1-i):Nat):Int)) (by exact shr_of (by show w-1-i<=64; omega)) ?_
  refine bindI_of (((x / 2 ^ (w-1-i) % 2:Nat):Int)) (by rw [and63_1]; rfl) ?_
  unfold IdFit at h1
  refine bindI_of ((base+(nd:Int))) (by exact i64_in _ (by omega) (by omega)) ?_
  refine Go.Ar.put_ok (bit:=x / 2 ^ (w-1-i) % 2) H hcod.wf hcod.done (by rw [hcod.n]; omega) (by rw [hcod.len]; exact hm1) (by rw [hcod.len]; exact hm2) hb1 fun r4 rest4 h5 H=>?_
  rw [hcod.len] at H
  refine ⟨_,rfl,?_⟩
  refine bcase_false (by rfl) ?_
  generalize x / 2 ^ (w-1-i) % 2=bit at hb1 hsn H ⊢
  refine bindI_of (((2*nd:Nat):Int)) (by exact i64_at _ _ (by omega) (by omega) (by omega)) ?_
  refine bindI_of (((2*nd+bit:Nat):Int)) (by exact i64_at _ _ (by omega) (by omega) (by omega)) ?_
  refine bindI_of (((w:Int)-1-((i+1:Nat):Int))) (by exact i64_at _ _ (by omega) (by omega) (by omega)) ?_
  exact ⟨f-1,by omega,i+1,r4,rest4,by omega,by rw [hsn]; rfl,by rw [hsn]; exact H⟩
 ·have hi:w<=i:=by omega
  rw [List.take_of_length_le (by rw [tailB_len]; exact hi)] at H
  exact hk0 w x r' rest' h rfl hw h1 rfl hx H
variable {e:Ent} {bp:Option Addr} {bc n:Nat} {bytes:List Nat}
set_option maxHeartbeats 4000000 in
theorem wgetid_ok {p q:Nat} {s:Dec} (HC:Hp h0 FF h (decL p q e bp bc s)) (hw:e.w=true) (hb:BOk e bp bytes) (hok:Go.Ar.DecOk bytes m n s) (hbl:bytes.length<140737488351300) (hn:n+64<=16777216) (hm1:1<=m) (hm2:m<=131072)
  (hk52:¬ (0<=width/\width<=12)->K (.tuple #[.int .i64 0, .int .i64 52]) h) (hk51:∀ w:Nat,width=(w:Nat)->w<=12->¬ IdFit base w m->K (.tuple #[.int .i64 0, .int .i64 51]) h)
  (hk0:∀ (w:Nat) h',width=(w:Nat)->w<=12->IdFit base w m->Go.Ar.DecOk bytes m (n+w) (itI m base (1,s) w).2->Hp h0 FF h' (decL p q e bp bc (itI m base (1,s) w).2)->K (.tuple #[.int .i64 ((itI m base (1,s) w).1-((2 ^ w:Nat):Int)), .int .i64 0]) h') :
  CP F_whole_GetID #[.pointer (at0 p), .int .i64 base, .int .i64 width] h K Kp:=by
 refine call_whole_GetID ?_
 unfold whole_GetID
 refine bcase_false (by rfl) ?_
 refine ptr_of (a:=⟨p,0,none⟩) ?_
 refine Go.Ar.contexts_ok (n:=s.st.length) HC 0 rfl ?_
 refine ⟨_,rfl,?_⟩
 rw [hok.len]
 refine wids_ok hm2 (fun h1=>⟨_,rfl,?_⟩) (fun w ew hw h1=>⟨_,rfl,?_⟩) (fun w ew hw12 h1=>⟨_,rfl,?_⟩)
 ·refine bcase_true (by rfl) ?_
  exact hk52 h1
 ·refine bcase_true (by rfl) ?_
  exact hk51 w ew hw h1
 subst ew
 have hp:=pow12 hw12
 refine bcase_false (by rfl) ?_
 refine ⟨fun f vs h'=>∃ i:Nat,i+f=w/\vs=[.int .i64 ((itI m base (1,s) i).1:Nat), .int .i64 (i:Nat)]/\Go.Ar.DecOk bytes m (n+i) (itI m base (1,s) i).2/\Hp h0 FF h' (decL p q e bp bc (itI m base (1,s) i).2),⟨w,0,by omega,rfl,hok,HC⟩,?_⟩
 clear HC
 rintro f h u v1 v2 ⟨i,hif,hxx,hok1,H⟩
 injection hxx with hx1 hxx
 injection hxx with hx2 hxx
 injection hx1 with _ hx1
 injection hx2 with _ hx2
 subst hx1 hx2
 have hlt:=itI_lt m base s i
 refine bcase_dec (fun h4=>?_) fun h4=>?_
 ·have hi:i<w:=by omega
  have hpi:(2:Nat) ^ (i+1)<=2 ^ w:=Nat.pow_le_pow_right (by decide) (by omega)
  obtain ⟨st',hst'⟩:∃ st',st'=itI m base (1,s) (i+1):=⟨_,rfl⟩
  have hsn:st'=getI m base (itI m base (1,s) i):=hst'
  generalize hgen:itI m base (1,s) i=st at hlt hok1 hsn H ⊢
  obtain ⟨nd,S1⟩:=st
  simp only at hlt hok1 H
  unfold IdFit at h1
  refine bindI_of ((base+(nd:Int))) (by exact i64_in _ (by omega) (by omega)) ?_
  refine Go.Ar.get_ok H (by rw [hok1.b]; exact hb) hok1.wf (by rw [hok1.b]; exact hbl) (by rw [hok1.n]; omega) (by rw [hok1.len]; exact hm1) (by rw [hok1.len]; exact hm2) fun h' H=>?_
  rw [hok1.len] at H ⊢
  have hb1:(getD S1 (idx (base+(nd:Nat)) m)).2<=1:=getD_bit _
  refine ⟨_,_,rfl,?_⟩
  refine bcase_false (by rfl) ?_
  have hok2:=getD_ok hok1 (idx (base+(nd:Nat)) m) (by omega)
  unfold getI nextI at hsn
  dsimp only at hsn
  generalize getD S1 (idx (base+(nd:Nat)) m)=G at hb1 hsn hok2 H ⊢
  obtain ⟨S2,bit⟩:=G
  simp only at hb1 hok2 H ⊢
  have hsn:st'=(2*nd+bit,S2):=hsn
  refine bindI_of (((2*nd:Nat):Int)) (by exact i64_at _ _ (by omega) (by omega) (by omega)) ?_
  refine bindI_of (((2*nd+bit:Nat):Int)) (by exact i64_at _ _ (by omega) (by omega) (by omega)) ?_
  refine bindI_of (((i+1:Nat):Int)) (by exact i64_at _ _ (by omega) (by omega) (by omega)) ?_
  exact ⟨f-1,by omega,i+1,by omega,by rw [<- hst',hsn],by rw [<- hst',hsn]; exact hok2,by rw [<- hst',hsn]; exact H⟩
 ·obtain rfl:i=w:=by omega
  have hpi:(2:Nat) ^ (i+1)=2 ^ i*2:=Nat.pow_succ ..
  refine needs_of (by omega) ?_
  refine bindI_of (((2 ^ i:Nat):Int)) (by exact shl1_of hw12) ?_
  refine bindI_of ((((itI m base (1,s) i).1:Nat)-((2 ^ i:Nat):Int))) (by exact i64_in _ (by omega) (by omega)) ?_
  exact hk0 i h rfl hw12 h1 hok1 H
end
end Go.Bm
namespace Go.Bm
open Go Go.Den Go.Den.YtbknfejmdekhpaaGreat
end Go.Bm
namespace Go.Bm
open Go Go.Den Go.Den.YtbknfejmdekhpaaGreat
structure ItW where
 id:Bool
 base:Int
 width:Int
 v:Int
 none:Bool
def ItW.cs (t:ItW):List Value:=[.bool t.id, .int .i64 t.base, .int .i64 t.width, .int .i64 t.v, .bool t.none]
instance (base:Int) (w m:Nat):Decidable (IdFit base w m):=by unfold IdFit; infer_instance
instance (v:Int) (b:Bool):Decidable (rightW v b):=by unfold rightW; infer_instance
section
variable {h0 h:Heap} {FF:List Nat} {K:VK} {Kp:PK} {L:List (Nat × Nat)} {t:ItW}
end
end Go.Bm
namespace Go.Bm
open Go Go.Den Go.Den.YtbknfejmdekhpaaGreat
open Go.Ar (newD_ok decN)
theorem decN_okW {k:Nat->Nat} {bytes:List Nat} {m:Nat} (hb:∀ x∈bytes,x<256):∀ i,i<=16777216->Go.Ar.DecOk bytes m i (decN k bytes m i)
 | 0,_=>newD_ok hb m
 | i+1,hi=>Go.Ar.getD_ok (decN_okW hb i (by omega)) _ (by omega)
end Go.Bm
namespace Go.Bm
open Go Go.Den Go.Den.YtbknfejmdekhpaaGreat
structure Bmp where
 w:Int
 h:Int
 ws:List Nat
abbrev Bmp.may (b:Bmp):Prop:=MayP b.w b.h b.ws
structure BmC (h:Heap) (a:Addr) (b:Bmp) (q:Option Addr) (c:Nat):Prop where
 c0:hcell h (a.add 0)=some (.int .i64 b.w)
 c1:hcell h (a.add 1)=some (.int .i64 b.h)
 c2:hcell h (a.add 2)=some (.slice q b.ws.length c)
 r1:rdO h q (b.ws.length*1) (u64s b.ws)
 w1:W64 b.ws
 l1:b.ws.length<140737488351300
def BmsV (h:Heap) (q:Option Addr) (l:List Bmp):Prop:=∀ i b,l[i]? = some b->∃ a q1 c1,q=some a/\BmC h (a.add (i*3)) b q1 c1
theorem BmC.ext {h h':Heap} {a:Addr} {b:Bmp} {q:Option Addr} {c:Nat} (H:BmC h a b q c) (e:hext h h'):BmC h' a b q c:=⟨e.cell H.c0,e.cell H.c1,e.cell H.c2,rdO_ext e H.r1,H.w1,H.l1⟩
theorem BmsV.ext {h h':Heap} {q:Option Addr} {l:List Bmp} (H:BmsV h q l) (e:hext h h'):BmsV h' q l:=fun i b hi=>by
 obtain ⟨a,q1,c1,ha,hc⟩:=H i b hi
 exact ⟨a,q1,c1,ha,hc.ext e⟩
def MayL (l:List Bmp):Prop:=∀ b∈l,b.may
theorem MayL.take {l:List Bmp} {i:Nat} {b:Bmp} (h:MayL (l.take i)) (hi:l[i]? = some b) (hb:b.may):MayL (l.take (i+1)):=by
 rw [take_snocG hi]
 intro x hx
 rcases List.mem_append.1 hx with hx | hx
 ·exact h x hx
 ·rw [List.mem_singleton.1 hx]; exact hb
section
variable {hB:Heap} {q:Option Addr} {c:Nat} {l:List Bmp} {K:VK} {Kp:PK}
end
def Bmp.below (a b:Bmp):Prop:=a.h<b.h\/a.h=b.h/\a.w<b.w
def SortedTo (l:List Bmp) (n:Nat):Prop:=∀ i a b,i+1<n->l[i]? = some a->l[i+1]? = some b->¬ b.below a
open Classical in
section
variable {hB:Heap} {q1 q2 q3:Option Addr} {c1 c2 c3:Nat} {t:Int} {new imp:List Bmp} {ex:List Bool} {K:VK} {Kp:PK}
theorem SortedTo.step {l:List Bmp} {i:Nat} (h:SortedTo l (i+1)) (h2:∀ a b,l[i]? = some a->l[i+1]? = some b->¬ b.below a):SortedTo l (i+2):=fun j a b hj ha hb=>by
 by_cases hji:j+1<i+1
 ·exact h j a b hji ha hb
 ·obtain rfl:j=i:=by omega
  exact h2 a b ha hb
end
end Go.Bm
namespace Go.Bm
open Go Go.Den Go.Den.YtbknfejmdekhpaaGreat
open Go.Ar (getD)
section
variable {hB:Heap} {q1 q2 q3:Option Addr} {c1 c2 c3:Nat} {t:Int} {new imp:List Bmp} {ex:List Bool} {K:VK} {Kp:PK}
end
def sy (l:List Bmp) (i:Nat):Bmp:=l.getD i ⟨0,0,[]⟩
end Go.Bm
namespace Go.Bm
open Go Go.Den Go.Den.YtbknfejmdekhpaaGreat
open Go.Ar (codL)
section
variable {m t:Nat} {l:List Bmp} (hm:MayL l)
include hm
end
section
variable {h0 h:Heap} {FF:List Nat} {p q r m:Nat} {L:List (Nat × Nat)} {rest:List Value} {K:VK} {Kp:PK}
theorem wputL_ok (HC:Hp h0 FF h (codL p q r (cdL m L) rest)) (hL:L.length+64<=16777216) (hm1:1<=m) (hm2:m<=131072) {base v:Int} {none:Bool} (hf:0<=base/\base+(512:Nat)<=(m:Nat)) (hr:rightW v none) (hv:-9223372036854775808<=v/\v<9223372036854775808)
  (hk:∀ r' rest' h',Hp h0 FF h' (codL p q r' (cdL m (L++dsWh m base v none)) rest')->K (.int .i64 0) h'):CP F_whole_Put #[.pointer (at0 p), .int .i64 base, .agg #[.int .i64 v, .bool none]] h K Kp:=by
 refine wput_ok HC (cdL_ok (by omega)) hm1 hm2 hv hL (fun h' hn _=>absurd hf hn) (fun h' _ hn _=>absurd hr hn) fun r' rest' h' _ _ H=>?_
 rw [run_wh] at H
 exact hk r' rest' h' H
end
end Go.Bm
namespace Go.Bm
open Go Go.Den Go.Den.YtbknfejmdekhpaaGreat
end Go.Bm
namespace Go.Bm
open Go Go.Den Go.Den.YtbknfejmdekhpaaGreat
open Classical in
section
variable {hB:Heap} {q1 q2 q3:Option Addr} {c1 c2 c3:Nat} {t:Int} {new imp:List Bmp} {ex:List Bool} {K:VK} {Kp:PK}
end
end Go.Bm
namespace Go.Bm
open Go Go.Den Go.Den.YtbknfejmdekhpaaGreat
section
variable {hB:Heap} {q1 q2 q3:Option Addr} {c1 c2 c3:Nat} {t:Int} {new imp:List Bmp} {ex:List Bool} {K:VK} {Kp:PK}
end
end Go.Bm
namespace Go.Bm
open Go Go.Den Go.Den.YtbknfejmdekhpaaGreat
theorem appNil {h:Heap} {t:TypeId} {sz by_ m:Nat} {z:List Value} {src:Option Addr} {new:List Value} (hz:z.length=sz) (hs0:1<=sz) (hr:rdO h src (m*sz) new) (hm:new.length=m*sz) (hnew:∀ v∈new,v.oneCell'=true) (hby:m*by_<=140737488355328)
  {K:Option Addr->Nat->Nat->Heap->Prop} (hk:∀ D q' c' h',Slot t sz D q' m c' new->Hp h [] h' D->K q' m c' h'):appC h t sz by_ z none 0 0 src m K:=by
 rcases Nat.eq_zero_or_pos m with h1 | h1
 ·subst h1
  refine Slot.appN (A:=[]) (B:=[]) (D:=[]) (n:=0) (m:=0) (new:=new) (Slot.nil t sz) (Hp.nil h []) hz hs0 hr hm hnew (by rw [Nat.zero_add,Nat.zero_mul]; decide) fun D q' c' h' hs H=>?_
  rw [Nat.zero_add,List.nil_append] at hs
  rw [List.nil_append,List.append_nil] at H
  exact hk D q' c' h' hs H
 ·exact appC_newZ (Hp.nil h []) hz hr hm h1 hby fun b' rest' c' h' hl hc _ H=>hk [⟨b',true,t,new++rest'⟩] (some ⟨b',0,none⟩) c' h' (Slot.one hm hl) H
structure Own where
 b:Bmp
 q:Option Addr
 c:Nat
 D:List Ent
structure Own.Ok (o:Own):Prop where
 s:Slot T_uint64 1 o.D o.q o.b.ws.length o.c (u64s o.b.ws)
 w:W64 o.b.ws
 l:o.b.ws.length<140737488351300
def Own.cs (o:Own):List Value:=[.int .i64 o.b.w, .int .i64 o.b.h, .slice o.q o.b.ws.length o.c]
def csO (O:List Own):List Value:=O.flatMap Own.cs
def dsO (O:List Own):List Ent:=O.flatMap Own.D
theorem dsO_w {O:List Own} (h:∀ o∈O,o.Ok):(dsO O).all Ent.w=true:=List.all_eq_true.2 fun e he=>by
 obtain ⟨o,ho,he⟩:=List.mem_flatMap.1 he
 exact List.all_eq_true.1 (h o ho).s.w e he
def ListO (R:List Ent) (q:Option Addr) (c:Nat) (l:List Bmp):Prop:=∃ O E,(∀ o∈O,o.Ok)/\O.map Own.b=l/\Slot T_api_Bitmap 3 E q l.length c (csO O)/\R=dsO O++E
theorem ListO.w {R:List Ent} {q:Option Addr} {c:Nat} {l:List Bmp} (h:ListO R q c l):R.all Ent.w=true:=by
 obtain ⟨O,E,h1,h2,h3,rfl⟩:=h
 rw [List.all_append,dsO_w h1,h3.w]
 rfl
section
variable {h0 h:Heap} {F:List Nat} {L A R:List Ent} {q:Option Addr} {c:Nat} {l:List Bmp}
end
section
variable {hB:Heap} {K:VK} {Kp:PK}
theorem cpB_ok {q:Option Addr} {c:Nat} {b:Bmp} (hr:rdO hB q (b.ws.length*1) (u64s b.ws)) (hw:W64 b.ws) (hl:b.ws.length<=1000000000000) (hk:∀ (o:Own) h',o.Ok->o.b=b->Hp hB [] h' o.D->K (.agg #[.int .i64 b.w, .int .i64 b.h, .slice o.q b.ws.length o.c]) h') :
  CP F_burinref0_CopyBitmap #[.agg #[.int .i64 b.w, .int .i64 b.h, .slice q b.ws.length c]] hB K Kp:=by
 refine call_burinref0_CopyBitmap ?_
 unfold burinref0_CopyBitmap
 have H:=Hp.nil hB []
 refine newC_hp H fun r4 h H=>?_
 refine newC_hp H fun r6 h H=>?_
 have H:Hp hB [] h [⟨r4,true,T_api_Bitmap,[.int .i64 b.w, .int .i64 b.h, .slice q b.ws.length c]⟩,⟨r6,true,T_api_Bitmap,[.int .i64 0, .int .i64 0, .slice none 0 0]⟩]:=H
 refine ldI_of (hpA H 0 rfl rfl) (ldI_of (hpA H 0 rfl rfl) (ldS_of (hpA H 0 rfl rfl) ?_))
 refine appNil (sz:=1) (m:=b.ws.length) (new:=u64s b.ws) rfl (by decide) (H.rdO hr) (by rw [u64s_length,Nat.mul_one]) (u64s_cells _) (by omega) fun D q' c' h' hs H'=>?_
 refine ⟨H'.hext,?_⟩
 replace H:=H.join H' hs.w
 clear H'
 repeat first | with_reducible refine stA H 1 (by with_unfolding_all exact rfl) (by with_unfolding_all exact rfl) (by with_unfolding_all exact rfl) fun h H=>?_ | with_reducible refine st0 H 1 (by with_unfolding_all exact rfl) (by with_unfolding_all exact rfl) (by with_unfolding_all exact rfl) fun h H=>?_ | with_reducible refine stB H 1 (by with_unfolding_all exact rfl) (by with_unfolding_all exact rfl) (by with_unfolding_all exact rfl) fun h H=>?_
 have H:Hp hB [] h ([⟨r4,true,T_api_Bitmap,[.int .i64 b.w, .int .i64 b.h, .slice q b.ws.length c]⟩,⟨r6,true,T_api_Bitmap,[.int .i64 b.w, .int .i64 b.h, .slice q' b.ws.length c']⟩]++D):=H
 refine ldI_of (hpA H 1 rfl rfl) (ldI_of (hpA H 1 rfl rfl) (ldS_of (hpA H 1 rfl rfl) ?_))
 exact hk ⟨b,q',c',D⟩ h ⟨hs,hw,by show b.ws.length<_; omega⟩ rfl (Hp.suf H)
theorem cloneB_ok {q:Option Addr} {c:Nat} {b:Bmp} (hr:rdO hB q (b.ws.length*1) (u64s b.ws)) (hw:W64 b.ws) (hl:b.ws.length<=1000000000000) (hk:∀ (o:Own) h',o.Ok->o.b=b->Hp hB [] h' o.D->K (.slice o.q b.ws.length o.c) h') :
  CP F_slices_Clone_uint64_uint64 #[.slice q b.ws.length c] hB K Kp:=by
 refine call_slices_Clone_uint64_uint64 ?_
 unfold slices_Clone_uint64_uint64
 cases q with
 | none =>
  have h0:u64s b.ws=[]:=hr
  have h1:b.ws.length=0:=by rw [<- u64s_length,h0]; rfl
  refine bcase_true (by rfl) ?_
  have hk:=hk ⟨b,none,0,[]⟩ hB ⟨by show Slot T_uint64 1 [] none b.ws.length 0 (u64s b.ws); rw [h0,h1]; exact Slot.nil _ _,hw,by show b.ws.length<_; omega⟩ rfl (Hp.nil hB [])
  rw [h1] at hk
  exact hk
 | some a =>
  refine bcase_false (by rfl) ?_
  have H:=Hp.nil hB []
  refine newC_hp H fun r1 h H=>?_
  have hs0:Slot T_uint64 1 [⟨r1,true,T_uint64,[]++[]⟩] (some ⟨r1,0,none⟩) 0 0 []:=Slot.one rfl rfl
  have H:Hp hB [] h ([]++([⟨r1,true,T_uint64,[]++[]⟩]++[])):=H
  refine Slot.appN (m:=b.ws.length) (new:=u64s b.ws) hs0 H rfl (by decide) (H.rdO hr) (by rw [u64s_length,Nat.mul_one]) (u64s_cells _) (by omega) fun D q' c' h' hs H=>?_
  rw [Nat.zero_add,List.nil_append] at hs
  rw [Nat.zero_add]
  rw [List.nil_append,List.append_nil] at H
  exact hk ⟨b,q',c',D⟩ h' ⟨hs,hw,by show b.ws.length<_; omega⟩ rfl H
end
end Go.Bm
namespace Go.Bm
open Go Go.Den Go.Den.YtbknfejmdekhpaaGreat
structure Ins where
 x:Int
 y:Int
 s:Int
 d:Bool
 b:Bmp
structure OwI where
 i:Ins
 q:Option Addr
 c:Nat
 D:List Ent
def OwI.cs (o:OwI):List Value:=[.int .i64 o.i.x, .int .i64 o.i.y, .int .i64 o.i.s, .bool o.i.d, .int .i64 o.i.b.w, .int .i64 o.i.b.h, .slice o.q o.i.b.ws.length o.c]
abbrev OwI.ag (o:OwI):Value := .agg #[.int .i64 o.i.x, .int .i64 o.i.y, .int .i64 o.i.s, .bool o.i.d, .int .i64 o.i.b.w, .int .i64 o.i.b.h, .slice o.q o.i.b.ws.length o.c]
def csI (O:List OwI):List Value:=O.flatMap OwI.cs
theorem csI_cons (o:OwI) (O:List OwI):csI (o::O)=o.cs++csI O:=rfl
theorem csI_len (O:List OwI):(csI O).length=O.length*7:=by
 induction O with
 | nil=>rfl
 | cons o O ih =>
  rw [csI_cons,List.length_append,ih,List.length_cons,Nat.add_mul]
  have:o.cs.length=7:=rfl
  omega
theorem csI_app (A B:List OwI):csI (A++B)=csI A++csI B:=by
 unfold csI
 rw [List.flatMap_append]
theorem csI_cells (O:List OwI):∀ v∈csI O,v.oneCell'=true:=fun v hv=>by
 unfold csI at hv
 obtain ⟨o,_,hv⟩:=List.mem_flatMap.1 hv
 unfold OwI.cs at hv
 simp only [List.mem_cons,List.not_mem_nil,or_false] at hv
 rcases hv with rfl | rfl | rfl | rfl | rfl | rfl | rfl <;> rfl
theorem csI_get:∀ (O:List OwI) (rest:List Value) (i j:Nat) (o:OwI),O[i]? = some o->j<7->(csI O++rest)[i*7+j]? = o.cs[j]?
 | [],_,i,j,o,h,_=>by cases h
 | o'::O,rest,0,j,o,h,hj=>by
  injection h with h
  subst h
  rw [csI_cons,Nat.zero_mul,Nat.zero_add,List.append_assoc,List.getElem?_append_left (by exact hj)]
 | o'::O,rest,i+1,j,o,h,hj=>by
  have hl:o'.cs.length=7:=rfl
  rw [csI_cons,List.append_assoc,List.getElem?_append_right (by rw [hl]; omega),hl,show (i+1)*7+j-7=i*7+j by omega]
  exact csI_get O rest i j o h hj
theorem csI_setj (o':OwI) (L:List Value) (i j:Nat) (v:Value):(o'.cs++L).set ((i+1)*7+j) v=o'.cs++L.set (i*7+j) v:=by
 rw [show (i+1)*7+j=i*7+j+7 by omega]
 rfl
theorem csI_set:∀ (O:List OwI) (rest:List Value) (i:Nat) (o:OwI),i<O.length ->
  (((((((csI O++rest).set (i*7+0) (.int .i64 o.i.x)).set (i*7+1) (.int .i64 o.i.y)).set (i*7+2) (.int .i64 o.i.s)).set (i*7+3) (.bool o.i.d)).set (i*7+4) (.int .i64 o.i.b.w)).set (i*7+5) (.int .i64 o.i.b.h)).set (i*7+6) (.slice o.q o.i.b.ws.length o.c)=csI (O.set i o)++rest
 | [],_,i,o,h=>by cases h
 | o'::O,rest,0,o,h=>by rfl
 | o'::O,rest,i+1,o,h=>by
  rw [csI_cons,List.append_assoc,csI_setj,csI_setj,csI_setj,csI_setj,csI_setj,csI_setj,csI_setj,csI_set O rest i o (Nat.lt_of_succ_lt_succ h)]
  rfl
section
variable {h0 h:Heap} {F:List Nat} {B:List Ent} {b:Nat} {O:List OwI} {rest:List Value}
theorem ld7 (H:Hp h0 F h (⟨b,true,T_api_Instance,csI O++rest⟩::B)) {i:Nat} {o:OwI} (ho:O[i]? = some o) {K:Int->Int->Int->Bool->Int->Int->Option Addr->Nat->Nat->Prop}
  (hk:K o.i.x o.i.y o.i.s o.i.d o.i.b.w o.i.b.h o.q o.i.b.ws.length o.c) :
  ldI h (((⟨b,0,none⟩:Addr).add (((i:Nat):Int).toNat*7)).add 0) .i64 fun x1 =>
  ldI h (((⟨b,0,none⟩:Addr).add (((i:Nat):Int).toNat*7)).add 1) .i64 fun x2 =>
  ldI h (((⟨b,0,none⟩:Addr).add (((i:Nat):Int).toNat*7)).add 2) .i64 fun x3 =>
  ldB h (((⟨b,0,none⟩:Addr).add (((i:Nat):Int).toNat*7)).add 3) fun x4 =>
  ldI h (((⟨b,0,none⟩:Addr).add (((i:Nat):Int).toNat*7)).add 4) .i64 fun x5 =>
  ldI h (((⟨b,0,none⟩:Addr).add (((i:Nat):Int).toNat*7)).add 5) .i64 fun x6 =>
  ldS h (((⟨b,0,none⟩:Addr).add (((i:Nat):Int).toNat*7)).add 6) fun q n c=>K x1 x2 x3 x4 x5 x6 q n c:=by
 have cell:∀ j v,j<7->o.cs[j]? = some v->hcell h (((⟨b,0,none⟩:Addr).add (((i:Nat):Int).toNat*7)).add j)=some v:=fun j v hj hv=>by
  rw [Int.toNat_natCast,add_mk,add_mk,Nat.zero_add]
  exact H.cell 0 rfl ((csI_get O rest i j o ho hj).trans hv)
 exact ldI_of (cell 0 _ (by decide) rfl) (ldI_of (cell 1 _ (by decide) rfl) (ldI_of (cell 2 _ (by decide) rfl) (ldB_of (cell 3 _ (by decide) rfl) (ldI_of (cell 4 _ (by decide) rfl) (ldI_of (cell 5 _ (by decide) rfl) (ldS_of (cell 6 _ (by decide) rfl) hk))))))
theorem st7 (H:Hp h0 F h (⟨b,true,T_api_Instance,csI O++rest⟩::B)) {i:Nat} (o:OwI) (hi:i<O.length) {K:Heap->Prop}
  (hk:∀ h',Hp h0 F h' (⟨b,true,T_api_Instance,csI (O.set i o)++rest⟩::B)->K h') :
  stV h (((⟨b,0,none⟩:Addr).add (((i:Nat):Int).toNat*7)).add 0) (.int .i64 o.i.x) fun h1 =>
  stV h1 (((⟨b,0,none⟩:Addr).add (((i:Nat):Int).toNat*7)).add 1) (.int .i64 o.i.y) fun h2 =>
  stV h2 (((⟨b,0,none⟩:Addr).add (((i:Nat):Int).toNat*7)).add 2) (.int .i64 o.i.s) fun h3 =>
  stV h3 (((⟨b,0,none⟩:Addr).add (((i:Nat):Int).toNat*7)).add 3) (.bool o.i.d) fun h4 =>
  stV h4 (((⟨b,0,none⟩:Addr).add (((i:Nat):Int).toNat*7)).add 4) (.int .i64 o.i.b.w) fun h5 =>
  stV h5 (((⟨b,0,none⟩:Addr).add (((i:Nat):Int).toNat*7)).add 5) (.int .i64 o.i.b.h) fun h6 =>
  stV h6 (((⟨b,0,none⟩:Addr).add (((i:Nat):Int).toNat*7)).add 6) (.slice o.q o.i.b.ws.length o.c) fun h7=>K h7:=by
 have hl:(csI O++rest).length=O.length*7+rest.length:=by rw [List.length_append,csI_len]
 rw [Int.toNat_natCast]
 simp only [add_mk,Nat.zero_add]
 refine stV_hp H 0 rfl (by rw [hl]; omega) rfl fun h _ H=>?_
 refine stV_hp H 0 rfl (by rw [List.length_set,hl]; omega) rfl fun h _ H=>?_
 refine stV_hp H 0 rfl (by rw [List.length_set,List.length_set,hl]; omega) rfl fun h _ H=>?_
 refine stV_hp H 0 rfl (by rw [List.length_set,List.length_set,List.length_set,hl]; omega) rfl fun h _ H=>?_
 refine stV_hp H 0 rfl (by rw [List.length_set,List.length_set,List.length_set,List.length_set,hl]; omega) rfl fun h _ H=>?_
 refine stV_hp H 0 rfl (by rw [List.length_set,List.length_set,List.length_set,List.length_set,List.length_set,hl]; omega) rfl fun h _ H=>?_
 refine stV_hp H 0 rfl (by rw [List.length_set,List.length_set,List.length_set,List.length_set,List.length_set,List.length_set,hl]; omega) rfl fun h _ H=>?_
 refine hk h ?_
 rw [<- csI_set O rest i o hi]
 exact H
end
theorem set_at {α:Type} (P S:List α) (a b:α):(P++a::S).set P.length b=P++b::S:=by
 rw [List.set_append_right _ _ (Nat.le_refl _),Nat.sub_self]
 rfl
theorem get_at {α:Type} (P S:List α) (a:α):(P++a::S)[P.length]? = some a:=by
 rw [List.getElem?_append_right (Nat.le_refl _),Nat.sub_self]
 rfl
end Go.Bm
namespace Go.Bm
open Go Go.Den Go.Den.YtbknfejmdekhpaaGreat
section
variable {h0:Heap} {F:List Nat} {B:List Ent} {b:Nat} {rest:List Value} {cmp:Value} {K:VK} {Kp:PK}
abbrev IRow (b:Nat) (O:List OwI) (rest:List Value):Ent:=⟨b,true,T_api_Instance,csI O++rest⟩
theorem swapRange_ok {h:Heap} {P X G Y S:List OwI} {n c:Nat} (hn:n=(P++X++G++Y++S).length) (hb:n<=1000000) (hXY:X.length=Y.length) {p1 p2 p3:Nat} (e1:p1=P.length) (e2:p2=P.length+X.length+G.length) (e3:p3=X.length) (H:Hp h0 F h (IRow b (P++X++G++Y++S) rest::B))
  (hk:∀ h',Hp h0 F h' (IRow b (P++Y++G++X++S) rest::B)->K (.tuple #[]) h') :
  CP F_slices_swapRangeCmpFunc_api_Instance #[.slice (some ⟨b,0,none⟩) n c, .int .i64 (p1:Nat), .int .i64 (p2:Nat), .int .i64 (p3:Nat),cmp] h K Kp:=by
 subst e1 e2 e3
 refine call_slices_swapRangeCmpFunc_api_Instance ?_
 unfold slices_swapRangeCmpFunc_api_Instance
 have hn':n=P.length+X.length+G.length+Y.length+S.length:=by rw [hn]; simp only [List.length_append]
 refine ⟨fun m vs h'=>∃ X1 X2 Y1 Y2,X=X1++X2/\Y=Y1++Y2/\X1.length=Y1.length/\X2.length=m/\vs=[.int .i64 (X1.length:Nat)]/\Hp h0 F h' (IRow b (P++(Y1++X2)++G++(X1++Y2)++S) rest::B),⟨X.length,[],X,[],Y,rfl,rfl,rfl,rfl,rfl,H⟩,?_⟩
 rintro m h u xi ⟨X1,X2,Y1,Y2,rfl,rfl,h1,h2,hxx,H⟩
 injection hxx with hx1 hxx
 injection hx1 with _ hx1
 subst xi
 simp only [List.length_append] at hn' hXY ⊢
 refine bcase_dec (fun hlt=>?_) fun hlt=>?_
 ·obtain ⟨x,X3,rfl⟩:∃ x X3,X2=x::X3:=by
   cases X2 with
   | nil=>simp at hlt
   | cons x X3=>exact ⟨x,X3,rfl⟩
  obtain ⟨y,Y3,rfl⟩:∃ y Y3,Y2=y::Y3:=by
   cases Y2 with
   | nil=>simp only [List.length_cons,List.length_nil] at hXY; omega
   | cons y Y3=>exact ⟨y,Y3,rfl⟩
  simp only [List.length_cons] at hn' hXY h2 ⊢
  have eA:P++(Y1++x::X3)++G++(X1++y::Y3)++S=(P++Y1)++x::(X3++G++X1++y::Y3++S):=by simp only [List.append_assoc,List.cons_append]
  have eB:P++(Y1++x::X3)++G++(X1++y::Y3)++S=(P++Y1++x::X3++G++X1)++y::(Y3++S):=by simp only [List.append_assoc,List.cons_append]
  have eC:(P++Y1)++y::(X3++G++X1++y::Y3++S)=(P++Y1++y::X3++G++X1)++y::(Y3++S):=by simp only [List.append_assoc,List.cons_append]
  have eD:(P++Y1++y::X3++G++X1)++x::(Y3++S)=P++((Y1++[y])++X3)++G++((X1++[x])++Y3)++S:=by simp only [List.append_assoc,List.cons_append,List.nil_append]
  have lA:(P++Y1).length=P.length+X1.length:=by rw [List.length_append]; omega
  have lB:(P++Y1++x::X3++G++X1).length=P.length+(X1.length+(X3.length+1))+G.length+X1.length:=by simp only [List.length_append,List.length_cons]; omega
  have lC:(P++Y1++y::X3++G++X1).length=P.length+(X1.length+(X3.length+1))+G.length+X1.length:=by simp only [List.length_append,List.length_cons]; omega
  refine bindI_of ((P.length+X1.length:Nat):Int) (by exact i64_at _ _ (by omega) (by omega) (by omega)) ?_
  refine bindI_of ((P.length+(X1.length+(X3.length+1))+G.length+X1.length:Nat):Int) (by exact i64_at _ _ (by omega) (by omega) (by omega)) ?_
  refine bindI_of ((P.length+(X1.length+(X3.length+1))+G.length+X1.length:Nat):Int) (by exact i64_at _ _ (by omega) (by omega) (by omega)) ?_
  refine needs_of (by omega) (ptr_of (a:=⟨b,0,none⟩) ?_)
  refine bindI_of ((P.length+X1.length:Nat):Int) (by exact i64_at _ _ (by omega) (by omega) (by omega)) ?_
  refine needs_of (by omega) (ptr_of (a:=⟨b,0,none⟩) ?_)
  refine ld7 H (by rw [eB,<- lB]; exact get_at _ _ _) ?_
  refine ld7 H (by rw [eA,<- lA]; exact get_at _ _ _) ?_
  refine needs_of (by omega) (ptr_of (a:=⟨b,0,none⟩) ?_)
  rw [eA] at H
  refine st7 H y (by rw [<- lA]; simp only [List.length_append,List.length_cons]; omega) fun h H=>?_
  refine needs_of (by omega) (ptr_of (a:=⟨b,0,none⟩) ?_)
  rw [<- lA,set_at,eC] at H
  refine st7 H x (by rw [<- lC]; simp only [List.length_append,List.length_cons]; omega) fun h H=>?_
  rw [<- lC,set_at,eD] at H
  refine bindI_of ((X1.length+1:Nat):Int) (by exact i64_at _ _ (by omega) (by omega) (by omega)) ?_
  exact ⟨m-1,by omega,X1++[x],X3,Y1++[y],Y3,by simp only [List.append_assoc,List.cons_append,List.nil_append],by simp only [List.append_assoc,List.cons_append,List.nil_append],by simp only [List.length_append,h1,List.length_cons,List.length_nil],by omega,by rw [List.length_append]; rfl,H⟩
 ·obtain rfl:X2=[]:=List.eq_nil_of_length_eq_zero (by omega)
  obtain rfl:Y2=[]:=List.eq_nil_of_length_eq_zero (by simp only [List.length_nil] at hXY; omega)
  refine hk h ?_
  simp only [List.append_nil] at H ⊢
  exact H
theorem rotate_ok {h:Heap} {P X Y S:List OwI} {n c:Nat} (hn:n=(P++X++Y++S).length) (hb:n<=1000000) (hX:0<X.length) (hY:0<Y.length) {p1 p2 p3:Nat} (e1:p1=P.length) (e2:p2=P.length+X.length) (e3:p3=P.length+X.length+Y.length) (H:Hp h0 F h (IRow b (P++X++Y++S) rest::B))
  (hk:∀ h',Hp h0 F h' (IRow b (P++Y++X++S) rest::B)->K (.tuple #[]) h') :
  CP F_slices_rotateCmpFunc_api_Instance #[.slice (some ⟨b,0,none⟩) n c, .int .i64 (p1:Nat), .int .i64 (p2:Nat), .int .i64 (p3:Nat),cmp] h K Kp:=by
 subst e1 e2 e3
 refine call_slices_rotateCmpFunc_api_Instance ?_
 unfold slices_rotateCmpFunc_api_Instance
 have hn':n=P.length+X.length+Y.length+S.length:=by rw [hn]; simp only [List.length_append]
 refine bindI_of ((X.length:Nat):Int) (by exact i64_at _ _ (by omega) (by omega) (by omega)) ?_
 refine bindI_of ((Y.length:Nat):Int) (by exact i64_at _ _ (by omega) (by omega) (by omega)) ?_
 obtain ⟨mm,hmm⟩:∃ mm,mm=P.length+X.length:=⟨_,rfl⟩
 rw [<- hmm]
 obtain ⟨Z,hZ⟩:∃ Z,Z=P++Y++X++S:=⟨_,rfl⟩
 rw [<- hZ] at hk
 refine ⟨fun m vs h'=>∃ P' X' Y' S',P'.length+X'.length=mm/\0<X'.length/\0<Y'.length/\Z=P'++Y'++X'++S'/\n=(P'++X'++Y'++S').length/\X'.length+Y'.length=m/\vs=[.int .i64 (X'.length:Nat), .int .i64 (Y'.length:Nat)]/\Hp h0 F h' (IRow b (P'++X'++Y'++S') rest::B),⟨_,P,X,Y,S,hmm.symm,hX,hY,hZ,hn,rfl,rfl,H⟩,?_⟩
 rintro m h u xi xj ⟨P',X',Y',S',h1,h2,h3,h4,h5,h6,hxx,H⟩
 injection hxx with hx1 hxx
 injection hxx with hx2 hxx
 injection hx1 with _ hx1
 injection hx2 with _ hx2
 subst xi xj
 have h5':n=P'.length+X'.length+Y'.length+S'.length:=by rw [h5]; simp only [List.length_append]
 rcases Nat.lt_trichotomy X'.length Y'.length with hlt | heq | hgt
 ·refine bcase_true (by simp; omega) (bcase_false (by simp; omega) ?_)
  refine bindI_of ((P'.length:Nat):Int) (by exact i64_at _ _ (by omega) (by omega) (by omega)) ?_
  refine bindI_of ((mm+Y'.length:Nat):Int) (by exact i64_at _ _ (by omega) (by omega) (by omega)) ?_
  obtain ⟨Ya,Yb,rfl,hyb⟩:∃ Ya Yb,Y'=Ya++Yb/\Yb.length=X'.length:=⟨Y'.take (Y'.length-X'.length),Y'.drop (Y'.length-X'.length),(List.take_append_drop _ _).symm,by rw [List.length_drop]; omega⟩
  rw [List.length_append] at h3 h6 h5' hlt ⊢
  refine bindI_of ((P'.length+X'.length+Ya.length:Nat):Int) (by exact i64_at _ _ (by omega) (by omega) (by omega)) ?_
  have H:Hp h0 F h (IRow b (P'++X'++Ya++Yb++S') rest::B):=by simpa only [List.append_assoc] using H
  refine swapRange_ok (by simp only [List.length_append]; omega) hb hyb.symm rfl rfl rfl H fun h H=>?_
  refine bindI_of ((Ya.length:Nat):Int) (by exact i64_at _ _ (by omega) (by omega) (by omega)) ?_
  refine ⟨m-X'.length,by omega,P',Yb,Ya,X'++S',by omega,by omega,by omega,by rw [h4]; simp only [List.append_assoc],by simp only [List.length_append]; omega,by omega,by rw [hyb],?_⟩
  simpa only [List.append_assoc] using H
 ·refine bcase_false (by simp; omega) ?_
  refine bindI_of ((P'.length:Nat):Int) (by exact i64_at _ _ (by omega) (by omega) (by omega)) ?_
  have H:Hp h0 F h (IRow b (P'++X'++[]++Y'++S') rest::B):=by simpa only [List.append_nil] using H
  exact swapRange_ok (by rw [List.append_nil]; exact h5) hb heq rfl (by rw [List.length_nil,Nat.add_zero,h1]) rfl H fun h H=>hk h (by rw [h4]; simpa only [List.append_nil] using H)
 ·refine bcase_true (by simp; omega) (bcase_true (by simp; omega) ?_)
  refine bindI_of ((P'.length:Nat):Int) (by exact i64_at _ _ (by omega) (by omega) (by omega)) ?_
  obtain ⟨Xa,Xb,rfl,hxa⟩:∃ Xa Xb,X'=Xa++Xb/\Xa.length=Y'.length:=⟨X'.take Y'.length,X'.drop Y'.length,(List.take_append_drop _ _).symm,by rw [List.length_take]; omega⟩
  rw [List.length_append] at h1 h2 h6 h5' hgt ⊢
  have H:Hp h0 F h (IRow b (P'++Xa++Xb++Y'++S') rest::B):=by simpa only [List.append_assoc] using H
  refine swapRange_ok (by simp only [List.length_append]; omega) hb hxa rfl (by omega) hxa.symm H fun h H=>?_
  refine bindI_of ((Xb.length:Nat):Int) (by exact i64_at _ _ (by omega) (by omega) (by omega)) ?_
  exact ⟨m-Y'.length,by omega,P'++Y',Xb,Xa,S',by rw [List.length_append]; omega,by omega,by omega,by rw [h4]; simp only [List.append_assoc],by simp only [List.length_append]; omega,by omega,by rw [hxa],H⟩
end
end Go.Bm
namespace Go.Bm
open Go Go.Den Go.Den.YtbknfejmdekhpaaGreat
def CmpOk (h0:Heap) (F:List Nat) (B:List Ent) (b:Nat) (rest:List Value) (key:OwI->Key) (cmp:Value) (Kp:PK):Prop :=
 ∀ h O,Hp h0 F h (IRow b O rest::B)->∀ (o o':OwI) (K:VK),(∀ (r:Int) h',(r<0↔(key o).lt (key o'))->hext h h'->K (.int .i64 r) h')->callD (CallsHP Go.Proofs.Tryz.prog) Kp cmp [o.ag,o'.ag] h K
theorem snoc_of {α:Type} {l:List α} (h:0<l.length):∃ a x,l=a++[x]:=by
 rcases List.eq_nil_or_concat l with h1 | ⟨a,x,h1⟩
 ·rw [h1] at h; simp at h
 ·exact ⟨a,x,by rw [h1,List.concat_eq_append]⟩
section
variable {h0:Heap} {F:List Nat} {B:List Ent} {b:Nat} {rest:List Value} {cmp:Value} {key:OwI->Key} {K:VK} {Kp:PK}
theorem insSort_ok {h:Heap} {P M S:List OwI} {n c:Nat} (hc:CmpOk h0 F B b rest key cmp Kp) (hn:n=(P++M++S).length) (hb:n<=1000000) {p1 p2:Nat} (e1:p1=P.length) (e2:p2=P.length+M.length) (H:Hp h0 F h (IRow b (P++M++S) rest::B))
  (hk:∀ M' h',Sw key M M'->Srt key M'->Hp h0 F h' (IRow b (P++M'++S) rest::B)->K (.tuple #[]) h') :
  CP F_slices_insertionSortCmpFunc_api_Instance #[.slice (some ⟨b,0,none⟩) n c, .int .i64 (p1:Nat), .int .i64 (p2:Nat),cmp] h K Kp:=by
 subst e1 e2
 refine call_slices_insertionSortCmpFunc_api_Instance ?_
 unfold slices_insertionSortCmpFunc_api_Instance
 have hn':n=P.length+M.length+S.length:=by rw [hn]; simp only [List.length_append]
 refine bindI_of ((P.length+1:Nat):Int) (by exact i64_at _ _ (by omega) (by omega) (by omega)) ?_
 refine ⟨fun m vs h'=>∃ (A R:List OwI) (i:Nat),Sw key M (A++R)/\Srt key A/\A.length=min (i-P.length) M.length/\P.length<i/\i<=P.length+M.length+1/\i+m=P.length+M.length+1/\vs=[.int .i64 (i:Nat)]/\Hp h0 F h' (IRow b (P++(A++R)++S) rest::B),
  ⟨M.length,M.take 1,M.drop 1,P.length+1,by rw [List.take_append_drop]; exact .refl _,?_,by rw [List.length_take]; omega,by omega,by omega,by omega,rfl,by rw [List.take_append_drop]; exact H⟩,?_⟩
 ·cases M with
  | nil=>exact List.Pairwise.nil
  | cons x M=>exact List.pairwise_singleton _ _
 rintro m h u xi ⟨A,R,i,hsw,hA,hl,hi,hi2,hm,hxx,H⟩
 injection hxx with hx1 hxx
 injection hx1 with _ hx1
 subst xi
 have hlen:=hsw.length
 rw [List.length_append] at hlen
 refine bcase_dec (fun hlt=>?_) fun hlt=>?_
 ·obtain ⟨x,R',rfl⟩:∃ x R',R=x::R':=by
   cases R with
   | nil=>rw [List.length_nil] at hlen; omega
   | cons x R'=>exact ⟨x,R',rfl⟩
  rw [List.length_cons] at hlen
  have hAl:A.length=i-P.length:=by omega
  refine ⟨fun m' vs h'=>∃ (A1 A2:List OwI),Sw key M ((A1++x::A2)++R')/\Srt key (A1++A2)/\(∀ y∈A2,(key x).lt (key y))/\A1.length+A2.length=A.length/\A1.length=m'/\vs=[.int .i64 ((P.length+A1.length:Nat):Int)]/\Hp h0 F h' (IRow b (P++((A1++x::A2)++R')++S) rest::B),
   ⟨A.length,A,[],by simpa only [List.append_assoc,List.cons_append,List.nil_append] using hsw,by rw [List.append_nil]; exact hA,(fun y hy=>by cases hy),by simp,rfl,by rw [show P.length+A.length=i by omega],by simpa only [List.append_assoc,List.cons_append,List.nil_append] using H⟩,?_⟩
  clear hsw H hA
  rintro m' h u xj ⟨A1,A2,hsw,hA,hx,hAA,hm',hxx,H⟩
  injection hxx with hx1 hxx
  injection hx1 with _ hx1
  subst xj
  have next:Srt key (A1++x::A2)->∀ h',hext h h'->bindI (IntKind.i64.wrap ((i:Int)+1)) fun z_70=>∃ m_3,m_3<m/\∃ (A R:List OwI) (i:Nat),Sw key M (A++R)/\Srt key A/\A.length=min (i-P.length) M.length/\P.length<i/\i<=P.length+M.length+1/\i+m_3=P.length+M.length+1/\[Value.int .i64 z_70]=[.int .i64 (i:Nat)]/\Hp h0 F h' (IRow b (P++(A++R)++S) rest::B):=fun hs h' e=>by
   refine bindI_of ((i+1:Nat):Int) (by exact i64_at _ _ (by omega) (by omega) (by omega)) ?_
   exact ⟨m-1,by omega,A1++x::A2,R',i+1,hsw,hs,by rw [List.length_append,List.length_cons]; omega,by omega,by omega,by omega,rfl,H.ext e⟩
  have hxs:Srt key (x::A2):=List.pairwise_cons.2 ⟨fun y hy=>fun hh=>Key.lt_irrefl _ (Key.lt_trans hh (hx y hy)),hA.right⟩
  refine bcase_dec (fun h1=>?_) fun h1=>?_
  ·obtain ⟨A3,y,rfl⟩:=snoc_of (l:=A1) (by omega)
   rw [List.length_append,List.length_cons,List.length_nil] at hm' hAA ⊢
   have eA:P++((A3++[y])++x::A2++R')++S=(P++A3)++y::(x::A2++R'++S):=by simp only [List.append_assoc,List.cons_append,List.nil_append]
   have eB:P++((A3++[y])++x::A2++R')++S=(P++A3++[y])++x::(A2++R'++S):=by simp only [List.append_assoc,List.cons_append,List.nil_append]
   have eC:(P++A3++[y])++y::(A2++R'++S)=(P++A3)++y::(y::A2++R'++S):=by simp only [List.append_assoc,List.cons_append,List.nil_append]
   have eD:(P++A3)++x::(y::A2++R'++S)=P++((A3++x::(y::A2))++R')++S:=by simp only [List.append_assoc,List.cons_append,List.nil_append]
   have lA:(P++A3).length=P.length+A3.length:=by rw [List.length_append]
   have lB:(P++A3++[y]).length=P.length+(A3.length+(0+1)):=by simp only [List.length_append,List.length_cons,List.length_nil]; omega
   refine needs_of (by omega) (ptr_of (a:=⟨b,0,none⟩) ?_)
   refine bindI_of ((P.length+A3.length:Nat):Int) (by exact i64_at _ _ (by omega) (by omega) (by omega)) ?_
   refine needs_of (by omega) (ptr_of (a:=⟨b,0,none⟩) ?_)
   refine ld7 H (o:=x) (by rw [eB,<- lB]; exact get_at _ _ _) ?_
   refine ld7 H (o:=y) (by rw [eA,<- lA]; exact get_at _ _ _) ?_
   refine hc h _ H x y _ fun r h' hr e=>⟨_,rfl,?_⟩
   refine bcase_dec (fun hr0=>?_) fun hr0=>?_
   ·have hxy:=hr.1 hr0
    replace H:=H.ext e
    refine bindI_of ((P.length+A3.length:Nat):Int) (by exact i64_at _ _ (by omega) (by omega) (by omega)) ?_
    refine bindI_of ((P.length+A3.length:Nat):Int) (by exact i64_at _ _ (by omega) (by omega) (by omega)) ?_
    refine needs_of (by omega) (ptr_of (a:=⟨b,0,none⟩) ?_)
    refine needs_of (by omega) (ptr_of (a:=⟨b,0,none⟩) ?_)
    refine ld7 H (o:=y) (by rw [eA,<- lA]; exact get_at _ _ _) ?_
    refine ld7 H (o:=x) (by rw [eB,<- lB]; exact get_at _ _ _) ?_
    refine needs_of (by omega) (ptr_of (a:=⟨b,0,none⟩) ?_)
    rw [eB] at H
    refine st7 H y (by rw [<- lB]; simp only [List.length_append,List.length_cons]; omega) fun h H=>?_
    refine needs_of (by omega) (ptr_of (a:=⟨b,0,none⟩) ?_)
    rw [<- lB,set_at,eC] at H
    refine st7 H x (by rw [<- lA]; simp only [List.length_append,List.length_cons]; omega) fun h H=>?_
    rw [<- lA,set_at,eD] at H
    refine bindI_of ((P.length+A3.length:Nat):Int) (by exact i64_at _ _ (by omega) (by omega) (by omega)) ?_
    refine ⟨m'-1,by omega,A3,y::A2,?_,by simpa only [List.append_assoc,List.cons_append,List.nil_append] using hA,?_,by rw [List.length_cons]; omega,by omega,rfl,H⟩
    ·refine .trans hsw ?_
     have:=Sw.swap (key:=key) A3 (A2++R') y x (fun hh=>by rw [hh] at hxy; exact Key.lt_irrefl _ hxy)
     simpa only [List.append_assoc,List.cons_append,List.nil_append] using this
    ·intro z hz
     rcases List.mem_cons.1 hz with rfl | hz
     ·exact hxy
     ·exact hx z hz
   ·have hxy:¬ (key x).lt (key y):=fun hh=>hr0 (hr.2 hh)
    refine next (Srt.append hA.left hxs fun a ha z hz=>?_) h' e
    have hay:¬ (key y).lt (key a):=by
     rcases List.mem_append.1 ha with h1 | h1
     ·exact hA.left.cross a h1 y (List.mem_singleton.2 rfl)
     ·rw [List.mem_singleton.1 h1]; exact Key.lt_irrefl _
    rcases List.mem_cons.1 hz with rfl | hz
    ·exact Key.le_trans hay hxy
    ·exact hA.cross a ha z hz
  ·obtain rfl:A1=[]:=List.eq_nil_of_length_eq_zero (by omega)
   exact next hxs h (hext.refl _)
 ·obtain rfl:R=[]:=List.eq_nil_of_length_eq_zero (by omega)
  rw [List.append_nil] at hsw H
  exact hk A h hsw hA H
end
end Go.Bm
