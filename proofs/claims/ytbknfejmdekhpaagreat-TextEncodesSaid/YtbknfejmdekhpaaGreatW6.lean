/- W6: put together by wip/tools/bundle.py: RnA RnB RnC Mwhole Bwhole WhA WhB WhC WhD WhE Mburinref5 Bburinref5 WhF WhG WhH WhI WhJ WhK WhL WhM WhN WhO WhP WhQ WhR WhT WhU WhX WhY DcA DcB DcC DcD. -/
import Derived.Test.YtbknfejmdekhpaaGreatW1
import Derived.Test.YtbknfejmdekhpaaGreatW2
import Derived.Test.YtbknfejmdekhpaaGreatW3
import Derived.Test.YtbknfejmdekhpaaGreatW4
import Derived.Test.YtbknfejmdekhpaaGreatW5
import Derived.OrdersHeld
import Derived.OrdersIn
import Derived.TacticsIn
import Derived.RangeFuncSeq
import Derived.RangeFuncLeaves
import Derived.Test.YtbknfejmdekhpaaGreatProg
set_option linter.unusedVariables false
set_option linter.unusedSimpArgs false
set_option maxRecDepth 100000
namespace Go.Den
abbrev YP:=Nat->List Value->Heap->(VK)->Prop
def nO (P:Program):YP:=fun l args h K=>∀ w:World,w.heap=h->YieldAt Fence.wide 0 P l args.toArray w fun e w'=>keeps w w'/\∃ v,e = .returned v/\K v w'.heap
def yieldOf:Value->Option Nat
 | .func (.yield l) f c=>(match f.toList,c.toList with
  | [],[]=>some l
  | _,_=>none)
 | _=>none
theorem HY {v:Value} {l:Nat} (h:yieldOf v=some l):v = .func (.yield l) #[] #[]:=by
 unfold yieldOf at h
 split at h
 ·rename_i l' f c
  split at h
  ·rename_i hf hc
   obtain rfl:=ig h
   have e1:f=#[]:=by apply Array.toList_inj.1; rw [hf]
   have e2:c=#[]:=by apply Array.toList_inj.1; rw [hc]
   rw [e1,e2]
  ·cases h
 ·cases h
def qO (P:Program):List Field->List Value->List Value->(Bool->Prop)->Prop
 | [],_,_,K=>K true
 | f::fs,cs,ds,K=>match f.name != "_",P.underlying f.type,cs[f.offset]?,ds[f.offset]? with
  | true,some (.int _),some (.int k x),some (.int k' y)=>fW (k=k') (qO P fs cs ds fun r=>K ((x == y) && r))
  | true,some .bool,some (.bool x),some (.bool y)=>qO P fs cs ds fun r=>K ((x == y) && r)
  | _,_,_,_=>False
def Dj (P:Program) (op:BinOp) (t:TypeId) (cs ds:List Value) (K:Value->Prop):Prop:=match op,P.underlying t,P.eqGuardType P.depth t,P.stoodInHeld t with
 | .eql,some (.struct fs),false,false=>qO P fs.toList cs ds fun r=>K (.bool r)
 | .neq,some (.struct fs),false,false=>qO P fs.toList cs ds fun r=>K (.bool (!r))
 | _,_,_,_=>False
section
variable {P:Program} {qt:Bool}
theorem Cj {t:TypeId} {d:TypeDesc} {cs:Array Value} {off:Nat} {v:Value} {h:Heap} {K:VK} (hu:P.underlying t=some d) (hd:tA P t=false) (hv:cs.toList[off]? = some v) (H:K v h):wpS P qt (part t cs off) h K:=by
 unfold part
 rw [fQ,zy t hu,hd]
 simp only [j9,if_false]
 have:cs[off]? = some v:=by simpa using hv
 simp only [this]
 exact H
theorem J8 {t:TypeId} {k0:IntKind} (hu:P.underlying t=some (.int k0)) (k:IntKind) (a b:Int) (h:Heap) (K:Bool->Heap->Prop) (d:Nat):wpS P qt (Op.equalIn (d+1) t (.int k a) (.int k b)) h K=K (a == b) h:=by
 unfold Op.equalIn
 rw [fQ,gG hu]
 simp [ie]
theorem sQ {p:Prop} {cs ds:List Value}:∀ {fs:List Field},qO P fs cs ds (fun _=>p)->p
 | [],H=>H
 | f::fs,H=>by
  unfold qO at H
  split at H
  ·exact sQ (jt.1 H).2
  ·exact sQ H
  ·exact H.elim
def Lg (d:Nat) (xs ys:Array Value) (f:Field):Sem (ForInStep (Option Bool × Unit)):=do
 if f.name≠"_" then
  if !(<- Op.equalIn (d+1) f.type (<- part f.type xs f.offset) (<- part f.type ys f.offset)) then pure (ForInStep.done (some false,())) else pure (ForInStep.yield (none,()))
 else pure (ForInStep.yield (none,()))
theorem HF {d : Nat} {xs ys : Array Value} {f : Field} {v w : Value} {r : Bool} {dd : TypeDesc} {h : Heap} {K : ForInStep (Option Bool × Unit) → Heap → Prop} (hn : f.name ≠ "_") (hu : P.underlying f.type = some dd) (ha : tA P f.type = false)
  (hv:xs.toList[f.offset]? = some v) (hw:ys.toList[f.offset]? = some w) (he:∀ K':Bool->Heap->Prop,wpS P qt (Op.equalIn (d+1) f.type v w) h K'=K' r h) (h1:r=true->K (.yield (none,())) h) (h2:r=false->K (.done (some false,())) h):wpS P qt (Lg d xs ys f) h K:=by
 unfold Lg
 rw [if_pos hn,fQ]
 refine Cj hu ha hv ?_
 rw [fQ]
 refine Cj hu ha hw ?_
 rw [fQ,he]
 cases r with
 | true=>exact h1 rfl
 | false=>exact h2 rfl
theorem Qz {d:Nat} {xs ys:Array Value} {h:Heap}:∀ {fs:List Field} {K:Bool->Prop},qO P fs xs.toList ys.toList K ->
  wpS P qt (forIn fs ((none,()):Option Bool × Unit) fun f _=>Lg d xs ys f) h (fun r h'=>h'=h/\((r.1=none/\K true)\/(r.1=some false/\K false))):=by
 intro fs
 induction fs with
 | nil=>intro K H; rw [List.forIn_nil]; exact ⟨rfl, .inl ⟨rfl,H⟩⟩
 | cons f fs ih =>
  intro K H
  rw [List.forIn_cons,fQ]
  unfold qO at H
  split at H
  ·rename_i k0 k x k' y hn hu hv hw
   obtain ⟨hk,H2⟩:=jt.1 H
   subst hk
   exact HF (by simpa using hn) hu (by unfold tA; rw [hu]) hv hw (fun K'=>J8 hu k x y h K' d) (fun hr=>by rw [hr] at H2; simp only [jm] at H2; exact ih H2) (fun hr=>by rw [hr] at H2; simp only [nv] at H2; exact ⟨rfl, .inr ⟨rfl,sQ H2⟩⟩)
  ·rename_i x y hn hu hv hw
   exact HF (by simpa using hn) hu (by unfold tA; rw [hu]) hv hw (fun K'=>CI hu x y h K' d) (fun hr=>by rw [hr] at H; simp only [jm] at H; exact ih H) (fun hr=>by rw [hr] at H; simp only [nv] at H; exact ⟨rfl, .inr ⟨rfl,sQ H⟩⟩)
  ·exact H.elim
theorem zD {t:TypeId} {fs:Array Field} {xs ys:Array Value} {h:Heap} {K:Bool->Heap->Prop} {d:Nat} (hu:P.underlying t=some (.struct fs)) (hst:P.stoodInHeld t=false) (H:qO P fs.toList xs.toList ys.toList fun r=>K r h) :
  wpS P qt (Op.equalIn (d+2) t (.agg xs) (.agg ys)) h K:=by
 unfold Op.equalIn
 rw [fQ,gG hu]
 simp only
 rw [fQ,om,hst]
 simp only [j9,if_false]
 rw [fQ,<- Array.forIn_toList]
 refine y2 _ (Qz (d:=d) H) ?_
 rintro r h' ⟨rfl,⟨h1,h2⟩ | ⟨h1,h2⟩⟩
 ·rw [h1]; exact h2
 ·rw [h1]; exact h2
theorem Ey {op:BinOp} {t:TypeId} {xs ys:Array Value} {X Y:Operand} {h:Heap} {K:VK} (H:Dj P op t xs.toList ys.toList fun v=>K v h) :
  wpS P qt (do eqGuard op t X Y (.agg xs) (.agg ys); binOp op t (.agg xs) (.agg ys)) h K:=by
 have hm:Op.maxDepth=9998+2:=rfl
 have guard:∀ op,(op = .eql\/op = .neq)->P.eqGuardType P.depth t=false->∀ K':Unit->Heap->Prop,K' () h->wpS P qt (eqGuard op t X Y (.agg xs) (.agg ys)) h K':=fun op ho hg K' hk=>by
  unfold eqGuard
  rcases ho with rfl | rfl
  ·simp only
   rw [if_neg (by simp)]
   simp only [fQ,om,hg]
   exact hk
  ·simp only
   rw [if_neg (by simp)]
   simp only [fQ,om,hg]
   exact hk
 unfold Dj at H
 split at H
 ·rename_i fs hu hg hst
  rw [fQ]
  refine guard _ (.inl rfl) hg _ ?_
  show wpS P qt (do pure (.bool (<- Op.equal t (.agg xs) (.agg ys)))) h K
  rw [fQ]
  unfold Op.equal
  rw [hm]
  exact zD hu hst H
 ·rename_i fs hu hg hst
  rw [fQ]
  refine guard _ (.inr rfl) hg _ ?_
  show wpS P qt (do pure (.bool (!(<- Op.equal t (.agg xs) (.agg ys))))) h K
  rw [fQ]
  unfold Op.equal
  rw [hm]
  exact zD hu hst H
 ·exact H.elim
end
def G3 (P:Program) (C:gl) (Y:YP) (Q:j6) (o:Oper) (a:Act) (h:Heap) (K:Act->Heap->Prop):Prop:=match o.op with
 | .call c=>(match c.callee with
  | .value f=>(match yieldOf (a.eval f) with
   | some l=>Y l (c.args.toList.map a.eval) h fun v h'=>Ah P o.type v fun v'=>K (a.put o.dst v') h'
   | none=>uO P C Q o a h K)
  | _=>uO P C Q o a h K)
 | .binOp op t x y _=>(match a.eval x,a.eval y with
  | .agg cs,.agg ds=>Dj P op t cs.toList ds.toList fun v=>K (a.put o.dst v) h
  | _,_=>uO P C Q o a h K)
 | _=>uO P C Q o a h K
theorem NW {P:Program} {C:gl} {Y:YP} {Q:j6} {o:Oper} {a:Act} {h:Heap} {K:Act->Heap->Prop} (hn:∀ c,o.op ≠ .call c) (hb:∀ op t x y yt,o.op ≠ .binOp op t x y yt):G3 P C Y Q o a h K=uO P C Q o a h K:=by
 unfold G3
 split
 ·rename_i c ho; exact absurd ho (hn c)
 ·rename_i op t x y yt ho; exact absurd ho (hb op t x y yt)
 ·rfl
section
variable {P:Program} {C:gl} {Q:j6} {ops:Array Oper}
theorem wX {o:Oper} {a:Act} {w:World} {n:Nat} {next:Act->World->Prop} {Q':Exit->Act->World->Prop} (h:o.wp P a w next Q'):o.wpIn Fence.wide n P a w next Q':=by
 unfold Oper.wp at h
 refine ⟨fun _ _=>trivial,?_⟩
 have e:o.semAt Fence.wide.round a.eval=execOp a.eval o:=Oper.semAt_none _ _
 rw [e]
 generalize (execOp a.eval o).run P w=r at h
 cases r with
 | ok x w' =>
  cases x <;> simp only [Oper.upon] at h <;> simp only [Oper.uponIn]
  case value u=>exact h
  case skip=>exact h
  case defer d=>exact h
  case enter f args=>exact ⟨fun hh=>by simp [Fence.wide] at hh,callsIn_wide.2 h⟩
  case row row args=>exact ⟨fun hh=>by simp [Fence.wide] at hh,fun c cs _=>let ⟨v,w',r,s⟩:=h c cs; ⟨v,w',r,stepsIn_wide.2 s⟩⟩
 | halt x w' =>
  cases x <;> simp only [Oper.upon] at h <;> simp only [Oper.uponIn]
  case panic u=>exact h
theorem Fo (hC:CallOK P C) {o:Oper} {a:Act} {K:Act->Heap->Prop} {next:Act->World->Prop} {Q':Exit->Act->World->Prop} {w:World}
  (H:G3 P C (nO P) Q o a w.heap K) (hK:∀ a' w',keeps w w'->((∃ v,a'=a.put o.dst v)\/(∃ c,o.op = .defer c))->K a' w'.heap->next a' w')
  (hp:∀ c w',keeps w w'->Q (.panic c) a w'.heap->Q' (.panic c) a w'):o.wpIn Fence.wide 0 P a w next Q':=by
 unfold G3 at H
 split at H
 ·rename_i c ho
  split at H
  ·rename_i f hf
   split at H
   ·rename_i l hl
    obtain ⟨fn,tmps,assign,body,hy,hround⟩:=H w rfl
    refine ⟨fun _ _=>trivial,?_⟩
    have e:o.semAt Fence.wide.round a.eval=execOp a.eval o:=Oper.semAt_none _ _
    have hargs:(c.args.toList.map a.eval).toArray=c.args.map a.eval:=by apply Array.toList_inj.1; simp
    rw [hargs] at hy
    have hrun:(execOp a.eval o).run P w = .ok (.round l fn tmps assign body) w:=by
     unfold execOp
     simp only [ho,resolve,hf,HY hl,Deferred.ofValue]
     simp only [Sem.run_bind,Sem.run_pure,Result.andThen,invoke]
     rw [show (#[]:Array Value)++c.args.map a.eval=c.args.map a.eval by simp]
     exact hy
    rw [e,hrun]
    simp only [Oper.uponIn]
    refine ⟨fun hh=>by simp [Fence.wide] at hh,hround.mono fun e w' he=>?_⟩
    obtain ⟨hk,v,rfl,hv⟩:=he
    exact hK _ _ hk (.inl ⟨_,rfl⟩) (uu hv)
   ·exact wX (wU hC H hK hp)
  ·exact wX (wU hC H hK hp)
 ·rename_i op t x y yt ho
  split at H
  ·rename_i cs ds hx hy
   refine wX ?_
   have h1:wpS P false (execOp a.eval o) w.heap (uW false (fun _ _ _ _ _=>False) (fun _ _=>False) fun v h'=>K (a.put o.dst v) h'):=by
    unfold execOp
    simp only [ho,hx,hy]
    exact nL (Ey H)
   obtain ⟨n,w',hr,hk,_,hn⟩:=Ci _ h1 rfl
   unfold Oper.wp
   rw [hr]
   cases n <;> simp only [uW] at hn <;> simp only [Oper.upon]
   ·exact hK _ _ hk (.inl ⟨_,rfl⟩) hn
   ·exact hK _ _ hk (.inl ⟨_,rfl⟩) hn.2
   ·exact hn.2.elim
  ·exact wX (wU hC H hK hp)
 ·exact wX (wU hC H hK hp)
end
def N5 (P:Program) (C:gl) (Y:YP) (Q:j6) (ops:Array Oper):List Oper->Act->Heap->(Act->Heap->Prop)->Prop
 | [],a,h,K=>K a h
 | o::rest,a,h,K=>zC ops o a (fun a=>G3 P C Y Q o a h fun a' h'=>N5 P C Y Q ops rest a' h' K) (fun a=>N5 P C Y Q ops rest (a.put o.dst undef) h K)
def GX (P:Program) (C:gl) (Y:YP) (Q:j6) (ops:Array Oper) (i:Nat) (a:Act) (h:Heap) (k:Act->Heap->Prop):Prop:=match ops[i]? with
 | none=>False
 | some o=>zC ops o a (fun a=>G3 P C Y Q o a h k) (fun a=>k (a.put o.dst undef) h)
def goY (P:Program) (C:gl) (Y:YP) (Q:j6) (ops:Array Oper) (ro:Option (Nat->Prop)) (i:Nat) (a:Act) (h:Heap) (k:Act->Heap->Prop):Prop:=match Nb ops i with
 | true=>y6 P C Q ops i a h k
 | false=>GX P C Y Q ops i a h fun a' h'=>ny ro h h'/\k a' h'
def FG (P:Program) (C:gl) (Y:YP) (Q:j6) (ops:Array Oper) (ro:Option (Nat->Prop)):Plan->Act->Heap->(Act->Heap->Prop)->Prop
 | .done,a,h,K=>K a h
 | .take i p,a,h,K=>LC P C Q ops ro i a h fun a' h'=>FG P C Y Q ops ro p a' h' K
 | .go i p,a,h,K=>goY P C Y Q ops ro i a h fun a' h'=>FG P C Y Q ops ro p a' h' K
 | .alt i p q,a,h,K=>goY P C Y Q ops ro i a h (fun a' h'=>FG P C Y Q ops ro p a' h' K)/\FG P C Y Q ops ro q a h K
 | .bar i _ p,a,h,K=>GX P C Y Q ops i a h fun a' h'=>FG P C Y Q ops ro p a' h' K
 | .keep _,_,_,_=>False
section
variable {P:Program} {md:Region.Mode} {ops:Array Oper} {Q:Exit->Act->World->Prop} {bar:Nat->Bool} {S:World->Prop}
theorem HW {i:Nat} {o:Oper} {v:Value} {a:Act} (hi:ops[i]? = some o) (hy:YieldsIf P ops S o v a) {K:Act->World->Prop} {w:World} (hS:S w) (h:K (a.put o.dst v) w):wpOpIn Fence.wide 0 P ops Q i K a w:=by
 unfold wpOpIn
 simp only [hi]
 rcases hy with ⟨hw,hv⟩ | ⟨hw,rfl⟩
 ·rw [if_pos hw]
  refine ⟨fun _ _=>trivial,?_⟩
  have e:o.semAt Fence.wide.round a.eval=execOp a.eval o:=Oper.semAt_none _ _
  rw [e,hv w hS]
  exact h
 ·rw [if_neg (by rw [hw]; simp)]
  exact ⟨fun _ _=>trivial,h⟩
theorem RD {j:Nat} {oi oj:Oper} {v:Value} (hj:ops[j]? = some oj) (hap:oi.apart ops oj=true) (hsi:∀ cs b,oi.op ≠ .select cs b) (hsj:∀ cs b,oj.op ≠ .select cs b)
  (hQ:∀ c a w,Q (.panic c) (a.put oi.dst v) w->Q (.panic c) a w) {K:Act->World->Prop} {a:Act} {w:World} (hy:YieldsIf P ops S oi v a) (h:wpOpIn Fence.wide 0 P ops Q j K (a.put oi.dst v) w) :
  wpOpIn Fence.wide 0 P ops Q j (fun a' w'=>YieldsIf P ops S oi v a'/\K (a'.put oi.dst v) w') a w:=by
 obtain ⟨h1,h2,h3⟩:=Oper.apart_spec hap
 have keep:∀ (a:Act),YieldsIf P ops S oi v a->∀ u,YieldsIf P ops S oi v (a.put oj.dst u):=fun a hy u=>hy.of_same (execOp_put oi hsi a oj.dst u h3) (wanted_put oi a oj.dst u h3)
 have swap:∀ (a:Act) u,(a.put oi.dst v).put oj.dst u=(a.put oj.dst u).put oi.dst v:=fun a u=>Act.put_comm a v u h2
 unfold wpOpIn at h ⊢
 simp only [hj] at h ⊢
 rw [wanted_put oj a oi.dst v h1] at h
 by_cases hw:Region.wanted oj (yielded ops a.tmps)=true
 ·rw [if_pos hw] at h ⊢
  obtain ⟨_,h⟩:=h
  refine ⟨fun _ _=>trivial,?_⟩
  have e:∀ ρ,oj.semAt Fence.wide.round ρ=execOp ρ oj:=fun ρ=>Oper.semAt_none _ _
  rw [e,execOp_put oj hsj a oi.dst v h1] at h
  rw [e]
  generalize (execOp a.eval oj).run P w=r at h
  cases r with
  | ok x w' =>
   cases x <;> simp only [Oper.uponIn] at h ⊢
   case value u=>rw [swap] at h; exact ⟨keep a hy u,h⟩
   case skip=>rw [swap] at h; exact ⟨keep a hy _,h⟩
   case defer d =>
    have hy':YieldsIf P ops S oi v { a with defers:=d::a.defers }:=hy.of_same rfl rfl
    refine ⟨keep _ hy' _,?_⟩
    rw [<- swap,<- Act.put_defers]
    exact h
   case enter f args =>
    refine ⟨h.1,h.2.mono fun e w'' he=>?_⟩
    cases e with
    | returned u=>simp only [swap] at he; exact ⟨keep a hy u,he⟩
    | panicked c=>exact hQ _ _ _ he
    | outgrown=>exact he
   case row row args=>exact ⟨h.1,h.2.mono fun u w'' he=>by rw [swap] at he; exact ⟨keep a hy u,he⟩⟩
   case round l f tmps assign body =>
    refine ⟨h.1,h.2.mono fun e w'' he=>?_⟩
    cases e with
    | returned u=>simp only [swap] at he; exact ⟨keep a hy u,he⟩
    | panicked c=>exact hQ _ _ _ he
    | outgrown=>exact he
  | halt x w' =>
   cases x <;> simp only [Oper.uponIn] at h ⊢
   case panic u=>exact hQ _ _ _ h
 ·rw [if_neg hw] at h ⊢
  rw [swap] at h
  exact ⟨fun _ _=>trivial,keep a hy _,h.2⟩
def pQ (P:Program) (md:Region.Mode) (ops:Array Oper) (Q:Exit->Act->World->Prop) (bar:Nat->Bool) (S:World->Prop):Nat->Array Bool->Act->World->Prop
 | 0,listed,a,w=>Region.ready md ops listed=[]/\Q .normal a w
 | fuel+1,listed,a,w =>
  (Region.ready md ops listed=[]->Q .normal a w) /\
  ∀ i∈Region.ready md ops listed,wpOpIn Fence.wide 0 P ops Q i (fun a' w'=>(bar i=true->wpAnyIn Fence.wide 0 P md ops Q fuel (listed.setIfInBounds i true) a' w') /\
   (bar i=false->S w'/\pQ P md ops Q bar S fuel (listed.setIfInBounds i true) a' w')) a w
theorem vE:∀ (fuel:Nat) (listed:Array Bool) (a:Act) (w:World),pQ P md ops Q bar S fuel listed a w->wpAnyIn Fence.wide 0 P md ops Q fuel listed a w
 | 0,_,_,_,h=>h
 | fuel+1,_,_,_,h=>⟨h.1,fun i hi=>wpOpIn_mono (fun a' w' h'=>by
   cases hb:bar i with
   | true=>exact h'.1 hb
   | false=>exact vE fuel _ a' w' (h'.2 hb).2) (h.2 i hi)⟩
theorem xG {S':World->Prop} (hS:∀ w,S w->S' w):∀ (fuel:Nat) (listed:Array Bool) (a:Act) (w:World),pQ P md ops Q bar S fuel listed a w->pQ P md ops Q bar S' fuel listed a w
 | 0,_,_,_,h=>h
 | fuel+1,_,_,_,h=>⟨h.1,fun i hi=>wpOpIn_mono (fun a' w' h'=>⟨h'.1,fun hb=>⟨hS _ (h'.2 hb).1,xG hS fuel _ a' w' (h'.2 hb).2⟩⟩) (h.2 i hi)⟩
theorem vW {i:Nat} {oi:Oper} {v:Value} (Yl:Act->Prop) (hi:ops[i]? = some oi)
  (hY1:∀ a w,S w->Yl a->∀ K:Act->World->Prop,K (a.put oi.dst v) w->wpOpIn Fence.wide 0 P ops Q i K a w)
  (hY2:∀ j oj,ops[j]? = some oj->oi.apart ops oj=true->∀ (K:Act->World->Prop) a w,Yl a->wpOpIn Fence.wide 0 P ops Q j K (a.put oi.dst v) w->wpOpIn Fence.wide 0 P ops Q j (fun a' w'=>Yl a'/\K (a'.put oi.dst v) w') a w)
  (hB:∀ j (listed:Array Bool) fuel a' w',bar j=true->mH md ops listed->j∈Region.ready md ops listed->i∈Region.ready md ops (listed.setIfInBounds j true) ->
   (∀ k ok,ops[k]? = some ok->k≠i->(listed.setIfInBounds j true).getD k true=false->(∀ e∈ok.after,Region.binds md e=true->e.on≠i)->oi.apart ops ok=true) ->
   Yl a'->wpAnyIn Fence.wide 0 P md ops Q fuel ((listed.setIfInBounds j true).setIfInBounds i true) (a'.put oi.dst v) w'->wpAnyIn Fence.wide 0 P md ops Q (fuel+1) (listed.setIfInBounds j true) a' w') :
  ∀ (fuel:Nat) (listed:Array Bool) (a:Act) (w:World),mH md ops listed ->
   (∀ j oj,ops[j]? = some oj->j≠i->listed.getD j true=false->(∀ e∈oj.after,Region.binds md e=true->e.on≠i)->oi.apart ops oj=true) ->
   i∈Region.ready md ops listed->bar i=false->Yl a->S w ->
   pQ P md ops Q bar S fuel (listed.setIfInBounds i true) (a.put oi.dst v) w->pQ P md ops Q bar S (fuel+1) listed a w:=by
 intro fuel
 induction fuel with
 | zero =>
  intro listed a w _ _ hr hbi hy hS H
  refine ⟨fun h=>(by rw [h] at hr; cases hr),fun j hj=>?_⟩
  by_cases hji:j=i
  ·subst hji
   exact hY1 a w hS hy _ ⟨fun e=>(by rw [hbi] at e; cases e),fun _=>⟨hS,H⟩⟩
  ·have:=ready_mono hj hji
   rw [H.1] at this
   cases this
 | succ fuel ih =>
  intro listed a w hcl hfree hr hbi hy hS H
  refine ⟨fun h=>(by rw [h] at hr; cases hr),fun j hj=>?_⟩
  by_cases hji:j=i
  ·subst hji
   exact hY1 a w hS hy _ ⟨fun e=>(by rw [hbi] at e; cases e),fun _=>⟨hS,H⟩⟩
  ·have h1:=H.2 j (ready_mono hj hji)
   obtain ⟨hjun,oj,hoj,hall⟩:=mem_ready.1 hj
   have hnot:∀ e∈oj.after,Region.binds md e=true->e.on≠i:=fun e he hb heq=>by
    have h1:=hall e he hb
    have h0:=(mem_ready.1 hr).1
    rw [heq] at h1
    rcases gI i listed.size with h' | h'
    ·simp [h'] at h0 h1; rw [h0] at h1; cases h1
    ·simp [kL h'] at h1
   have h2:=hY2 j oj hoj (hfree j oj hoj hji hjun hnot) _ a w hy h1
   have hfree':∀ k ok,ops[k]? = some ok->k≠i->(listed.setIfInBounds j true).getD k true=false ->
     (∀ e∈ok.after,Region.binds md e=true->e.on≠i)->oi.apart ops ok=true:=fun k ok hk hki hun hno=>by
    refine hfree k ok hk hki ?_ hno
    by_cases hjk:j=k
    ·subst hjk; exact hjun
    ·rw [getD_set_ne true hjk] at hun; exact hun
   refine wpOpIn_mono (fun a' w' h3=>?_) h2
   obtain ⟨hy',h4,h5⟩:=h3
   refine ⟨fun hb=>?_,fun hb=>?_⟩
   ·have h6:=h4 hb
    rw [vV _ _ (Ne.symm hji)] at h6
    exact hB j listed fuel a' w' hb hcl hj (ready_mono hr (Ne.symm hji)) hfree' hy' h6
   ·obtain ⟨hS',h6⟩:=h5 hb
    rw [vV _ _ (Ne.symm hji)] at h6
    exact ⟨hS',ih (listed.setIfInBounds j true) a' w' (hcl.set hj) hfree' (ready_mono hr (Ne.symm hji)) hbi hy' hS' h6⟩
theorem Kt:∀ (fuel:Nat) (listed:Array Bool) (a:Act) (w:World),wpAnyIn Fence.wide 0 P md ops Q fuel listed a w->pQ P md ops Q (fun _=>false) (fun _=>True) fuel listed a w
 | 0,_,_,_,h=>h
 | fuel+1,_,_,_,h=>⟨h.1,fun i hi=>wpOpIn_mono (fun a' w' h'=>⟨fun e=>(by cases e),fun _=>⟨trivial,Kt fuel _ a' w' h'⟩⟩) (h.2 i hi)⟩
theorem Lv {i:Nat} {oi:Oper} {v:Value} (hi:ops[i]? = some oi) (hsel:∀ (j:Nat) (o:Oper) cs b,ops[j]? = some o->o.op ≠ .select cs b) (hQ:∀ c a w,Q (.panic c) (a.put oi.dst v) w->Q (.panic c) a w)
  (fuel:Nat) (listed:Array Bool) (a:Act) (w:World) (hcl:mH md ops listed)
  (hfree:∀ j oj,ops[j]? = some oj->j≠i->listed.getD j true=false->(∀ e∈oj.after,Region.binds md e=true->e.on≠i)->oi.apart ops oj=true) (hr:i∈Region.ready md ops listed)
  (hy:YieldsIf P ops (fun _=>True) oi v a) (H:wpAnyIn Fence.wide 0 P md ops Q fuel (listed.setIfInBounds i true) (a.put oi.dst v) w):wpAnyIn Fence.wide 0 P md ops Q (fuel+1) listed a w :=
 vE _ _ _ _ (vW (bar:=fun _=>false) (S:=fun _=>True) (fun a'=>YieldsIf P ops (fun _=>True) oi v a') hi (fun a' w' hS hy' K hK=>HW hi hy' hS hK)
  (fun j oj hj hap K a' w' hy' hh=>RD hj hap (fun cs b=>hsel i oi cs b hi) (fun cs b=>hsel j oj cs b hj) hQ hy' hh) (fun j listed' fuel' a' w' hb=>by cases hb) fuel listed a w hcl hfree hr rfl hy trivial (Kt _ _ _ _ H))
end
section
variable {P:Program} {C:gl} {Q:j6} {ops:Array Oper}
theorem Fs (hC:CallOK P C) (w₀:World) (Fr:Act->Prop):∀ (l:List Oper) (a:Act) (w:World) (K:Act->Heap->Prop),keeps w₀ w->N5 P C (nO P) Q ops l a w.heap K ->
  (∀ a' w',keeps w₀ w'->FrL l a a'->K a' w'.heap->Q .normal a' w'.heap)->(∀ a',FrL l a a'->Fr a')->wpListIn Fence.wide 0 P ops (jM w₀ Fr Q) l a w
 | [],a,w,K,hk,H,hQ,hF=>⟨hk,hF a (fun W _=>jO.refl W a),hQ a w hk (fun W _=>jO.refl W a) H⟩
 | o::rest,a,w,K,hk,H,hQ,hF=>by
  have hcons:∀ a1,(∀ W,nM W o=true->jO W a a1)->∀ a',FrL rest a1 a'->FrL (o::rest) a a':=fun a1 h1 a' h2 W hW=>by
   simp only [ua,gH] at hW
   exact (h1 W hW.1).trans (h2 W hW.2)
  have hrec:∀ a1 w1,keeps w₀ w1->(∀ W,nM W o=true->jO W a a1)->N5 P C (nO P) Q ops rest a1 w1.heap K->wpListIn Fence.wide 0 P ops (jM w₀ Fr Q) rest a1 w1:=fun a1 w1 hk1 h1 H1 =>
   Fs hC w₀ Fr rest a1 w1 K hk1 H1 (fun a' w' hk' hf=>hQ a' w' hk' (hcons a1 h1 a' hf)) (fun a' hf=>hF a' (hcons a1 h1 a' hf))
  unfold wpListIn
  rcases tf H with ⟨hw,H⟩ | ⟨hw,H⟩
  ·rw [if_pos hw]
   exact (Fo hC H (fun a' w' hk' hs h=>hrec a' w' (hk.trans hk') (fun W hW=>xL hs hW) h) (fun c w' hk' h=>⟨hk.trans hk',h⟩))
  ·rw [if_neg (by rw [hw]; simp)]
   exact ⟨fun _ _=>trivial,hrec _ w hk (fun W hW=>(jO.refl W a).put hW undef) H⟩
theorem Bp (hC:CallOK P C) {w₀:World} {Fr:Act->Prop} {i:Nat} {a:Act} {w:World} {k:Act->Heap->Prop} {next:Act->World->Prop} (hk:keeps w₀ w) (H:GX P C (nO P) Q ops i a w.heap k)
  (hnext:∀ a' w',keeps w₀ w'->(∀ W,ops.toList.all (nM W)=true->jO W a a')->k a' w'.heap->next a' w'):wpOpIn Fence.wide 0 P ops (jM w₀ Fr Q) i next a w:=by
 unfold GX at H
 split at H
 ·exact H.elim
 ·rename_i o ho
  unfold wpOpIn
  simp only [ho]
  have hin:∀ W,ops.toList.all (nM W)=true->nM W o=true:=fun W hW=>List.all_eq_true.1 hW o (by
   have:=oQ ho
   simpa using this)
  rcases tf H with ⟨hw,H⟩ | ⟨hw,H⟩
  ·rw [if_pos hw]
   exact (Fo hC H (fun a' w' hk' hs h=>hnext a' w' (hk.trans hk') (fun W hW=>xL hs (hin W hW)) h) (fun c w' hk' h=>⟨hk.trans hk',h⟩))
  ·rw [if_neg (by rw [hw]; simp)]
   exact ⟨fun _ _=>trivial,hnext _ w hk (fun W hW=>(jO.refl W a).put (hin W hW) undef) H⟩
theorem H6 {Y:YP} {i:Nat} {a:Act} {h:Heap} {k:Act->Heap->Prop} (hn:Nb ops i=true) (H:y6 P C Q ops i a h k):GX P C Y Q ops i a h k:=by
 unfold Nb at hn
 unfold y6 at H
 unfold GX
 split at hn
 ·rename_i o ho
  simp only [ho] at H ⊢
  have hc:∀ c,o.op ≠ .call c:=fun c e=>by rw [e] at hn; cases hn
  have hb:∀ op t x y yt,o.op ≠ .binOp op t x y yt:=fun op t x y yt e=>by rw [e] at hn; cases hn
  simp only [NW hc hb]
  exact H
 ·cases hn
theorem JW (hC:CallOK P C) {ro:Option (Nat->Prop)} {w₀:World} {Fr:Act->Prop} {i:Nat} {a:Act} {w:World} {k:Act->Heap->Prop} {next:Act->World->Prop} (hk:keeps w₀ w) (H:goY P C (nO P) Q ops ro i a w.heap k)
  (hnext:∀ a' w',keeps w₀ w'->(∀ W,ops.toList.all (nM W)=true->jO W a a')->ny ro w.heap w'.heap->k a' w'.heap->next a' w'):wpOpIn Fence.wide 0 P ops (jM w₀ Fr Q) i next a w:=by
 unfold goY at H
 split at H
 ·rename_i hn; exact Bp hC hk (H6 hn (Hk hn H)) fun a' w' h1 h2 h=>hnext a' w' h1 h2 (h.1.rel ro) h.2
 ·exact Bp hC hk H fun a' w' h1 h2 h=>hnext a' w' h1 h2 h.1 h.2
theorem Ju (ro:Option (Nat->Prop)) (hC:CallOK P C) {R:List Tmp} (hQp:lH R Q) (hR:Gq R ops=true) (w₀:World) (a₀:Act) (Fr:Act->Prop) (hs:Region.noSelect ops=true)
  (hF:∀ a',(∀ W,ops.toList.all (nM W)=true->jO W a₀ a')->Fr a') :
  ∀ (p:Plan) (n:Nat) (bars:List Nat) (listed:Array Bool) (a:Act) (w:World),mH .any ops listed->keeps w₀ w ->
   (∀ W,ops.toList.all (nM W)=true->jO W a₀ a)->FG P C (nO P) Q ops ro p a w.heap (fun a' h'=>Q .normal a' h') ->
   (lh ops true bars n listed p=true->pQ P .any ops (jM w₀ Fr Q) (fun i=>bars.contains i) (fun w'=>ny ro w.heap w'.heap) n listed a w) /\
   (∀ m n',n=n'+1->lh ops false bars n listed p=true->m∈zB p->m∈Region.ready .any ops listed ->
    wpOpIn Fence.wide 0 P ops (jM w₀ Fr Q) m (fun a' w'=>(bars.contains m=true->wpAnyIn Fence.wide 0 P .any ops (jM w₀ Fr Q) n' (listed.setIfInBounds m true) a' w') /\
     (bars.contains m=false->ny ro w.heap w'.heap/\pQ P .any ops (jM w₀ Fr Q) (fun i=>bars.contains i) (fun w'=>ny ro w.heap w'.heap) n' (listed.setIfInBounds m true) a' w')) a w):=by
 have hsel:=Region.noSelect_spec hs
 have hQ':∀ (i:Nat) (o:Oper),ops[i]? = some o->∀ (v:Value) c a w,jM w₀ Fr Q (.panic c) (a.put o.dst v) w->jM w₀ Fr Q (.panic c) a w:=fun i o ho v c a w h=>⟨h.1,hQp c a o.dst v _ (Et hR ho) h.2⟩
 intro p
 induction p with
 | done =>
  intro n bars listed a w hcl hk hag H
  refine ⟨fun hok=>?_,fun m n' _ _ hm=>by cases hm⟩
  have hr:Region.ready .any ops listed=[]:=by
   have:(xP ops listed).isEmpty=true:=by cases n <;> exact hok
   simpa [xP] using this
  cases n with
  | zero=>exact ⟨hr,hk,hF a hag,H⟩
  | succ n=>exact ⟨fun _=>⟨hk,hF a hag,H⟩,by rw [hr]; simp⟩
 | take i p ih =>
  intro n bars listed a w hcl hk hag H
  refine ⟨fun hok=>?_,fun m n' _ _ hm=>by cases hm⟩
  cases n with
  | zero=>cases hok
  | succ n =>
   simp only [lh,gH] at hok
   obtain ⟨⟨_,ht⟩,hok⟩:=hok
   unfold KT at ht
   cases ho:ops[i]? with
   | none=>rw [ho] at ht; cases ht
   | some o =>
    rw [ho] at ht
    simp only [gH,jN,List.contains_eq_mem,decide_eq_true_eq,decide_eq_false_iff_not,lO] at ht
    obtain ⟨⟨⟨⟨hf,hr⟩,hfree⟩,hbi⟩,hload⟩:=ht
    obtain ⟨v,hv,hy,hyp⟩:=F1 hC ho hf H
    have hbi':(fun i=>bars.contains i) i=false:=by simpa using hbi
    have hin:∀ W,ops.toList.all (nM W)=true->jO W a₀ (a.put o.dst v):=fun W hW=>(hag W hW).put (List.all_eq_true.1 hW o (by
     have:=oQ ho
     simpa using this)) v
    have hrec:=(ih n bars (listed.setIfInBounds i true) (a.put o.dst v) w (hcl.set hr) hk hin hv).1 hok
    cases hl:BK o.op with
    | false =>
     refine vW (fun a'=>YieldsIf P ops (fun _=>True) o v a') ho (fun a' w' _ hy' K hK=>HW ho hy' trivial hK)
      (fun j oj hj hap K a' w' hy' hh=>RD hj hap (fun cs b=>hsel i o cs b ho) (fun cs b=>hsel j oj cs b hj) (hQ' i o ho v) hy' hh)
      (fun j listed' fuel a' w' _ hcl' hrj hri hfr hy' hh=>Lv ho hsel (hQ' i o ho v) fuel _ a' w' (hcl'.set hrj) hfr hri hy' hh)
      n listed a w hcl (Region.free_spec ho hfree) hr hbi' (hyp hl).yieldsIf (ny.refl ro _) hrec
    | true =>
     refine vW (fun a'=>YieldsIf P ops (fun w'=>ny ro w.heap w'.heap) o v a') ho (fun a' w' hS hy' K hK=>HW ho hy' hS hK)
      (fun j oj hj hap K a' w' hy' hh=>RD hj hap (fun cs b=>hsel i o cs b ho) (fun cs b=>hsel j oj cs b hj) (hQ' i o ho v) hy' hh)
      (fun j listed' fuel a' w' hb hcl' hrj hri _ _ _=>by
       rcases hload with h | h
       ·rw [hl] at h; cases h
       ·have hd:=HI (List.all_eq_true.1 h j (by simpa using hb))
        have h1:=hcl'.ready hd hrj
        have h2:=(mem_ready.1 hri).1
        have hji:j≠i:=fun e=>by subst e; exact hbi (by simpa using hb)
        rw [getD_set_ne true hji] at h2
        rcases gI i listed'.size with h' | h'
        ·simp [h'] at h1 h2; rw [h1] at h2; cases h2
        ·simp [kL h'] at h1)
      n listed a w hcl (Region.free_spec ho hfree) hr hbi' hy (ny.refl ro _) hrec
 | keep p ih =>
  intro n bars listed a w hcl hk hag H
  exact H.elim
 | go i p ih =>
  intro n bars listed a w hcl hk hag H
  have one:∀ n',lh ops true bars n' (listed.setIfInBounds i true) p=true->bars.contains i=false->i∈Region.ready .any ops listed ->
    wpOpIn Fence.wide 0 P ops (jM w₀ Fr Q) i (fun a' w'=>(bars.contains i=true->wpAnyIn Fence.wide 0 P .any ops (jM w₀ Fr Q) n' (listed.setIfInBounds i true) a' w') /\
     (bars.contains i=false->ny ro w.heap w'.heap/\pQ P .any ops (jM w₀ Fr Q) (fun i=>bars.contains i) (fun w'=>ny ro w.heap w'.heap) n' (listed.setIfInBounds i true) a' w')) a w:=fun n' hok hbi hr=>by
   refine JW hC hk H fun a' w' hk' hin he h=>⟨fun hb=>(by rw [hbi] at hb; cases hb),fun _=>⟨he,?_⟩⟩
   exact xG (fun w'' hw=>he.trans hw) n' _ a' w' ((ih n' bars _ a' w' (hcl.set hr) hk' (fun W hW=>(hag W hW).trans (hin W hW)) h).1 hok)
  refine ⟨fun hok=>?_,fun m n' hn hok hm hr=>?_⟩
  ·cases n with
   | zero=>cases hok
   | succ n =>
    simp only [lh,gH,lO,decide_eq_true_eq,jN] at hok
    obtain ⟨⟨hr,hbi⟩,hok⟩:=hok
    have hr':Region.ready .any ops listed=[i]:=by
     rcases hr with h | h
     ·cases h
     ·exact h
    refine ⟨fun h=>(by rw [hr'] at h; cases h),fun j hj=>?_⟩
    rw [hr'] at hj
    obtain rfl:=List.mem_singleton.1 hj
    exact one n hok hbi (by rw [hr']; simp)
  ·subst hn
   simp only [lh,gH,lO,decide_eq_true_eq,jN] at hok
   obtain ⟨⟨_,hbi⟩,hok⟩:=hok
   obtain rfl:m=i:=List.mem_singleton.1 hm
   exact one n' hok hbi hr
 | alt i p q ihp ihq =>
  intro n bars listed a w hcl hk hag H
  have one:∀ n',lh ops true bars n' (listed.setIfInBounds i true) p=true->bars.contains i=false->i∈Region.ready .any ops listed ->
    wpOpIn Fence.wide 0 P ops (jM w₀ Fr Q) i (fun a' w'=>(bars.contains i=true->wpAnyIn Fence.wide 0 P .any ops (jM w₀ Fr Q) n' (listed.setIfInBounds i true) a' w') /\
     (bars.contains i=false->ny ro w.heap w'.heap/\pQ P .any ops (jM w₀ Fr Q) (fun i=>bars.contains i) (fun w'=>ny ro w.heap w'.heap) n' (listed.setIfInBounds i true) a' w')) a w:=fun n' hok hbi hr=>by
   refine JW hC hk H.1 fun a' w' hk' hin he h=>⟨fun hb=>(by rw [hbi] at hb; cases hb),fun _=>⟨he,?_⟩⟩
   exact xG (fun w'' hw=>he.trans hw) n' _ a' w' ((ihp n' bars _ a' w' (hcl.set hr) hk' (fun W hW=>(hag W hW).trans (hin W hW)) h).1 hok)
  have both:∀ m n',lh ops false bars (n'+1) listed q=true->lh ops true bars n' (listed.setIfInBounds i true) p=true->bars.contains i=false->m∈i::zB q->m∈Region.ready .any ops listed ->
    wpOpIn Fence.wide 0 P ops (jM w₀ Fr Q) m (fun a' w'=>(bars.contains m=true->wpAnyIn Fence.wide 0 P .any ops (jM w₀ Fr Q) n' (listed.setIfInBounds m true) a' w') /\
     (bars.contains m=false->ny ro w.heap w'.heap/\pQ P .any ops (jM w₀ Fr Q) (fun i=>bars.contains i) (fun w'=>ny ro w.heap w'.heap) n' (listed.setIfInBounds m true) a' w')) a w:=fun m n' hq hp hbi hm hr=>by
   rcases List.mem_cons.1 hm with rfl | hm
   ·exact one n' hp hbi hr
   ·exact (ihq (n'+1) bars listed a w hcl hk hag H.2).2 m n' rfl hq hm hr
  refine ⟨fun hok=>?_,fun m n' hn hok hm hr=>?_⟩
  ·cases n with
   | zero=>cases hok
   | succ n =>
    simp only [lh,gH,lO,decide_eq_true_eq,jN] at hok
    obtain ⟨⟨⟨hr,hbi⟩,hok1⟩,hok2⟩:=hok
    have hr':Region.ready .any ops listed=i::zB q:=by
     rcases hr with h | h
     ·cases h
     ·exact h
    refine ⟨fun h=>(by rw [hr'] at h; cases h),fun j hj=>?_⟩
    exact both j n hok2 hok1 hbi (by rw [hr'] at hj; exact hj) hj
  ·subst hn
   simp only [lh,gH,lO,decide_eq_true_eq,jN] at hok
   obtain ⟨⟨⟨_,hbi⟩,hok1⟩,hok2⟩:=hok
   exact both m n' hok2 hok1 hbi hm hr
 | bar i bars' p ih =>
  intro n bars listed a w hcl hk hag H
  refine ⟨fun hok=>?_,fun m n' _ _ hm=>by cases hm⟩
  cases n with
  | zero=>cases hok
  | succ n =>
   simp only [lh,gH,decide_eq_true_eq] at hok
   obtain ⟨⟨⟨_,hr⟩,hbi⟩,hok⟩:=hok
   have hr':Region.ready .any ops listed=[i]:=hr
   refine ⟨fun h=>(by rw [hr'] at h; cases h),fun j hj=>?_⟩
   rw [hr'] at hj
   obtain rfl:=List.mem_singleton.1 hj
   refine Bp hC hk H fun a' w' hk' hin h=>⟨fun _=>?_,fun hb=>(by have hb:bars.contains j=false:=hb; rw [hbi] at hb; cases hb)⟩
   exact vE n _ a' w' ((ih n bars' _ a' w' (hcl.set (by rw [hr']; simp)) hk' (fun W hW=>(hag W hW).trans (hin W hW)) h).1 hok)
end
structure HintsY extends Hints where
 rng:Nat->Option (List CT):=fun _=>none
def JM:Exit->Option Nat
 | .ret=>some 0
 | .exit id=>some (2*id+1)
 | .goto t=>some (2*t+2)
 | _=>none
def uj:Code->List Nat
 | .ret=>[0]
 | .exit id=>[2*id+1]
 | .goto t=>[2*t+2]
 | .seq a b=>uj a++uj b
 | .cond _ a b=>uj a++uj b
 | .block id c=>(uj c).filter fun k=>!(Nat.beq k (2*id+1))
 | .loop c=>uj c
 | _=>[]
def J4:Nat->Exit
 | 0 => .ret
 | n+1=>match Nat.beq (n % 2) 0 with
  | true => .exit (n / 2)
  | false => .goto (n / 2)
def qy:Nat->Code
 | 0 => .ret
 | n+1=>match Nat.beq (n % 2) 0 with
  | true => .exit (n / 2)
  | false => .goto (n / 2)
theorem Hy {e:Exit} {k:Nat} (h:JM e=some k):J4 k=e/\((e = .ret/\qy k = .ret)\/(∃ id,e = .exit id/\qy k = .exit id)\/∃ t,e = .goto t/\qy k = .goto t):=by
 cases e with
 | ret =>
  obtain rfl:=ig h
  exact ⟨rfl, .inl ⟨rfl,rfl⟩⟩
 | exit id =>
  obtain rfl:=ig h
  have h1:Nat.beq (2*id % 2) 0=true:=by rw [Nat.mul_mod_right]; rfl
  have h2:2*id / 2=id:=by omega
  refine ⟨?_, .inr (.inl ⟨id,rfl,?_⟩)⟩
  ·show (match Nat.beq (2*id % 2) 0 with | true=>Exit.exit (2*id / 2) | false => .goto (2*id / 2))=_
   rw [h1,h2]
  ·show (match Nat.beq (2*id % 2) 0 with | true=>Code.exit (2*id / 2) | false => .goto (2*id / 2))=_
   rw [h1,h2]
 | goto t =>
  obtain rfl:=ig h
  have h1:Nat.beq ((2*t+1) % 2) 0=false:=by rw [show (2*t+1) % 2=1 by omega]; rfl
  have h2:(2*t+1) / 2=t:=by omega
  refine ⟨?_, .inr (.inr ⟨t,rfl,?_⟩)⟩
  ·show (match Nat.beq ((2*t+1) % 2) 0 with | true=>Exit.exit ((2*t+1) / 2) | false => .goto ((2*t+1) / 2))=_
   rw [h1,h2]
  ·show (match Nat.beq ((2*t+1) % 2) 0 with | true=>Code.exit ((2*t+1) / 2) | false => .goto ((2*t+1) / 2))=_
   rw [h1,h2]
 | normal=>cases h
 | panic c=>cases h
 | outgrown=>cases h
def kr (h:Heap) (l:Nat) (o:Obj):Prop:=h[l]? = some o
def nX (h:Heap) (l:Nat) (o:Obj):Heap:=h.setIfInBounds l o
def mark (D:Nat) (a:Act):Act:={ a with defers:={ target := .collected D,args:=#[] }::a.defers }
def Pb (v:Value) (K:FuncId->List Value->Prop):Prop:=match v with
 | .func (.func g) first lb=>(match first.toList with
  | []=>K g lb.toList
  | _=>False)
 | _=>False
theorem Nn {v:Value} {K:FuncId->List Value->Prop} (H:Pb v K):∃ g lb,v = .func (.func g) #[] lb/\K g lb.toList:=by
 unfold Pb at H
 split at H
 ·rename_i g first lb
  split at H
  ·rename_i hf
   have e:first=#[]:=by apply Array.toList_inj.1; rw [hf]
   exact ⟨g,lb,by rw [e],H⟩
  ·exact H.elim
 ·exact H.elim
def KM (l:Nat) (oR oB:Obj) (oJ:Nat->Obj) (js:List Nat) (K:VK):j6:=fun e _ h=>match e with
 | .normal=>kr h l oB/\K (.bool true) (nX h l oR)
 | e=>(match JM e with
  | some k=>(match js.contains k with
   | true=>kr h l oB/\K (.bool false) (nX h l (oJ k))
   | false=>False)
  | none=>False)
def Q2 (l:Nat) (oR oB:Obj) (next:Act->Heap->Prop):j6:=fun e a h=>match e with
 | .normal=>kr h l oR/\next a (nX h l oB)
 | _=>False
def Lx (l:Nat) (oJ oXJ:Nat->Obj) (Q:j6) (a:Act) (h:Heap):List Nat->Prop
 | []=>False
 | k::js=>(kr h l (oJ k)/\Q (J4 k) a (nX h l (oXJ k)))\/Lx l oJ oXJ Q a h js
def PQ:List CT->(List Value->Prop)->Prop
 | [],p=>p []
 | t::ts,p=>Q5 t fun v=>PQ ts fun vs=>p (v::vs)
def FE:List Tmp->List Value->Act->Act
 | p::ps,v::vs,a=>FE ps vs (a.put (some p) v)
 | _,_,a=>a
def OB (ops:Array Oper):Bool:=ops.toList.all fun o=>match o.op with
 | .defer _=>false
 | _=>true
def yL (P:Program) (C:gl) (Y:YP) (H:HintsY):Bool->Code->j6->Act->Heap->Prop
 | _, .skip,Q,a,h=>Q .normal a h
 | top, .region id ops draw,Q,a,h=>(match top || OB ops with
  | true=>(match draw with
   | false=>N5 P C Y Q ops ops.toList a h fun a' h'=>Q .normal a' h'
   | true=>(match H.plan id with
    | some (bars,p)=>(match AJ ops bars (Fj p) && Gq H.keep ops with
     | true=>OR (fun ro p=>FG P C Y Q ops ro p a h fun a' h'=>Q .normal a' h') p
     | false=>False)
    | none=>False))
  | false=>False)
 | top, .seq x y,Q,a,h=>(match IJ H.join y with
  | none=>yL P C Y H top x (Ip (fun a' h'=>yL P C Y H top y Q a' h') Q) a h
  | some (S,W)=>(match okW W x && inS W S with
   | true=>Rj S W (fun Q' a' h'=>yL P C Y H top x Q' a' h') (fun Q' a' h'=>yL P C Y H top y Q' a' h') Q a h
   | false=>False))
 | top, .cond c x y,Q,a,h=>(match a.eval c with
  | .bool b=>fI b (yL P C Y H top x Q a h) (yL P C Y H top y Q a h)
  | _=>False)
 | top, .block id c,Q,a,h=>yL P C Y H top c (Ab id Q) a h
 | top, .loop c,Q,a,h=>(match IJ H.loop c with
  | none=>False
  | some (S,W)=>(match okW W c && inS W S with
   | true=>Rh S W (fun Q' a' h'=>yL P C Y H top c Q' a' h') Q a h
   | false=>False))
 | _, .exit id,Q,a,h=>Q (.exit id) a h
 | _, .label _,Q,a,h=>Q .normal a h
 | _, .goto l,Q,a,h=>Q (.goto l) a h
 | _, .ret,Q,a,h=>Q .ret a h
 | true, .rangeFunc g ps x y,Q,a,h=>(match (xV y).bind H.rng with
  | some ts=>(match Nat.beq ts.length ps.toList.length with
   | true=>Pb (a.eval g) fun gf lb=>∀ (oR oB oX:Obj) (oJ oXJ:Nat->Obj),
     (∀ (h':Heap) (K:VK),kr h' (h.size+1) oR->PQ ts fun vs =>
      yL P C Y H false x (Q2 (h.size+1) oR oB fun a1 h1=>yL P C Y H false y (KM (h.size+1) oR oB oJ (uj y) K) a1 h1) (FE ps.toList vs { a with defers:=[] }) h'->Y (h.size+1) vs h' K) ->
     C gf (.func (.yield (h.size+1)) #[] #[]::lb).toArray ((h.push (.deferred (some []))).push oR)
      (fun _ h2=>(kr h2 (h.size+1) oR/\Q .normal (mark h.size a) (nX h2 (h.size+1) oX))\/Lx (h.size+1) oJ oXJ Q (mark h.size a) h2 (uj y)) (fun c h2=>Q (.panic c) (mark h.size a) h2)
   | false=>False)
  | none=>False)
 | _,_,_,_,_=>False
def FR:Option Nat->Fence
 | none=>Fence.wide
 | some l=>Fence.wide.inRound l
section
variable {P:Program} {ops:Array Oper} {Q:Exit->Act->World->Prop} {r:Nat}
theorem FL {o:Oper} {a:Act} {w:World} {next:Act->World->Prop} (hd:∀ c,o.op ≠ .defer c) (h:o.wpIn Fence.wide 0 P a w next Q):o.wpIn (Fence.wide.inRound r) 0 P a w next Q:=by
 refine ⟨fun _ _=>trivial,?_⟩
 have h:=h.2
 have e1:o.semAt Fence.wide.round a.eval=execOp a.eval o:=Oper.semAt_none _ _
 have e2:o.semAt (Fence.wide.inRound r).round a.eval=execOp a.eval o:=Oper.semAt_eq _ _ _ hd
 rw [e1] at h
 rw [e2]
 exact h
theorem RL {ops:Array Oper} (h:OB ops=true) {o:Oper} (ho:o∈ops.toList):∀ c,o.op ≠ .defer c:=fun c e=>by
 have:=List.all_eq_true.1 h o ho
 rw [e] at this
 cases this
theorem list_round:∀ (l:List Oper) (a:Act) (w:World),(∀ o∈l,∀ c,o.op ≠ .defer c)->wpListIn Fence.wide 0 P ops Q l a w->wpListIn (Fence.wide.inRound r) 0 P ops Q l a w
 | [],a,w,_,h=>h
 | o::rest,a,w,hd,h=>by
  unfold wpListIn at h ⊢
  by_cases hw:Region.wanted o (yielded ops a.tmps)=true
  ·rw [if_pos hw] at h ⊢
   exact Oper.wpIn_mono (fun a' w' h'=>list_round rest a' w' (fun o ho=>hd o (gK _ ho)) h') (FL (hd o (jc ..)) h)
  ·rw [if_neg hw] at h ⊢
   exact ⟨fun _ _=>trivial,list_round rest _ w (fun o ho=>hd o (gK _ ho)) h.2⟩
theorem Ox {i:Nat} {a:Act} {w:World} {K:Act->World->Prop} (hd:∀ o∈ops.toList,∀ c,o.op ≠ .defer c) (h:wpOpIn Fence.wide 0 P ops Q i K a w):wpOpIn (Fence.wide.inRound r) 0 P ops Q i K a w:=by
 unfold wpOpIn at h ⊢
 cases ho:ops[i]? with
 | none=>simp only [ho] at h ⊢; exact h
 | some o =>
  simp only [ho] at h ⊢
  have hm:o∈ops.toList:=by have:=oQ ho; simpa using this
  by_cases hw:Region.wanted o (yielded ops a.tmps)=true
  ·rw [if_pos hw] at h ⊢
   exact FL (hd o hm) h
  ·rw [if_neg hw] at h ⊢
   exact ⟨fun _ _=>trivial,h.2⟩
theorem HU {md:Region.Mode} (hd:∀ o∈ops.toList,∀ c,o.op ≠ .defer c):∀ (fuel:Nat) (listed:Array Bool) (a:Act) (w:World),wpAnyIn Fence.wide 0 P md ops Q fuel listed a w->wpAnyIn (Fence.wide.inRound r) 0 P md ops Q fuel listed a w
 | 0,_,_,_,h=>h
 | fuel+1,_,_,_,h=>⟨h.1,fun i hi=>wpOpIn_mono (fun a' w' h'=>HU hd fuel _ a' w' h') (Ox hd (h.2 i hi))⟩
end
section
variable {P:Program} {H:HintsY} {F:Fence} {n:Nat}
theorem H0 {c:Code} {Q:Exit->Act->World->Prop} {a:Act} {w:World} (I:Nat->Act->World->Prop) (h₀:∃ n,I n a w)
  (round:∀ m a w,I m a w->c.wpIn F n P (Exit.then (fun a' w'=>∃ m',m'<m/\I m' a' w') Q) a w):(Code.loop c).wpIn F n P Q a w:=by
 classical
 let μ:Act->World->Nat:=fun a w=>if h:∃ n,I n a w then Classical.choose (least h) else 0
 refine wpIn_loop (fun a w=>∃ n,I n a w) μ h₀ fun a w hI=>?_
 have hs:=Classical.choose_spec (least hI)
 refine wpIn_mono (round _ a w hs.1) fun e a' w' h=>?_
 cases e with
 | normal =>
  obtain ⟨m,hlt,hm⟩:=h
  refine ⟨⟨m,hm⟩,?_⟩
  have h1:μ a' w'=Classical.choose (least ⟨m,hm⟩):=dif_pos ⟨m,hm⟩
  have h2:μ a w=Classical.choose (least hI):=dif_pos hI
  rw [h1,h2]
  exact ir ((Classical.choose_spec (least ⟨m,hm⟩)).2 m hm) hlt
 | _=>exact h
theorem Q4 {t:CT} {p:Value->Prop} (h:∀ v,p v):Q5 t p:=by
 cases t <;> first
  | exact fun x=>h _
  | exact fun q n c=>h _
theorem Kv:∀ {ts:List CT} {q:List Value->Prop},(∀ vs,vs.length=ts.length->q vs)->PQ ts q
 | [],q,h=>h [] rfl
 | t::ts,q,h=>Q4 fun v=>Kv fun vs hl=>h (v::vs) (by simp [hl])
theorem Hf:∀ (ps:List Tmp) (vs:List Value) (a:Act),FE ps vs a = { a with tmps:=(ps.zip vs).foldl (fun t (p,v)=>t.setIfInBounds p v) a.tmps }
 | [],vs,a=>by simp [FE]
 | p::ps,[],a=>by simp [FE]
 | p::ps,v::vs,a=>by
  rw [FE,Hf ps vs]
  rfl
theorem Ev {l:Nat} {oJ oXJ:Nat->Obj} {Q:j6} {a:Act} {h:Heap}:∀ {js:List Nat},Lx l oJ oXJ Q a h js->∃ k,kr h l (oJ k)/\Q (J4 k) a (nX h l (oXJ k))
 | k::js,H=>by
  rcases H with H | H
  ·exact ⟨k,H⟩
  ·exact Ev H
theorem Lh (hm:P.follows .mixedOrders=true):∀ (c:Code) (ro:Option Nat) (w₀:World) (Q:j6) (a:Act) (w:World),keeps w₀ w->lH H.keep Q->yL P (kW P) (nO P) H ro.isNone c Q a w.heap ->
  c.wpIn (FR ro) 0 P (LW w₀ c a Q) a w:=by
 have hC:=sd P
 intro c
 induction c with
 | skip=>intro ro w₀ Q a w hk hp h; exact wpIn_skip ⟨hk,fun W _=>jO.refl W a,h⟩
 | region id ops draw =>
  intro ro w₀ Q a w hk hp h
  simp only [yL] at h
  split at h
  ·rename_i hok
   have hdef:∀ l,ro=some l->∀ o∈ops.toList,∀ c,o.op ≠ .defer c:=fun l hl o ho=>by
    rw [hl] at hok
    exact RL (by simpa using hok) ho
   split at h
   ·have h1:=Fs hC w₀ _ ops.toList a w _ hk h (fun _ _ _ _ h=>h) (fun a' hf W hW=>hf W hW)
    refine wpIn_region_list ?_
    cases ro with
    | none=>exact h1
    | some l=>exact list_round _ _ _ (hdef l rfl) h1
   ·split at h
    ·rename_i bars p hpl
     split at h
     ·rename_i hc
      simp only [AJ,OA,gH] at hc
      obtain ⟨hc,hav⟩:=hc
      refine wpIn_region_any hm ?_
      obtain ⟨ro',h⟩:=FQ h
      have h1:=vE _ _ _ _ ((Ju ro' hC hp hav w₀ a _ hc.1 (fun a' hf W hW=>hf W hW) (Fj p) _ bars _ a { w with drawn:=w.drawn+1 } (mH.start _) ⟨hk.1,hk.2.1,hk.2.2⟩ (fun W _=>jO.refl W a) h).1 hc.2)
      cases ro with
      | none=>exact h1
      | some l=>exact HU (hdef l rfl) _ _ _ _ h1
     ·exact h.elim
    ·exact h.elim
  ·exact h.elim
 | seq x y ihx ihy =>
  intro ro w₀ Q a w hk hp h
  have hseq:∀ a1 w1,frC x a a1->keeps w₀ w1->yL P (kW P) (nO P) H ro.isNone y Q a1 w1.heap->y.wpIn (FR ro) 0 P (LW w₀ (.seq x y) a Q) a1 w1:=fun a1 w1 hf hk1 h1=>by
   refine wpIn_mono (ihy ro w₀ Q a1 w1 hk1 hp h1) fun e a' w' h2=>?_
   have hfr:frC y a1 a'->frC (.seq x y) a a':=fun hf2 W hW=>by
    simp only [okW,gH] at hW
    exact (hf W hW.1).trans (hf2 W hW.2)
   cases e <;> first | exact h2 | exact ⟨h2.1,hfr h2.2.1,h2.2.2⟩
  have hfx:∀ a',frC x a a'->frC (.seq x y) a a':=fun a' hf W hW=>by
   simp only [okW,gH] at hW
   exact hf W hW.1
  simp only [yL] at h
  split at h
  ·refine wpIn_seq (wpIn_mono (ihx ro w₀ _ a w hk (hp.Ip _) h) fun e a1 w1 h1=>?_)
   cases e with
   | normal=>exact hseq a1 w1 h1.2.1 h1.1 h1.2.2
   | panic c=>exact h1
   | outgrown=>exact h1
   | exit id=>exact ⟨h1.1,hfx _ h1.2.1,h1.2.2⟩
   | goto l=>exact ⟨h1.1,hfx _ h1.2.1,h1.2.2⟩
   | ret=>exact ⟨h1.1,hfx _ h1.2.1,h1.2.2⟩
  ·rename_i S W hj
   split at h
   ·rename_i hok
    simp only [gH] at hok
    obtain ⟨K,h1,h2⟩:=h
    refine wpIn_seq (wpIn_mono (ihx ro w₀ _ a w hk (hp.JN S K) h1) fun e a1 w1 h1=>?_)
    cases e with
    | normal =>
     obtain ⟨ht,hK⟩:=qw h1.2.2
     have h3:=vl (h2 w1.heap (fun i=>a1.tmps.getD i undef)) ht hK
     rw [<- rY (h1.2.1 W hok.1)] at h3
     exact hseq a1 w1 h1.2.1 h1.1 h3
    | panic c=>exact h1
    | outgrown=>exact h1
    | exit id=>exact ⟨h1.1,hfx _ h1.2.1,h1.2.2⟩
    | goto l=>exact ⟨h1.1,hfx _ h1.2.1,h1.2.2⟩
    | ret=>exact ⟨h1.1,hfx _ h1.2.1,h1.2.2⟩
   ·exact h.elim
 | cond c x y ihx ihy =>
  intro ro w₀ Q a w hk hp h
  simp only [yL] at h
  split at h
  ·rename_i b hb
   unfold fI at h
   cases b with
   | true =>
    refine wpIn_cond_true hb (wpIn_mono (ihx ro w₀ Q a w hk hp h) fun e a' w' h2=>?_)
    have hfr:frC x a a'->frC (.cond c x y) a a':=fun hf W hW=>by
     simp only [okW,gH] at hW
     exact hf W hW.1
    cases e <;> first | exact h2 | exact ⟨h2.1,hfr h2.2.1,h2.2.2⟩
   | false =>
    refine wpIn_cond_false hb (wpIn_mono (ihy ro w₀ Q a w hk hp h) fun e a' w' h2=>?_)
    have hfr:frC y a a'->frC (.cond c x y) a a':=fun hf W hW=>by
     simp only [okW,gH] at hW
     exact hf W hW.2
    cases e <;> first | exact h2 | exact ⟨h2.1,hfr h2.2.1,h2.2.2⟩
  ·exact h.elim
 | block id c ih =>
  intro ro w₀ Q a w hk hp h
  refine wpIn_block (wpIn_mono (ih ro w₀ _ a w hk (hp.Ab id) h) fun e a' w' h2=>?_)
  cases e with
  | exit id' =>
   obtain ⟨h1,h3,h4⟩:=h2
   simp only [Ab] at h4
   simp only [Exit.inBlock]
   split at h4
   ·rename_i hb
    rw [if_pos (iS hb)]
    exact ⟨h1,h3,h4⟩
   ·rename_i hb
    rw [if_neg (fun e=>by subst e; rw [Nat.beq_refl] at hb; cases hb)]
    exact ⟨h1,h3,h4⟩
  | normal=>exact h2
  | goto l=>exact h2
  | ret=>exact h2
  | panic c=>exact h2
  | outgrown=>exact h2
 | loop c ih =>
  intro ro w₀ Q a w hk hp h
  simp only [yL] at h
  split at h
  ·exact h.elim
  ·rename_i S W hj
   split at h
   ·rename_i hok
    simp only [gH] at hok
    obtain ⟨J,⟨n,h0⟩,hround⟩:=h
    obtain ⟨ht,hJ⟩:=qw h0
    refine H0 (fun n a' w'=>keeps w₀ w'/\frC c a a'/\∃ vs u,Fc S vs=true/\a'=patch a S vs W u/\J n vs w'.heap)
     ⟨n,hk,fun W' _=>jO.refl W' a,qE S a,(fun i=>a.tmps.getD i undef),ht,rY (jO.refl W a),hJ⟩ ?_
    rintro n a' w' ⟨hk',hf',vs,u,htv,rfl,hJn⟩
    have h1:=vl (hround n w'.heap u) htv hJn
    refine wpIn_mono (ih ro w₀ _ _ w' hk' (hp.JG S J n) h1) fun e a'' w'' h2=>?_
    have hfr:frC c (patch a S vs W u) a''->frC c a a'':=fun hf2 W' hW=>(hf' W' hW).trans (hf2 W' hW)
    cases e with
    | normal =>
     obtain ⟨h3,h4,m,hlt,h5⟩:=h2
     obtain ⟨ht2,hJ2⟩:=qw h5
     exact ⟨m,hlt,h3,hfr h4,qE S a'',(fun i=>a''.tmps.getD i undef),ht2,rY (hfr h4 W hok.1),hJ2⟩
    | panic c=>exact h2
    | outgrown=>exact h2
    | exit id=>exact ⟨h2.1,hfr h2.2.1,h2.2.2⟩
    | goto l=>exact ⟨h2.1,hfr h2.2.1,h2.2.2⟩
    | ret=>exact ⟨h2.1,hfr h2.2.1,h2.2.2⟩
   ·exact h.elim
 | rangeFunc g ps x y ihx ihy =>
  intro ro w₀ Q a w hk hp h
  cases ro with
  | some l=>exact h.elim
  | none =>
   simp only [Option.isNone_none,yL] at h
   split at h
   ·rename_i ts hts
    split at h
    ·rename_i hlen
     have hlen:=iS hlen
     obtain ⟨gf,lb,hg,h⟩:=Nn h
     refine wpIn_rangeFunc fun fn hfn=>?_
     obtain ⟨rec,hrec⟩:∃ rec:LoopState->Option Code->Loop,rec=fun st pe=>{ state:=st,pending:=pe,fn,tmps:=a.tmps,params:=ps,assign:=x,body:=y,defers:=w.heap.size }:=⟨_,rfl⟩
     obtain ⟨W1,hW1⟩:∃ W1,(w.alloc (.deferred (some []))).alloc (.loop (rec .ready none))=W1:=⟨_,rfl⟩
     have hh1:W1.heap=(w.heap.push (.deferred (some []))).push (.loop (rec .ready none)):=by rw [<- hW1]; rfl
     have hk1:keeps w W1:=by rw [<- hW1]; exact keeps.refl w
     have H1:=h (.loop (rec .ready none)) (.loop (rec .busy none)) (.loop (rec .exhausted none)) (fun k => .loop (rec .done (some (qy k)))) (fun k => .loop (rec .exhausted (some (qy k)))) ?_
     ·rw [<- hh1] at H1
      obtain ⟨fn',h1,h2,h3⟩:=H1.1
      have hargs:(.func (.yield (w.heap.size+1)) #[] #[]::lb.toList).toArray=#[.func (.yield (w.heap.size+1)) #[] #[]]++lb:=by apply Array.toList_inj.1; simp
      rw [hargs] at H1
      refine ⟨w.heap.size+1,[{ target := .collected w.heap.size,args:=#[] }],W1,{ target := .fn (.func gf) lb,args:=#[.func (.yield (w.heap.size+1)) #[] #[]] },W1,gf,
       #[.func (.yield (w.heap.size+1)) #[] #[]]++lb,W1,?_,?_,fun _ _=>trivial,?_,fun hh=>by simp [FR,Fence.wide] at hh,?_⟩
      ·rw [<- hW1,hrec]; exact run_enterLoop_outer _ _ _ _ _
      ·simp only [resolve,hg]
       simp [go_sem]
      ·unfold invoke callFunc
       simp only [Sem.run_bind,run_program,Result.andThen,h1,h2,h3,j9,if_false,Sem.run_pure]
      ·refine (callsIn_wide.2 (H1.2 W1 rfl)).mono fun e w3 he=>?_
       obtain ⟨hk3,he⟩:=he
       have hk3:=hk.trans (hk1.trans hk3)
       cases e with
       | outgrown=>exact he.elim
       | panicked c=>exact ⟨hk3,he⟩
       | returned v =>
        rcases he with ⟨hl,hq⟩ | hq
        ·refine ⟨none,w3.putObj (w.heap.size+1) (.loop (rec .exhausted none)),?_,?_⟩
         ·have:=run_endLoop (P:=P) hl (by rw [hrec]; simp)
          rw [hrec] at this ⊢
          exact this
         ·exact ⟨hk3,(fun W hW=>by cases hW),hq⟩
        ·obtain ⟨k,hl,hq⟩:=Ev hq
         refine ⟨some (qy k),w3.putObj (w.heap.size+1) (.loop (rec .exhausted (some (qy k)))),?_,?_⟩
         ·have:=run_endLoop (P:=P) hl (by rw [hrec]; simp)
          rw [hrec] at this ⊢
          exact this
         ·have hq:Q (J4 k) (mark w.heap.size a) (w3.putObj (w.heap.size+1) (.loop (rec .exhausted (some (qy k))))).heap:=hq
          generalize w3.putObj (w.heap.size+1) (.loop (rec .exhausted (some (qy k))))=w4,hw4:w3.putObj (w.heap.size+1) (.loop (rec .exhausted (some (qy k))))=w4 at hq ⊢
          have hk4:keeps w₀ w4:=by rw [<- hw4]; exact hk3
          unfold J4 at hq
          unfold qy
          split at hq
          ·exact wpIn_ret ⟨hk4,(fun W hW=>by cases hW),hq⟩
          ·split at hq
           ·rename_i hb
            simp only [hb]
            exact wpIn_exit ⟨hk4,(fun W hW=>by cases hW),hq⟩
           ·rename_i hb
            simp only [hb]
            exact wpIn_goto ⟨hk4,(fun W hW=>by cases hW),hq⟩
     ·intro h' K hready
      refine Kv fun vs hvl hd w' hw'=>?_
      subst hw'
      have hsz:vs.toArray.size=(rec .ready none).params.size:=by
       rw [hrec]
       simp only [List.size_toArray,hvl]
       simpa using hlen
      have hy:=run_yield (P:=P) (args:=vs.toArray) hready hsz
      refine ⟨_,_,_,_,hy,roundIn_of_wpIn trivial ?_⟩
      have hact:({ tmps:=((rec .ready none).params.zip vs.toArray).foldl (fun tmps (t,a)=>tmps.setIfInBounds t a) (rec .ready none).tmps,defers:=[] }:Act)=FE ps.toList vs { a with defers:=[] }:=by
       rw [Hf,hrec]
       congr 1
       rw [<- Array.foldl_toList]
       simp
      rw [hact]
      have hx:=ihx (some (w.heap.size+1)) w' _ _ w' (keeps.refl w') (fun c a d v h _ hh=>hh.elim) hd
      rw [show (rec .ready none).assign=x by rw [hrec]]
      refine wpIn_mono hx fun e a1 w1 h1=>?_
      cases e with
      | normal =>
       obtain ⟨k1,_,hl1,hb⟩:=h1
       refine ⟨w1.putObj (w.heap.size+1) (.loop (rec .busy none)),?_,?_⟩
       ·have:=run_beginRound (P:=P) hl1 (by rw [hrec])
        rw [hrec] at this ⊢
        exact this
       ·rw [show (rec .ready none).body=y by rw [hrec]]
        refine wpIn_mono (ihy (some (w.heap.size+1)) w' _ a1 (w1.putObj (w.heap.size+1) (.loop (rec .busy none))) k1 (fun c a d v h _ hh=>hh.elim) hb) fun e a2 w2 h2=>?_
        have out:∀ e,JM e≠none->keeps w' w2/\KM (w.heap.size+1) (.loop (rec .ready none)) (.loop (rec .busy none)) (fun k => .loop (rec .done (some (qy k)))) (uj y) K e a2 w2.heap->∃ k,JM e=some k /\
          (Instr.endRound (w.heap.size+1) (some (qy k))).run P w2 = .ok (.bool false) (w2.putObj (w.heap.size+1) (.loop (rec .done (some (qy k)))))/\keeps w' (w2.putObj (w.heap.size+1) (.loop (rec .done (some (qy k))))) /\
          K (.bool false) (w2.putObj (w.heap.size+1) (.loop (rec .done (some (qy k))))).heap:=fun e hne he=>by
         obtain ⟨k2,he⟩:=he
         cases hke:JM e with
         | none=>exact absurd hke hne
         | some k =>
          have he':kr w2.heap (w.heap.size+1) (.loop (rec .busy none))/\K (.bool false) (nX w2.heap (w.heap.size+1) (.loop (rec .done (some (qy k))))):=by
           cases e <;> simp only [KM,hke] at he <;> first
            | (cases hke; done)
            | (split at he
               ·exact he
               ·exact he.elim)
          refine ⟨k,rfl,?_,k2,he'.2⟩
          have:=run_endRound (P:=P) (some (qy k)) he'.1
          rw [hrec] at this ⊢
          exact this
        cases e with
        | normal =>
         obtain ⟨k2,_,hl2,hK⟩:=h2
         refine ⟨.bool true,w2.putObj (w.heap.size+1) (.loop (rec .ready none)),?_,k2,_,rfl,hK⟩
         have:=run_endRound (P:=P) none hl2
         rw [hrec] at this ⊢
         exact this
        | ret =>
         obtain ⟨k,hk',h3,h4,h5⟩:=out .ret (by simp [JM]) ⟨h2.1,h2.2.2⟩
         obtain rfl:=ig hk'
         exact ⟨.bool false,_,h3,h4,_,rfl,h5⟩
        | exit id =>
         obtain ⟨k,hk',h3,h4,h5⟩:=out (.exit id) (by simp [JM]) ⟨h2.1,h2.2.2⟩
         have hc:qy k = .exit id:=by
          rcases (Hy hk').2 with ⟨e1,_⟩ | ⟨id',e1,e2⟩ | ⟨t',e1,_⟩
          ·cases e1
          ·rw [e2]; cases e1; rfl
          ·cases e1
         rw [hc] at h3 h4 h5
         exact ⟨.bool false,_,h3,h4,_,rfl,h5⟩
        | goto t =>
         obtain ⟨k,hk',h3,h4,h5⟩:=out (.goto t) (by simp [JM]) ⟨h2.1,h2.2.2⟩
         have hc:qy k = .goto t:=by
          rcases (Hy hk').2 with ⟨e1,_⟩ | ⟨id',e1,e2⟩ | ⟨t',e1,e2⟩
          ·cases e1
          ·cases e1
          ·rw [e2]; cases e1; rfl
         rw [hc] at h3 h4 h5
         exact ⟨.bool false,_,h3,h4,_,rfl,h5⟩
        | panic c=>exact h2.2.elim
        | outgrown=>exact h2.elim
      | panic c=>exact h1.2.elim
      | outgrown=>exact h1.elim
      | ret=>exact h1.2.2.elim
      | exit id=>exact h1.2.2.elim
      | goto t=>exact h1.2.2.elim
    ·exact h.elim
   ·exact h.elim
 | exit id=>intro ro w₀ Q a w hk hp h; exact wpIn_exit ⟨hk,fun W _=>jO.refl W a,h⟩
 | scope c ih=>intro ro w₀ Q a w hk hp h; cases ro <;> exact h.elim
 | label l=>intro ro w₀ Q a w hk hp h; exact wpIn_label ⟨hk,fun W _=>jO.refl W a,h⟩
 | goto l=>intro ro w₀ Q a w hk hp h; exact wpIn_goto ⟨hk,fun W _=>jO.refl W a,h⟩
 | ret=>intro ro w₀ Q a w hk hp h; exact wpIn_ret ⟨hk,fun W _=>jO.refl W a,h⟩
 | refuse why=>intro ro w₀ Q a w hk hp h; cases ro <;> exact h.elim
end
def Pe (Res:Heap->Prop) (ds:List Deferred) (h:Heap):Prop:=match ds with
 | []=>Res h
 | [d]=>(match d.target with
  | .collected D=>kr h D (.deferred (some []))/\Res (nX h D (.deferred none))
  | _=>False)
 | _=>False
def R5 (P:Program) (rs:List ResultVar) (K:VK) (Kp:PK):j6:=fun e a h=>match e with
 | .normal=>Pe (fun h'=>tz P a h' rs fun vs=>K (AM vs) h') a.defers h
 | .ret=>Pe (fun h'=>tz P a h' rs fun vs=>K (AM vs) h') a.defers h
 | .panic c=>Pe (fun h'=>Kp c h') a.defers h
 | _=>False
def fnY (P:Program) (C:gl) (Y:YP) (H:HintsY) (fn:Func) (args:List Value) (h:Heap) (K:VK) (Kp:PK):Prop :=
 match fn.body with
 | some c=>yL P C Y H true c (R5 P fn.results.toList K Kp) ⟨(args++List.replicate (fn.ntmps-args.length) undef).toArray,[]⟩ h
 | none=>False
section
variable {P:Program}
theorem Lc (rs:List ResultVar) (K:VK) (Kp:PK) (R:List Tmp):lH R (R5 P rs K Kp):=fun c a d v h _ hh=>by
 simp only [R5,put_defers] at hh ⊢
 exact hh
theorem zE {fn:Func} {tmps:Array Value} {R:Ending->World->Prop} {Res:Heap->Prop} {ds:List Deferred} {w w0:World} {u:FrameMode} (hu:u ≠ .run) (hk:keeps w0 w) (H:Pe Res ds w.heap)
  (hR:∀ w',keeps w0 w'->Res w'.heap->LeavesIn Fence.wide 0 P fn tmps R [] u w'):LeavesInM Fence.wide 0 P fn tmps R ds u w:=by
 unfold Pe at H
 split at H
 ·exact hR w hk H
 ·rename_i d
  split at H
  ·rename_i D hd
   refine ⟨hu, .inl ⟨D,w.putObj D (.deferred none),hd,run_takeDeferred H.1,hR _ hk H.2⟩⟩
  ·exact H.elim
 ·exact H.elim
theorem Es {f:FuncId} {fn:Func} {args:List Value} {h:Heap} {K:VK} {Kp:PK} (Hn:HintsY) (hm:P.follows .mixedOrders=true)
  (hf:P.funcs[f]? = some fn) (hn:(fn.name == "runtime.NumGoroutine")=false) (H:fnY P (kW P) (nO P) Hn fn args h K Kp):kW P f args.toArray h K Kp:=by
 unfold fnY at H
 split at H
 ·rename_i c hb
  refine ⟨⟨fn,hf,hn,by rw [hb]; rfl⟩,fun w hw=>?_⟩
  subst hw
  refine callsIn_wide.1 (callsIn_of_wp_marks (n:=0) hf hb trivial ?_)
  have hact:(⟨args.toArray++Array.replicate (fn.ntmps-args.toArray.size) undef,[]⟩:Act)=⟨(args++List.replicate (fn.ntmps-args.length) undef).toArray,[]⟩:=by
   congr 1
   apply Array.toList_inj.1
   simp
  rw [hact]
  have h1:=Lh hm c none w _ _ w (keeps.refl w) (Lc _ K Kp _) H
  refine wpIn_mono (F:=Fence.wide) (n:=0) h1 fun e a w' he=>?_
  have res:∀ w'',keeps w w''->tz P a w''.heap fn.results.toList (fun vs=>K (AM vs) w''.heap)->LeavesIn Fence.wide 0 P fn a.tmps (fun e w'=>keeps w w'/\match e with
    | .returned v=>K v w'.heap
    | .panicked c=>Kp c w'.heap
    | .outgrown=>False) [] .returning w'':=fun w'' hk hr=>by
   obtain ⟨v,hv,hkv⟩:=np hr
   exact ⟨v,hv,hk,hkv⟩
  cases e with
  | normal =>
   obtain ⟨h2,_,h3⟩:=he
   exact zE (Res:=fun h'=>tz P a h' fn.results.toList fun vs=>K (AM vs) h') (by simp) h2 h3 res
  | ret =>
   obtain ⟨h2,_,h3⟩:=he
   exact zE (Res:=fun h'=>tz P a h' fn.results.toList fun vs=>K (AM vs) h') (by simp) h2 h3 res
  | panic c =>
   obtain ⟨h2,h3⟩:=he
   exact zE (Res:=fun h'=>Kp c h') (by simp) h2 h3 fun w'' hk hr=>⟨hk,hr⟩
  | outgrown=>exact he.elim
  | exit id=>exact he.2.2.elim
  | goto l=>exact he.2.2.elim
 ·exact H.elim
end
end Go.Den
namespace Go.Den.YtbknfejmdekhpaaGreat
open Go Go.Den
def Da (C:gl) (Y:YP) (c:Option Addr) (base aq:Int) (ar:Bool) (h:Heap) (K:VK) (Kp:PK):Prop :=
gE h [.pointer c] jW fun u au=>
gE au [.int .i64 base] gQ fun M av=>
gE av [.int .i64 aq,.bool ar] iz fun s aw=>
gE aw [.int .i64 0] gR fun d g=>
ldP g (⟨u,0,none⟩:Addr) fun N=>
fI N.isNone (
stV g (⟨d,0,none⟩:Addr) (.int .i64 53) fun v=>
ldI v (⟨d,0,none⟩:Addr) .i64 fun O=>
K (.int .i64 O) v)<|
ldI g (⟨M,0,none⟩:Addr) .i64 fun P=>
ldP g (⟨u,0,none⟩:Addr) fun Q=>
ptr Q fun R=>
C jz #[.pointer (some (R.add 0))] g (fun S w=>
∃ (x:Int),S = .int .i64 x/\(
gi g w/\(
C rk #[.int .i64 P,.int .i64 512,.int .i64 x] w (fun T k=>
∃ (y:Bool),T = .bool y/\(
fI (!y) (
stV k (⟨d,0,none⟩:Addr) (.int .i64 51) fun z=>
ldI z (⟨d,0,none⟩:Addr) .i64 fun U=>
K (.int .i64 U) z)<|
ldI k (.add ⟨s,0,none⟩ 0) .i64 fun V=>
ldB k (.add ⟨s,0,none⟩ 1) fun W=>
C wN #[.agg #[.int .i64 V,.bool W]] k (fun X A=>
∃ (B:Bool),X = .bool B/\(
fI (!B) (
stV A (⟨d,0,none⟩:Addr) (.int .i64 50) fun D=>
ldI D (⟨d,0,none⟩:Addr) .i64 fun Z=>
K (.int .i64 Z) D)<|
gE A [.int .i64 0] gQ fun l aa=>
stV aa (⟨l,0,none⟩:Addr) (.int .i64 1) fun n=>
ldI n (.add ⟨s,0,none⟩ 0) .i64 fun ab=>
ldB n (.add ⟨s,0,none⟩ 1) fun ac=>
C yx #[.agg #[.int .i64 ab,.bool ac]] n (fun ad a=>
∃ (E:Value),ad=E/\(
Pb (E) fun ae J=>
∀ (f b L:Obj) (t j:Nat->Obj),
(∀ (e:Heap) (m:VK),kr e (a.size+1) f->∀ (o:Int),(
kr e (a.size+1) f/\(
ldP (nX e (a.size+1) b) (⟨u,0,none⟩:Addr) fun af=>
ldI (nX e (a.size+1) b) (⟨M,0,none⟩:Addr) .i64 fun ag=>
ldI (nX e (a.size+1) b) (⟨l,0,none⟩:Addr) .i64 fun ah=>
fG (IntKind.i64.wrap (ag+ah)) fun ai=>
C kJ #[.pointer af,.int .i64 ai,.int .i64 o] (nX e (a.size+1) b) (fun aj p=>
∃ (q:Int),aj = .int .i64 q/\(
fI (q != (0:Int)) (
stV p (⟨d,0,none⟩:Addr) (.int .i64 q) fun F=>
kr F (a.size+1) b/\m (.bool false) (nX F (a.size+1) (t 0)))<|
ldI p (⟨l,0,none⟩:Addr) .i64 fun ak=>
C uv #[.int .i64 ak,.int .i64 o] p (fun al am=>
∃ (G:Int),al = .int .i64 G/\(
stV am (⟨l,0,none⟩:Addr) (.int .i64 G) fun H=>
kr H (a.size+1) b/\m (.bool true) (nX H (a.size+1) f))) (fun _ _=>False))) (fun _ _=>False)))->Y (a.size+1) [.int .i64 o] e m) ->
C ae (.func (.yield (a.size+1)) #[] #[]::J).toArray ((a.push (.deferred (some []))).push f) (fun _ i=>(kr i (a.size+1) f/\(
stV (nX i (a.size+1) L) (⟨d,0,none⟩:Addr) (.int .i64 0) fun r=>
kr r a.size (.deferred (some []))/\(
ldI (nX r a.size (.deferred none)) (⟨d,0,none⟩:Addr) .i64 fun an=>
K (.int .i64 an) (nX r a.size (.deferred none)))))\/(kr i (a.size+1) (t 0)/\(
kr (nX i (a.size+1) (j 0)) a.size (.deferred (some []))/\(
ldI (nX (nX i (a.size+1) (j 0)) a.size (.deferred none)) (⟨d,0,none⟩:Addr) .i64 fun ao=>
K (.int .i64 ao) (nX (nX i (a.size+1) (j 0)) a.size (.deferred none)))))\/False) (fun ap I=>kr I a.size (.deferred (some []))/\Kp ap (nX I a.size (.deferred none))))) (Kp))) (Kp))) (Kp)))) (Kp)
def y9 (C:gl) (c:Option Addr) (base width id:Int) (h:Heap) (K:VK) (Kp:PK):Prop :=
fI c.isNone (
K (.int .i64 53) h)<|
ptr c fun u=>
C jz #[.pointer (some (u.add 0))] h (fun v w=>
∃ (n:Int),v = .int .i64 n/\(
C vS #[.int .i64 base,.int .i64 width,.int .i64 n] w (fun x i=>
∃ (j:Int),x = .int .i64 j/\(
fI (j != (0:Int)) (
K (.int .i64 j) i)<|
fI (decide (id<(0:Int))) (
K (.int .i64 50) i)<|
fW (0<=width)<|
fG (l8 .i64 id width) fun y=>
fI (y != (0:Int)) (
K (.int .i64 50) i)<|
fG (IntKind.i64.wrap (width-(1:Int))) fun z=>
∃ d:Nat->List Value->Heap->Prop,(∃ b,d b [.int .i64 1,.int .i64 z] i)/\∀ (b:Nat) (e:Heap) (A:Nat->Value) (f a:Int),d b [.int .i64 f,.int .i64 a] e->(
fI (decide (a≥(0:Int))) (
fW (0<=a)<|
fG (l8 .i64 id a) fun o=>
fG (jo .and .i64 o (1:Int)) fun k=>
fG (IntKind.i64.wrap (base+f)) fun p=>
C kJ #[.pointer c,.int .i64 p,.int .i64 k] e (fun q l=>
∃ (g:Int),q = .int .i64 g/\(
fI (g != (0:Int)) (
K (.int .i64 g) l)<|
fG (IntKind.i64.wrap ((2:Int)*f)) fun r=>
fG (IntKind.i64.wrap (r+k)) fun s=>
fG (IntKind.i64.wrap (a-(1:Int))) fun t=>
∃ m,m<b/\d m [.int .i64 s,.int .i64 t] l)) (Kp))<|
K (.int .i64 0) e))) (Kp))) (Kp)
def Bs (C:gl) (base many all:Int) (h:Heap) (K:VK) (Kp:PK):Prop :=
fI (decide (base≥(0:Int))) (
fG (IntKind.i64.wrap (all-many)) fun z_1=>
K (.bool (decide (base<=z_1))) h)<|
K (.bool false) h
def y8 (C:gl) (c:Int) (d:Bool) (h:Heap) (K:VK) (Kp:PK):Prop :=
gE h [.int .i64 c,.bool d] iz fun b a=>
ldB a (.add ⟨b,0,none⟩ 1) fun e=>
fI e (
K (.bool true) a)<|
ldI a (.add ⟨b,0,none⟩ 0) .i64 fun f=>
fI (decide (f≥(-2147483648:Int))) (
ldI a (.add ⟨b,0,none⟩ 0) .i64 fun g=>
K (.bool (decide (g<=(2147483648:Int)))) a)<|
K (.bool false) a
def Bt (C:gl) (Q:Int) (R:Bool) (h:Heap) (K:VK) (Kp:PK):Prop :=
gE h [.int .i64 Q,.bool R] iz fun f k=>
∃ l:Nat->Prop,(
ldI k (.add ⟨f,0,none⟩ 0) .i64 fun S=>
l ((.add ⟨f,0,none⟩ 0):Addr).block/\(
fG (IntKind.u64.wrap S) fun u=>
(
gE k [.int .i64 0] gQ fun g T=>
gE T [.int .u64 0] gj fun a m=>
stV m (⟨g,0,none⟩:Addr) (.int .i64 0) fun n=>
lZ l m n/\(
stV n (⟨a,0,none⟩:Addr) (.int .u64 u) fun d=>
ldI d (.add ⟨f,0,none⟩ 0) .i64 fun v=>
fI (decide (v<(0:Int))) (
∃ o:Nat->Prop,(
ldI d (⟨a,0,none⟩:Addr) .u64 fun w=>
o ((⟨a,0,none⟩:Addr):Addr).block/\(
fG (IntKind.u64.wrap (0-w)) fun x=>
stV d (⟨g,0,none⟩:Addr) (.int .i64 1) fun p=>
lZ o d p/\(
stV p (⟨a,0,none⟩:Addr) (.int .u64 x) fun i=>
ldB i (.add ⟨f,0,none⟩ 1) fun y=>
fI y (
stV i (⟨g,0,none⟩:Addr) (.int .i64 1) fun z=>
stV z (⟨a,0,none⟩:Addr) (.int .u64 0) fun A=>
K (.func (.func jY) #[] #[.pointer (some ⟨g,0,none⟩),.pointer (some ⟨a,0,none⟩)]) A)<|
K (.func (.func jY) #[] #[.pointer (some ⟨g,0,none⟩),.pointer (some ⟨a,0,none⟩)]) i))))<|
ldB d (.add ⟨f,0,none⟩ 1) fun B=>
fI B (
stV d (⟨g,0,none⟩:Addr) (.int .i64 1) fun D=>
stV D (⟨a,0,none⟩:Addr) (.int .u64 0) fun E=>
K (.func (.func jY) #[] #[.pointer (some ⟨g,0,none⟩),.pointer (some ⟨a,0,none⟩)]) E)<|
K (.func (.func jY) #[] #[.pointer (some ⟨g,0,none⟩),.pointer (some ⟨a,0,none⟩)]) d))/\(
gE k [.int .u64 0] gj fun b F=>
gE F [.int .i64 0] gQ fun c q=>
stV q (⟨c,0,none⟩:Addr) (.int .i64 0) fun r=>
lZ l q r/\(
stV r (⟨b,0,none⟩:Addr) (.int .u64 u) fun e=>
ldI e (.add ⟨f,0,none⟩ 0) .i64 fun G=>
fI (decide (G<(0:Int))) (
∃ s:Nat->Prop,(
ldI e (⟨b,0,none⟩:Addr) .u64 fun H=>
s ((⟨b,0,none⟩:Addr):Addr).block/\(
fG (IntKind.u64.wrap (0-H)) fun I=>
stV e (⟨c,0,none⟩:Addr) (.int .i64 1) fun t=>
lZ s e t/\(
stV t (⟨b,0,none⟩:Addr) (.int .u64 I) fun j=>
ldB j (.add ⟨f,0,none⟩ 1) fun J=>
fI J (
stV j (⟨c,0,none⟩:Addr) (.int .i64 1) fun L=>
stV L (⟨b,0,none⟩:Addr) (.int .u64 0) fun M=>
K (.func (.func jY) #[] #[.pointer (some ⟨c,0,none⟩),.pointer (some ⟨b,0,none⟩)]) M)<|
K (.func (.func jY) #[] #[.pointer (some ⟨c,0,none⟩),.pointer (some ⟨b,0,none⟩)]) j))))<|
ldB e (.add ⟨f,0,none⟩ 1) fun N=>
fI N (
stV e (⟨c,0,none⟩:Addr) (.int .i64 1) fun O=>
stV O (⟨b,0,none⟩:Addr) (.int .u64 0) fun P=>
K (.func (.func jY) #[] #[.pointer (some ⟨c,0,none⟩),.pointer (some ⟨b,0,none⟩)]) P)<|
K (.func (.func jY) #[] #[.pointer (some ⟨c,0,none⟩),.pointer (some ⟨b,0,none⟩)]) e))))
def Br (C:gl) (v bit:Int) (h:Heap) (K:VK) (Kp:PK):Prop :=
fI (decide (v<(256:Int))) (
fG (IntKind.i64.wrap ((2:Int)*v)) fun a=>
fG (IntKind.i64.wrap (a+bit)) fun b=>
K (.int .i64 b) h)<|
fG (IntKind.i64.wrap ((2:Int)*v)) fun c=>
fG (IntKind.i64.wrap (c+bit)) fun d=>
fG (d.tmod (256:Int)) fun e=>
fG (IntKind.i64.wrap (e+(256:Int))) fun f=>
K (.int .i64 f) h
def Db (C:gl) (d:Option Addr) (base:Int) (h:Heap) (K:VK) (Kp:PK):Prop :=
gE h [.int .i64 0,.bool false] iz fun a P=>
fI d.isNone (
stV P (.add ⟨a,0,none⟩ 0) (.int .i64 0) fun aG=>
stV aG (.add ⟨a,0,none⟩ 1) (.bool false) fun D=>
ldI D (.add ⟨a,0,none⟩ 0) .i64 fun aH=>
ldB D (.add ⟨a,0,none⟩ 1) fun aI=>
K (.tuple #[.agg #[.int .i64 aH,.bool aI],.int .i64 53]) D)<|
ptr d fun aJ=>
C jz #[.pointer (some (aJ.add 0))] P (fun aK aL=>
∃ (E:Int),aK = .int .i64 E/\(
C rk #[.int .i64 base,.int .i64 512,.int .i64 E] aL (fun Q F=>
∃ (G:Bool),Q = .bool G/\(
fI (!G) (
stV F (.add ⟨a,0,none⟩ 0) (.int .i64 0) fun R=>
stV R (.add ⟨a,0,none⟩ 1) (.bool false) fun n=>
ldI n (.add ⟨a,0,none⟩ 0) .i64 fun S=>
ldB n (.add ⟨a,0,none⟩ 1) fun T=>
K (.tuple #[.agg #[.int .i64 S,.bool T],.int .i64 51]) n)<|
gE F [.pointer d,.int .i64 base,.int .i64 1,.int .i64 0] mA fun f U=>
C kZ #[.pointer (some ⟨f,0,none⟩)] U (fun V W=>
∃ (o:Int),V = .int .i64 o/\(
C sU #[] W (fun X Y=>
∃ (p:Option Addr) (e O:Nat),X = .slice p e O/\(
∃ q:List Value->Heap->Prop,(
∃ r:Nat->List Value->Heap->Prop,(∃ i,r i [.int .i64 0] Y)/\∀ (i:Nat) (s:Heap) (aM:Nat->Value) (g:Int),r i [.int .i64 g] s->(
fG (IntKind.i64.wrap ((e:Int)-(1:Int))) fun Z=>
fI (decide (g<Z)) (
C kZ #[.pointer (some ⟨f,0,none⟩)] s (fun aa H=>
∃ (I:Int),aa = .int .i64 I/\(
fI (I == (1:Int)) (
fG (IntKind.i64.wrap (g+(1:Int))) fun ab=>
∃ J,J<i/\r J [.int .i64 ab] H)<|
q [.int .i64 g] H)) (Kp))<|
q [.int .i64 g] s))/\∀ (t:Heap) (aN:Nat->Value) (c:Int),q [.int .i64 c] t->(
fW (0<=c/\c<(e:Int))<|
ptr p fun ac=>
ldI t ((ac.add (c.toNat*2)).add 1) .i64 fun ad=>
∃ u:Nat->List Value->Heap->Prop,(∃ j,u j [.int .i64 0,.int .i64 0] t)/\∀ (j:Nat) (b:Heap) (aO:Nat->Value) (v w:Int),u j [.int .i64 v,.int .i64 w] b->(
fI (decide (w<ad)) (
fG (IntKind.i64.wrap ((2:Int)*v)) fun ae=>
C kZ #[.pointer (some ⟨f,0,none⟩)] b (fun af ag=>
∃ (L:Int),af = .int .i64 L/\(
fG (IntKind.i64.wrap (ae+L)) fun ah=>
fG (IntKind.i64.wrap (w+(1:Int))) fun ai=>
∃ M,M<j/\u M [.int .i64 ah,.int .i64 ai] ag)) (Kp))<|
fW (0<=c/\c<(e:Int))<|
ptr p fun aj=>
ldI b ((aj.add (c.toNat*2)).add 0) .u64 fun ak=>
fG (IntKind.i64.wrap ak) fun al=>
fG (IntKind.i64.wrap (v+al)) fun k=>
ldI b (.add ⟨f,0,none⟩ 3) .i64 fun am=>
fI (am != (0:Int)) (
ldI b (.add ⟨f,0,none⟩ 3) .i64 fun an=>
stV b (.add ⟨a,0,none⟩ 0) (.int .i64 0) fun ao=>
stV ao (.add ⟨a,0,none⟩ 1) (.bool false) fun l=>
gi b l/\(
ldI l (.add ⟨a,0,none⟩ 0) .i64 fun ap=>
ldB l (.add ⟨a,0,none⟩ 1) fun aq=>
K (.tuple #[.agg #[.int .i64 ap,.bool aq],.int .i64 an]) l))<|
fI (decide (k > (2147483648:Int))) (
stV b (.add ⟨a,0,none⟩ 0) (.int .i64 0) fun ar=>
stV ar (.add ⟨a,0,none⟩ 1) (.bool false) fun x=>
ldI x (.add ⟨a,0,none⟩ 0) .i64 fun au=>
ldB x (.add ⟨a,0,none⟩ 1) fun av=>
K (.tuple #[.agg #[.int .i64 au,.bool av],.int .i64 50]) x)<|
∃ y:List Value->Heap->Prop,(
fI (o == (1:Int)) (
y [.bool (k == (0:Int))] b)<|
y [.bool false] b)/\∀ (m:Heap) (aP:Nat->Value) (N:Bool),y [.bool N] m->(
fI N (
stV m (.add ⟨a,0,none⟩ 0) (.int .i64 0) fun aw=>
stV aw (.add ⟨a,0,none⟩ 1) (.bool true) fun z=>
ldI z (.add ⟨a,0,none⟩ 0) .i64 fun ax=>
ldB z (.add ⟨a,0,none⟩ 1) fun ay=>
K (.tuple #[.agg #[.int .i64 ax,.bool ay],.int .i64 0]) z)<|
fI (o == (1:Int)) (
fG (IntKind.i64.wrap (0-k)) fun az=>
stV m (.add ⟨a,0,none⟩ 0) (.int .i64 az) fun aA=>
stV aA (.add ⟨a,0,none⟩ 1) (.bool false) fun A=>
ldI A (.add ⟨a,0,none⟩ 0) .i64 fun aB=>
ldB A (.add ⟨a,0,none⟩ 1) fun aC=>
K (.tuple #[.agg #[.int .i64 aB,.bool aC],.int .i64 0]) A)<|
stV m (.add ⟨a,0,none⟩ 0) (.int .i64 k) fun aD=>
stV aD (.add ⟨a,0,none⟩ 1) (.bool false) fun B=>
ldI B (.add ⟨a,0,none⟩ 0) .i64 fun aE=>
ldB B (.add ⟨a,0,none⟩ 1) fun aF=>
K (.tuple #[.agg #[.int .i64 aE,.bool aF],.int .i64 0]) B))))) (Kp))) (Kp))) (Kp))) (Kp)
def zc (C:gl) (d:Option Addr) (base width:Int) (h:Heap) (K:VK) (Kp:PK):Prop :=
fI d.isNone (
K (.tuple #[.int .i64 0,.int .i64 53]) h)<|
ptr d fun v=>
C jz #[.pointer (some (v.add 0))] h (fun w x=>
∃ (l:Int),w = .int .i64 l/\(
C vS #[.int .i64 base,.int .i64 width,.int .i64 l] x (fun y m=>
∃ (g:Int),y = .int .i64 g/\(
fI (g != (0:Int)) (
K (.tuple #[.int .i64 0,.int .i64 g]) m)<|
∃ i:Nat->List Value->Heap->Prop,(∃ a,i a [.int .i64 1,.int .i64 0] m)/\∀ (a:Nat) (c:Heap) (z:Nat->Value) (b e:Int),i a [.int .i64 b,.int .i64 e] c->(
fI (decide (e<width)) (
fG (IntKind.i64.wrap (base+b)) fun o=>
C kG #[.pointer d,.int .i64 o] c (fun p j=>
∃ (k:Int),∃ (f:Int),p = .tuple #[.int .i64 k,.int .i64 f]/\(
fI (f != (0:Int)) (
K (.tuple #[.int .i64 0,.int .i64 f]) j)<|
fG (IntKind.i64.wrap ((2:Int)*b)) fun q=>
fG (IntKind.i64.wrap (q+k)) fun r=>
fG (IntKind.i64.wrap (e+(1:Int))) fun s=>
∃ n,n<a/\i n [.int .i64 r,.int .i64 s] j)) (Kp))<|
fW (0<=width)<|
fG (lT .i64 (1:Int) width) fun t=>
fG (IntKind.i64.wrap (b-t)) fun u=>
K (.tuple #[.int .i64 u,.int .i64 0]) c))) (Kp))) (Kp)
def C9 (C:gl) (base width all:Int) (h:Heap) (K:VK) (Kp:PK):Prop :=
fI (decide (width<(0:Int))) (
K (.int .i64 52) h)<|
fI (decide (width > (12:Int))) (
K (.int .i64 52) h)<|
fW (0<=width)<|
fG (lT .i64 (1:Int) width) fun c=>
C rk #[.int .i64 base,.int .i64 c,.int .i64 all] h (fun d a=>
∃ (b:Bool),d = .bool b/\(
fI (!b) (
K (.int .i64 51) a)<|
K (.int .i64 0) a)) (Kp)
def vX (C:gl) (Y:YP) (yield:Nat) (cap0 cap1:Addr) (h:Heap) (K:VK) (Kp:PK):Prop :=
ldI h cap0 .i64 fun aa=>
Y yield [.int .i64 aa] h fun ab A=>
∃ (B:Bool),ab = .bool B/\(
fI (!B) (
K (.tuple #[]) A)<|
C sU #[] A (fun ac ad=>
∃ (p:Option Addr) (b D:Nat),ac = .slice p b D/\(
fG (IntKind.i64.wrap ((b:Int)-(1:Int))) fun ae=>
∃ q:Nat->List Value->Heap->Prop,(∃ f,q f [.int .i64 ae] ad)/\∀ (f:Nat) (c:Heap) (af:Nat->Value) (a:Int),q f [.int .i64 a] c->(
fW (0<=a/\a<(b:Int))<|
ptr p fun E=>
ldI c cap1 .u64 fun F=>
ldI c ((E.add (a.toNat*2)).add 0) .u64 fun G=>
fI (decide (F<G)) (
fG (IntKind.i64.wrap (a-(1:Int))) fun H=>
∃ r,r<f/\q r [.int .i64 H] c)<|
∃ k:Nat->List Value->Heap->Prop,(∃ g,k g [.int .i64 0] c)/\∀ (g:Nat) (i:Heap) (ag:Nat->Value) (l:Int),k g [.int .i64 l] i->(
fI (decide (l<a)) (
Y yield [.int .i64 1] i fun I s=>
∃ (t:Bool),I = .bool t/\(
fI (!t) (
K (.tuple #[]) s)<|
fG (IntKind.i64.wrap (l+(1:Int))) fun J=>
∃ u,u<g/\k u [.int .i64 J] s))<|
∃ m:List Value->Heap->Prop,(
fG (IntKind.i64.wrap ((b:Int)-(1:Int))) fun L=>
fI (decide (a<L)) (
Y yield [.int .i64 0] i fun M v=>
∃ (w:Bool),M = .bool w/\(
fI (!w) (
K (.tuple #[]) v)<|
m [] v))<|
m [] i)/\∀ (n:Heap) (ah:Nat->Value) ,m [] n->(
fW (0<=a/\a<(b:Int))<|
ptr p fun N=>
ldI n ((N.add (a.toNat*2)).add 1) .i64 fun O=>
fG (IntKind.i64.wrap (O-(1:Int))) fun P=>
∃ o:Nat->List Value->Heap->Prop,(∃ j,o j [.int .i64 P] n)/\∀ (j:Nat) (d:Heap) (ai:Nat->Value) (e:Int),o j [.int .i64 e] d->(
fI (decide (e≥(0:Int))) (
fW (0<=a/\a<(b:Int))<|
ptr p fun Q=>
ldI d cap1 .u64 fun R=>
ldI d ((Q.add (a.toNat*2)).add 0) .u64 fun S=>
fG (IntKind.u64.wrap (R-S)) fun T=>
fW (0<=e)<|
fG (l8 .u64 T e) fun U=>
fG (IntKind.i64.wrap U) fun V=>
fG (jo .and .i64 V (1:Int)) fun W=>
Y yield [.int .i64 W] d fun X x=>
∃ (y:Bool),X = .bool y/\(
fI (!y) (
K (.tuple #[]) x)<|
fG (IntKind.i64.wrap (e-(1:Int))) fun Z=>
∃ z,z<j/\o z [.int .i64 Z] x))<|
K (.tuple #[]) d)))))) (Kp))
def y7 (C:gl)  (h:Heap) (K:VK) (Kp:PK):Prop :=
gE h [.int .u64 0,.int .i64 2,.int .u64 4,.int .i64 4,.int .u64 20,.int .i64 6,.int .u64 84,.int .i64 8,.int .u64 340,.int .i64 12,.int .u64 4436,.int .i64 32] lv fun a b=>
K (.slice (some ⟨a,0,none⟩) 6 6) b
def rU (C:gl) (g:Option Addr) (h:Heap) (K:VK) (Kp:PK):Prop :=
ptr g fun p=>
ldI h (p.add 3) .i64 fun q=>
fI (q != (0:Int)) (
K (.int .i64 0) h)<|
ptr g fun r=>
ptr g fun s=>
ptr g fun t=>
ldP h (r.add 0) fun u=>
ldI h (s.add 1) .i64 fun v=>
ldI h (t.add 2) .i64 fun w=>
fG (IntKind.i64.wrap (v+w)) fun x=>
C kG #[.pointer u,.int .i64 x] h (fun e f=>
∃ (a:Int),∃ (b:Int),e = .tuple #[.int .i64 a,.int .i64 b]/\(
ptr g fun i=>
stV f (i.add 3) (.int .i64 b) fun c=>
ptr g fun j=>
ldI c (j.add 2) .i64 fun k=>
C uv #[.int .i64 k,.int .i64 a] c (fun l m=>
∃ (d:Int),l = .int .i64 d/\(
ptr g fun n=>
stV m (n.add 2) (.int .i64 d) fun o=>
K (.int .i64 a) o)) (Kp))) (Kp)
noncomputable def yE:HintsY:=HintsY.mk (Hints.mk (fun i=>bif Nat.beq i 3 then some ([5], .take 0 <| .take 1 <| .take 2 <| .take 3 <| .go 4 <| .bar 5 [] <| .take 6 <| .take 7 <| .done) else (none))
 (fun i=>none)
 (fun i=>none) []) (fun i=>bif Nat.beq i 10 then some ([.int .i64]) else (none))
theorem IP (C:gl) (Y:YP) (c:Option Addr) (base:Int) (n_1:Int) (n_2:Bool) (h:Heap) (K:VK) (Kp:PK) :
  fnY Go.Proofs.Tryz.prog C Y yE Go.Proofs.Tryz.f95 [.pointer c,.int .i64 base,.agg #[.int .i64 n_1,.bool n_2]] h K Kp=Da C Y c base n_1 n_2 h K Kp:=by kernel_rfl
theorem Gg {c:Option Addr} {base a:Int} {b:Bool} {h:Heap} {K:VK} {Kp:PK} (H:Da QP (nO Go.Proofs.Tryz.prog) c base a b h K Kp):QP nt #[.pointer c,.int .i64 base,.agg #[.int .i64 a,.bool b]] h K Kp :=
 Es yE (by kernel_rfl) Go.Proofs.Tryz.func95 (by kernel_rfl) (by rw [IP]; exact H)
theorem DK {c:Option Addr} {base width id:Int} {h:Heap} {K:VK} {Kp:PK} (H:y9 QP c base width id h K Kp):QP sV #[.pointer c,.int .i64 base,.int .i64 width,.int .i64 id] h K Kp :=
 fJ (Hints.mk (fun i=>none) (fun i=>bif Nat.beq i 10 then some ([(10,.int .i64),(11,.int .i64)],144115119356394752) else (none)) (fun i=>none) []) (by kernel_rfl) Go.Proofs.Tryz.func141 (by kernel_rfl) (fun C=>y9 C c base width id h K Kp) (fun C=>by kernel_rfl) H
theorem EC {base many all:Int} {h:Heap} {K:VK} {Kp:PK} (H:Bs QP base many all h K Kp):QP rk #[.int .i64 base,.int .i64 many,.int .i64 all] h K Kp :=
 fJ (Hints.mk (fun i=>none) (fun i=>none) (fun i=>none) []) (by kernel_rfl) Go.Proofs.Tryz.func145 (by kernel_rfl) (fun C=>Bs C base many all h K Kp) (fun C=>by kernel_rfl) H
theorem DJ {a:Int} {b:Bool} {h:Heap} {K:VK} {Kp:PK} (H:y8 QP a b h K Kp):QP wN #[.agg #[.int .i64 a,.bool b]] h K Kp :=
 fJ (Hints.mk (fun i=>none) (fun i=>none) (fun i=>none) []) (by kernel_rfl) Go.Proofs.Tryz.func147 (by kernel_rfl) (fun C=>y8 C a b h K Kp) (fun C=>by kernel_rfl) H
theorem ED {a:Int} {b:Bool} {h:Heap} {K:VK} {Kp:PK} (H:Bt QP a b h K Kp):QP yx #[.agg #[.int .i64 a,.bool b]] h K Kp :=
 fJ (Hints.mk (fun i=>bif Nat.beq i 1 then some ([6],.keep <| .take 0 <| .take 1 <| .take 2 <| .alt 3 (.go 4 <| .go 5 <| .bar 6 [] <| .done) <| .go 4 <| .go 3 <| .go 5 <| .bar 6 [] <| .done) else (bif Nat.beq i 3 then some ([3],.keep <| .take 0 <| .take 1 <| .go 2 <| .bar 3 [] <| .done) else (none))) (fun i=>none) (fun i=>none) []) (by kernel_rfl) Go.Proofs.Tryz.func148 (by kernel_rfl) (fun C=>Bt C a b h K Kp) (fun C=>by kernel_rfl) H
theorem EB {v bit:Int} {h:Heap} {K:VK} {Kp:PK} (H:Br QP v bit h K Kp):QP uv #[.int .i64 v,.int .i64 bit] h K Kp :=
 fJ (Hints.mk (fun i=>none) (fun i=>none) (fun i=>none) []) (by kernel_rfl) Go.Proofs.Tryz.func149 (by kernel_rfl) (fun C=>Br C v bit h K Kp) (fun C=>by kernel_rfl) H
theorem Gh {d:Option Addr} {base:Int} {h:Heap} {K:VK} {Kp:PK} (H:Db QP d base h K Kp):QP Ak #[.pointer d,.int .i64 base] h K Kp :=
 fJ (Hints.mk (fun i=>bif Nat.beq i 18 then some ([],.take 0 <| .take 1 <| .take 2 <| .take 3 <| .take 4 <| .go 5 <| .take 6 <| .done) else (none)) (fun i=>bif Nat.beq i 9 then some ([(9,.int .i64)],8793945539072) else (bif Nat.beq i 13 then some ([(10,.int .i64),(48,.int .i64)],71776119061218304) else (none))) (fun i=>bif Nat.beq i 11 then some ([(9,.int .i64)],8793945539072) else (bif Nat.beq i 22 then some ([(79,.bool)],76766789545528952593842176) else (none))) []) (by kernel_rfl) Go.Proofs.Tryz.func167 (by kernel_rfl) (fun C=>Db C d base h K Kp) (fun C=>by kernel_rfl) H
theorem DL {d:Option Addr} {base width:Int} {h:Heap} {K:VK} {Kp:PK} (H:zc QP d base width h K Kp):QP sW #[.pointer d,.int .i64 base,.int .i64 width] h K Kp :=
 fJ (Hints.mk (fun i=>none) (fun i=>bif Nat.beq i 8 then some ([(9,.int .i64),(25,.int .i64)],8796059471552) else (none)) (fun i=>none) []) (by kernel_rfl) Go.Proofs.Tryz.func168 (by kernel_rfl) (fun C=>zc C d base width h K Kp) (fun C=>by kernel_rfl) H
theorem Gf {base width all:Int} {h:Heap} {K:VK} {Kp:PK} (H:C9 QP base width all h K Kp):QP vS #[.int .i64 base,.int .i64 width,.int .i64 all] h K Kp :=
 fJ (Hints.mk (fun i=>none) (fun i=>none) (fun i=>none) []) (by kernel_rfl) Go.Proofs.Tryz.func179 (by kernel_rfl) (fun C=>C9 C base width all h K Kp) (fun C=>by kernel_rfl) H
noncomputable def uc:HintsY:=HintsY.mk (Hints.mk (fun i=>bif Nat.beq i 3 then some ([], .take 1 <| .take 2 <| .take 3 <| .take 4 <| .take 0 <| .take 5 <| .take 6 <| .done) else (bif Nat.beq i 13 then some ([12], .take 0 <| .take 2 <| .take 3 <| .take 4 <| .take 5 <| .take 8 <| .take 1 <| .take 6 <| .take 7 <| .take 9 <| .take 10 <| .take 11 <| .bar 12 [] <| .take 13 <| .done) else (none)))
 (fun i=>bif Nat.beq i 3 then some ([(5,.int .i64)],16744480) else (bif Nat.beq i 6 then some ([(25,.int .i64)],2113929216) else (bif Nat.beq i 11 then some ([(6,.int .i64)],36893347409930747968) else (none))))
 (fun i=>bif Nat.beq i 10 then some ([],2196875771904) else (none)) []) (fun i=>none)
theorem DE (C:gl) (Y:YP) (yield:Nat) (cap0:Addr) (cap1:Addr) (h:Heap) (K:VK) (Kp:PK) :
  fnY Go.Proofs.Tryz.prog C Y uc Go.Proofs.Tryz.f188 [.func (.yield yield) #[] #[],.pointer (some cap0),.pointer (some cap1)] h K Kp=vX C Y yield cap0 cap1 h K Kp:=by kernel_rfl
theorem BR {yield:Nat} {cap0 cap1:Addr} {h:Heap} {K:VK} {Kp:PK} (H:vX QP (nO Go.Proofs.Tryz.prog) yield cap0 cap1 h K Kp):QP jY #[.func (.yield yield) #[] #[],.pointer (some cap0),.pointer (some cap1)] h K Kp :=
 Es uc (by kernel_rfl) Go.Proofs.Tryz.func188 (by kernel_rfl) (by rw [DE]; exact H)
theorem DI  {h:Heap} {K:VK} {Kp:PK} (H:y7 QP  h K Kp):QP sU #[] h K Kp :=
 fJ (Hints.mk (fun i=>none) (fun i=>none) (fun i=>none) []) (by kernel_rfl) Go.Proofs.Tryz.func189 (by kernel_rfl) (fun C=>y7 C  h K Kp) (fun C=>by kernel_rfl) H
theorem yN {g:Option Addr} {h:Heap} {K:VK} {Kp:PK} (H:rU QP g h K Kp):QP kZ #[.pointer g] h K Kp :=
 fJ (Hints.mk (fun i=>bif Nat.beq i 3 then some ([13],.take 0 <| .take 1 <| .take 2 <| .take 4 <| .take 5 <| .take 6 <| .take 8 <| .take 9 <| .take 10 <| .take 3 <| .take 7 <| .take 11 <| .take 12 <| .bar 13 [] <| .take 14 <| .take 15 <| .take 16 <| .take 17 <| .take 18 <| .done) else (none)) (fun i=>none) (fun i=>none) []) (by kernel_rfl) Go.Proofs.Tryz.func194 (by kernel_rfl) (fun C=>rU C g h K Kp) (fun C=>by kernel_rfl) H
end Go.Den.YtbknfejmdekhpaaGreat
namespace Go.Bm
open Go Go.Den Go.Den.YtbknfejmdekhpaaGreat
def ko (k:Nat):Nat:=[0,4,20,84,340,4436].getD k 0
def oS (k:Nat):Nat:=[2,4,6,8,12,32].getD k 0
def wK (m:Nat):Nat:=if m<4 then 0 else if m<20 then 1 else if m<84 then 2 else if m<340 then 3 else if m<4436 then 4 else 5
theorem LH (m:Nat):wK m<=5:=by unfold wK; (repeat' split) <;> omega
theorem Ia (m:Nat):ko (wK m)<=m/\∀ k,k<=5->wK m<k->m<ko k:=by
 have h1:ko 0=0:=rfl
 have h2:ko 1=4:=rfl
 have h3:ko 2=20:=rfl
 have h4:ko 3=84:=rfl
 have h5:ko 4=340:=rfl
 have h6:ko 5=4436:=rfl
 have all:∀ k,k<=5->k=0\/k=1\/k=2\/k=3\/k=4\/k=5:=fun k hk=>by omega
 unfold wK
 split
 ·exact ⟨by omega,fun k hk hl=>by rcases all k hk with rfl | rfl | rfl | rfl | rfl | rfl <;> omega⟩
 ·split
  ·exact ⟨by omega,fun k hk hl=>by rcases all k hk with rfl | rfl | rfl | rfl | rfl | rfl <;> omega⟩
  ·split
   ·exact ⟨by omega,fun k hk hl=>by rcases all k hk with rfl | rfl | rfl | rfl | rfl | rfl <;> omega⟩
   ·split
    ·exact ⟨by omega,fun k hk hl=>by rcases all k hk with rfl | rfl | rfl | rfl | rfl | rfl <;> omega⟩
    ·split
     ·exact ⟨by omega,fun k hk hl=>by rcases all k hk with rfl | rfl | rfl | rfl | rfl | rfl <;> omega⟩
     ·exact ⟨by omega,fun k hk hl=>by omega⟩
def jb (x w:Nat):List Nat:=(List.range w).map fun i=>x / 2 ^ (w-1-i) % 2
theorem lY (x w:Nat):(jb x w).length=w:=by simp [jb]
theorem NU {x w i:Nat} (h:i<w):∃ rest,jb x w=(jb x w).take i++x / 2 ^ (w-1-i) % 2::rest:=by
 refine ⟨(jb x w).drop (i+1),?_⟩
 have hl:i<(jb x w).length:=by rw [lY]; exact h
 have e:x / 2 ^ (w-1-i) % 2=(jb x w)[i]:=by simp [jb]
 rw [e,<- EO hl,iT]
theorem nw {x w i:Nat} (h:i<w):(jb x w).take (i+1)=(jb x w).take i++[x / 2 ^ (w-1-i) % 2]:=by
 have hl:i<(jb x w).length:=by rw [lY]; exact h
 rw [k6 hl]
 simp [jb]
def nr (sg m:Nat):List Nat:=[sg]++List.replicate (wK m) 1++(if wK m<5 then [0] else [])
def mi (sg m:Nat):List Nat:=nr sg m++jb (m-ko (wK m)) (oS (wK m))
def yB:List Value:=[.int .u64 0,.int .i64 2,.int .u64 4,.int .i64 4,.int .u64 20,.int .i64 6,.int .u64 84,.int .i64 8,.int .u64 340,.int .i64 12,.int .u64 4436,.int .i64 32]
theorem Dn {k:Nat} (h:k<=5):yB[k*2]? = some (.int .u64 (ko k:Nat))/\yB[k*2+1]? = some (.int .i64 (oS k:Nat)):=by
 have:k=0\/k=1\/k=2\/k=3\/k=4\/k=5:=by omega
 rcases this with rfl | rfl | rfl | rfl | rfl | rfl <;> exact ⟨rfl,rfl⟩
theorem GU {hB:Heap} {K:VK} {Kp:PK} (hk:∀ r h',Hp hB [] h' [⟨r,true,lv,yB⟩]->K (.slice (at0 r) 6 6) h'):CP sU #[] hB K Kp:=by
 refine DI ?_
 unfold y7
 exact fV (Hp.nil hB []) fun r h H=>hk r h H
theorem RJ {h h':Heap} {l:Nat} {o:Obj} (H:kr h l o) (e:gi h h'):kr h' l o:=by
 have hl:=(Array.getElem?_eq_some_iff.1 H).1
 exact (e.2 l hl).trans H
theorem hpX {h0 h h':Heap} {F:List Nat} {A M M':List Ent} {l:Nat} (H:Hp h0 F h (A++M)) (hw:M.all Ent.w=true) (H':Hp h (l::M.map Ent.b) h' M'):Hp h0 (l::F) h' M':=by
 have old:∀ b,b∈M.map Ent.b->b∈F\/h0.size<=b:=fun b hb=>by
  obtain ⟨e,he,rfl⟩:=List.mem_map.1 hb
  exact H.GH e (fX _ he) (List.all_eq_true.1 hw e he)
 refine ⟨⟨iL H.fr.1 H'.fr.1,fun b hb hF=>?_⟩,H'.bl,fun k e he hew=>?_,H'.nd⟩
 ·have hbl:b≠l:=fun e=>hF (by rw [e]; exact jc ..)
  have hbF:b ∉ F:=fun e=>hF (gK _ e)
  rw [H'.fr.2 b (iK hb H.fr.1) (fun hm=>by
   rcases List.mem_cons.1 hm with hm | hm
   ·exact hbl hm
   ·rcases old b hm with h1 | h1
    ·exact hbF h1
    ·omega)]
  exact H.fr.2 b hb hbF
 ·rcases H'.wr k e he hew with h1 | h1
  ·rcases List.mem_cons.1 h1 with h2 | h2
   ·exact .inl (by rw [h2]; exact jc ..)
   ·rcases old _ h2 with h3 | h3
    ·exact .inl (gK _ h3)
    ·exact .inr h3
  ·exact .inr (iL H.fr.1 h1)
def S8 (Y:YP) (l:Nat) (oR oJ:Obj) (bits:List Nat) (S:List Nat->List Ent->Prop) (Sx:List Ent->Prop):Prop :=
 (∀ pre M,S pre M->M.all Ent.w=true)/\∀ {hA h:Heap} {FF:List Nat} {M:List Ent} {pre rest:List Nat} {b:Nat} {K:VK},bits=pre++b::rest->S pre M->Hp hA FF h M->kr h l oR ->
  (∀ M' h',S (pre++[b]) M'->Hp hA FF h' M'->kr h' l oR->K (.bool true) h')->(∀ M' h',Sx M'->Hp hA (l::FF) h' M'->kr h' l oJ->K (.bool false) h')->Y l [.int .i64 (b:Nat)] h K
abbrev YS:YP:=nO Go.Proofs.Tryz.prog
set_option maxHeartbeats 2000000 in
theorem PB {h0 h:Heap} {FF:List Nat} {M:List Ent} {l sg m:Nat} {oR oJ:Obj} {cap0 cap1:Addr} {S:List Nat->List Ent->Prop} {Sx:List Ent->Prop} (hm:m<4611686018427387904) (H:Hp h0 FF h M) (hS:S [] M) (hl:kr h l oR)
  (hc0:ic h0 cap0=some (.int .i64 (sg:Nat))) (hc1:ic h0 cap1=some (.int .u64 (m:Nat))) (hn0:cap0.block ∉ FF) (hn1:cap1.block ∉ FF) (hY:S8 YS l oR oJ (mi sg m) S Sx) {K:VK} {Kp:PK}
  (hk:∀ M' h',S (mi sg m) M'->Hp h0 FF h' M'->kr h' l oR->K (.tuple #[]) h') (hx:∀ M' h',Sx M'->Hp h0 (l::FF) h' M'->kr h' l oJ->K (.tuple #[]) h') :
  CP jY #[.func (.yield l) #[] #[],.pointer (some cap0),.pointer (some cap1)] h K Kp:=by
 refine BR (cap0:=cap0) (cap1:=cap1) ?_
 unfold vX
 refine fz (H.fr.cell hn0 hc0) ?_
 have hb0:mi sg m=[]++sg::(List.replicate (wK m) 1++(if wK m<5 then [0] else [])++jb (m-ko (wK m)) (oS (wK m))):=by simp [mi,nr]
 refine hY.2 hb0 hS (Hp.mv (A:=[]) H) hl (fun M1 h1 hs1 H1 ho1=>?_) fun M1 h1 hx1 H1 ho1=>⟨_,rfl,gN rfl (hx M1 h1 hx1 (hpX (A:=[]) H (hY.1 _ _ hS) H1) ho1)⟩
 refine ⟨_,rfl,fZ rfl ?_⟩
 replace H:=Hp.pg (A:=[]) H (hY.1 _ _ hS) H1 (hY.1 _ _ hs1)
 clear H1
 rw [gd] at hs1
 refine GU fun r h2 H2=>?_
 have ho2:=RJ ho1 H2.gi
 replace H:=(H.join H2 rfl).rot
 clear H2
 refine ⟨_,_,_,rfl,?_⟩
 have H:Hp h0 FF h2 ([⟨r,true,lv,yB⟩]++M1):=H
 have yld:∀ {h:Heap} {M:List Ent} {pre rest:List Nat} {b:Nat} {K1:VK},Hp h0 FF h ([⟨r,true,lv,yB⟩]++M)->kr h l oR->S pre M->mi sg m=pre++b::rest ->
   (∀ M' h',S (pre++[b]) M'->Hp h0 FF h' ([⟨r,true,lv,yB⟩]++M')->kr h' l oR->K1 (.bool true) h')->(∀ M' h',Sx M'->Hp h0 (l::FF) h' M'->kr h' l oJ->K1 (.bool false) h')->YS l [.int .i64 (b:Nat)] h K1 :=
  fun H ho hs hb h1 h2=>hY.2 hb hs H.mv ho (fun M' h' hs' H' ho'=>h1 M' h' hs' (H.pg (hY.1 _ _ hs) H' (hY.1 _ _ hs')) ho') fun M' h' hx' H' ho'=>h2 M' h' hx' (hpX H (hY.1 _ _ hs) H') ho'
 have hwk:=LH m
 obtain ⟨hw1,hw2⟩:=Ia m
 refine fw (((5:Nat):Int)) (by exact fO _ _ (by omega) (by omega) (by omega)) ?_
 refine ⟨fun n vs h'=>∃ k:Nat,n=k/\wK m<=k/\k<=5/\vs=[.int .i64 (k:Nat)]/\Hp h0 FF h' ([⟨r,true,lv,yB⟩]++M1)/\kr h' l oR,⟨5,5,rfl,hwk,gg _,rfl,H,ho2⟩,?_⟩
 clear H ho2
 rintro n h u xx ⟨k,rfl,hk1,hk2,hxx,H,ho⟩
 injection hxx with hxx
 injection hxx with _ hxx
 subst hxx
 obtain ⟨g0,g1⟩:=Dn hk2
 refine fH (by omega) (gv (a:=⟨r,0,none⟩) ?_)
 rw [fD]
 refine fz (H.fr.cell hn1 hc1) ?_
 refine fz (hpB H 0 rfl (by rw [fN,gr]; exact g0)) ?_
 refine fL (fun h3=>?_) fun h3=>?_
 ·have hlt:wK m<n:=by
   rcases gI (wK m) n with h4 | h4
   ·exact h4
   ·have:wK m=n:=by omega
    rw [this] at hw1
    omega
  refine fw (((n-1:Nat):Int)) (by exact fO _ _ (by omega) (by omega) (by omega)) ?_
  exact ⟨n-1,by omega,n-1,rfl,by omega,by omega,rfl,H,ho⟩
 ·have hkn:wK m=n:=by
   rcases gI (wK m) n with h4 | h4
   ·have:=hw2 n hk2 h4
    omega
   ·omega
  refine ⟨fun n' vs h'=>∃ (x:Nat) (M':List Ent),x+n'=n/\vs=[.int .i64 (x:Nat)]/\S ([sg]++List.replicate x 1) M'/\Hp h0 FF h' ([⟨r,true,lv,yB⟩]++M')/\kr h' l oR,⟨n,0,M1,by omega,rfl,hs1,H,ho⟩,?_⟩
  clear H ho hs1
  rintro n2 h u xx ⟨x,M2,hxn,hxx,hs2,H,ho⟩
  injection hxx with hxx
  injection hxx with _ hxx
  subst hxx
  refine fL (fun h4=>?_) fun h4=>?_
  ·have hb:mi sg m=([sg]++List.replicate x 1)++1::(List.replicate (n-x-1) 1++(if wK m<5 then [0] else [])++jb (m-ko (wK m)) (oS (wK m))):=by
    have e:List.replicate (wK m) 1=List.replicate x 1++1::List.replicate (n-x-1) 1:=by
     rw [<- List.replicate_succ,List.replicate_append_replicate]
     congr 1
     omega
    unfold mi nr
    rw [e]
    simp
   refine yld (b:=1) H ho hs2 hb (fun M3 h5 hs3 H ho=>?_) fun M3 h5 hx3 H ho=>⟨_,rfl,gN rfl (hx M3 h5 hx3 H ho)⟩
   refine ⟨_,rfl,fZ rfl ?_⟩
   refine fw (((x+1:Nat):Int)) (by exact fO _ _ (by omega) (by omega) (by omega)) ?_
   refine ⟨n2-1,by omega,x+1,M3,by omega,rfl,?_,H,ho⟩
   rw [List.replicate_succ',<- fC]
   exact hs3
  ·obtain rfl:x=n:=by omega
   refine ⟨fun vs h'=>vs=[]/\∃ M',S (nr sg m) M'/\Hp h0 FF h' ([⟨r,true,lv,yB⟩]++M')/\kr h' l oR,?_,?_⟩
   ·refine fw (((5:Nat):Int)) (by exact fO _ _ (by omega) (by omega) (by omega)) ?_
    refine fL (fun h6=>?_) fun h6=>?_
    ·have h6:wK m<5:=by omega
     have hb:mi sg m=([sg]++List.replicate x 1)++0::jb (m-ko (wK m)) (oS (wK m)):=by
      unfold mi nr
      rw [if_pos h6,hkn]
      simp
     refine yld (b:=0) H ho hs2 hb (fun M3 h5 hs3 H ho=>?_) fun M3 h5 hx3 H ho=>⟨_,rfl,gN rfl (hx M3 h5 hx3 H ho)⟩
     refine ⟨_,rfl,fZ rfl ⟨rfl,M3,?_,H,ho⟩⟩
     unfold nr
     rw [if_pos h6,hkn]
     exact hs3
    ·refine ⟨rfl,M2,?_,H,ho⟩
     unfold nr
     rw [if_neg (by omega),hkn,fT]
     exact hs2
   ·clear H ho hs2
    rintro h u ⟨_,M2,hs2,H,ho⟩
    refine fH (by omega) (gv (a:=⟨r,0,none⟩) ?_)
    refine fz (hpB H 0 rfl (by rw [fN]; exact g1)) ?_
    rw [hkn] at hw1
    have hwid:2<=oS x/\oS x<=32:=by
     have:x=0\/x=1\/x=2\/x=3\/x=4\/x=5:=by omega
     rcases this with rfl | rfl | rfl | rfl | rfl | rfl <;> decide
    obtain ⟨w,hw⟩:∃ w,w=oS x:=⟨_,rfl⟩
    rw [<- hw] at hwid ⊢
    have hbits:mi sg m=nr sg m++jb (m-ko x) w:=by rw [hw,<- hkn]; rfl
    refine fw (((w:Int)-1)) (by exact i64_in _ (by omega) (by omega)) ?_
    refine ⟨fun n' vs h'=>∃ (i:Nat) (M':List Ent),i+n'=w/\vs=[.int .i64 ((w:Int)-1-(i:Nat))]/\S (nr sg m++(jb (m-ko x) w).take i) M'/\Hp h0 FF h' ([⟨r,true,lv,yB⟩]++M')/\kr h' l oR,⟨w,0,M2,by omega,by simp,by simpa using hs2,H,ho⟩,?_⟩
    clear H ho hs2
    rintro n3 h u xx ⟨i,M3,hin,hxx,hs3,H,ho⟩
    injection hxx with hxx
    injection hxx with _ hxx
    subst hxx
    refine fL (fun h7=>?_) fun h7=>?_
    ·have hi:i<w:=by omega
     refine fH (by omega) (gv (a:=⟨r,0,none⟩) ?_)
     refine fz (H.fr.cell hn1 hc1) ?_
     refine fz (hpB H 0 rfl (by rw [fN,gr]; exact g0)) ?_
     obtain ⟨y,hy⟩:∃ y,y=m-ko x:=⟨_,rfl⟩
     refine fw (((y:Nat):Int)) (by exact zf _ _ (by omega) (by omega) (by omega)) ?_
     refine fH (by omega) ?_
     rw [show (w:Int)-1-(i:Nat)=((w-1-i:Nat):Int) by omega]
     refine fw (((y / 2 ^ (w-1-i):Nat):Int)) (by exact lG (by show _<=64; omega)) ?_
     have hyl:y / 2 ^ (w-1-i)<=y:=kz _ _
     obtain ⟨q,hq⟩:∃ q,q=y / 2 ^ (w-1-i):=⟨_,rfl⟩
     rw [<- hq] at hyl ⊢
     refine fw (((q:Nat):Int)) (by exact i64_in _ (by omega) (by omega)) ?_
     refine fw (((q % 2:Nat):Int)) (by exact (E6 _).trans (by omega)) ?_
     obtain ⟨rest,hrest⟩:=NU (x:=m-ko x) hi
     rw [<- hy] at hrest hs3 hbits
     rw [<- hq] at hrest
     refine yld (b:=q % 2) (rest:=rest) H ho hs3 (by rw [hbits,fC]; exact congrArg (nr sg m++·) hrest) (fun M4 h5 hs4 H ho=>?_) fun M4 h5 hx4 H ho=>⟨_,rfl,gN rfl (hx M4 h5 hx4 H ho)⟩
     refine ⟨_,rfl,fZ rfl ?_⟩
     refine fw (((w:Int)-1-(i+1:Nat))) (by exact fO _ _ (by omega) (by omega) (by omega)) ?_
     refine ⟨n3-1,by omega,i+1,M4,by omega,rfl,?_,H,ho⟩
     rw [nw hi,<- hy,<- hq,<- fC]
     exact hs4
    ·have hi:w=i:=by omega
     subst hi
     refine hk M3 h ?_ (Hp.suf H) ho
     rw [gz (by rw [lY]; exact gg _)] at hs3
     rw [hbits]
     exact hs3
def sgW (v:Int) (none:Bool):Nat:=if none=true then 1 else if v<0 then 1 else 0
def mW (v:Int) (none:Bool):Nat:=match none with
 | true=>0
 | false=>v.natAbs
theorem Mc {h0 h h':Heap} {F:List Nat} {L L':List Ent} {e:Ent} (H:Hp h0 F h L) (H':Hp h0 F h' L') (k k':Nat) (he:L[k]? = some e) (he':L'[k']? = some e) (hs:h.size<=h'.size):lZ (fun b=>b=e.b) h h':=by
 refine ⟨hs,fun b hb hR=>?_⟩
 subst hR
 exact (H'.bl k' e he').trans (H.bl k e he).symm
theorem LK {v:Int} (hv:-9223372036854775808<=v/\v<9223372036854775808) (h:v<0):IntKind.u64.wrap (0-IntKind.u64.wrap v)=((v.natAbs:Nat):Int):=by
 simp [IntKind.wrap,IntKind.bits,IntKind.signed]
 omega
set_option maxHeartbeats 2000000 in
theorem QZ {hB:Heap} {v:Int} {none:Bool} (hv:-9223372036854775808<=v/\v<9223372036854775808) {K:VK} {Kp:PK}
  (hk:∀ rs rm h',Hp hB [] h' [⟨rs,true,gQ,[.int .i64 (sgW v none:Nat)]⟩,⟨rm,true,gj,[.int .u64 (mW v none:Nat)]⟩]->K (.func (.func jY) #[] #[.pointer (some ⟨rs,0,Option.none⟩),.pointer (some ⟨rm,0,Option.none⟩)]) h') :
  CP yx #[.agg #[.int .i64 v,.bool none]] hB K Kp:=by
 refine ED ?_
 unfold Bt
 have H:=Hp.nil hB []
 refine fV H fun r3 h H=>?_
 refine ⟨fun b=>b=r3,?_⟩
 refine fz (hpA H 0 rfl rfl) ⟨by rw [Cd],?_⟩
 refine nU fun z hz=>?_
 subst hz
 refine ⟨?_,?_⟩
 ·refine fV H fun rs h H=>?_
  refine fV H fun rm h H=>?_
  refine gq H 1 rfl (fB rfl) rfl fun h hz H1=>⟨Mc H H1 0 0 rfl rfl (by omega),?_⟩
  replace H:=H1
  clear H1
  refine gq H 2 rfl (fB rfl) rfl fun h hz H=>?_
  refine fz (hpA H 0 rfl rfl) ?_
  refine fL (fun h1=>?_) fun h1=>?_
  ·refine ⟨fun b=>b=rm,?_⟩
   refine fz (H.cell 2 rfl rfl) ⟨rfl,?_⟩
   refine fw (((v.natAbs:Nat):Int)) (by exact LK hv h1) ?_
   refine gq H 1 rfl (fB rfl) rfl fun h hz H1=>⟨Mc H H1 2 2 rfl rfl (by omega),?_⟩
   replace H:=H1
   clear H1
   refine gq H 2 rfl (fB rfl) rfl fun h hz H=>?_
   refine gT (hpA H 0 rfl rfl) ?_
   cases none with
   | true =>
    refine gN rfl ?_
    refine gq H 1 rfl (fB rfl) rfl fun h hz H=>?_
    refine gq H 2 rfl (fB rfl) rfl fun h hz H=>?_
    exact hk rs rm h (H.pick [1,2] (by decide) rfl)
   | false =>
    refine fZ rfl ?_
    have e1:sgW v false=1:=by unfold sgW; rw [if_neg (by simp),if_pos h1]
    have e2:mW v false=v.natAbs:=rfl
    rw [e1,e2] at hk
    exact hk rs rm h (H.pick [1,2] (by decide) rfl)
  ·refine gT (hpA H 0 rfl rfl) ?_
   cases none with
   | true =>
    refine gN rfl ?_
    refine gq H 1 rfl (fB rfl) rfl fun h hz H=>?_
    refine gq H 2 rfl (fB rfl) rfl fun h hz H=>?_
    exact hk rs rm h (H.pick [1,2] (by decide) rfl)
   | false =>
    refine fZ rfl ?_
    have e1:sgW v false=0:=by unfold sgW; rw [if_neg (by simp),if_neg h1]
    have e2:mW v false=v.natAbs:=rfl
    rw [e1,e2] at hk
    have e3:IntKind.u64.wrap v=((v.natAbs:Nat):Int):=zf _ _ (by omega) (by omega) (by omega)
    rw [e3] at H
    exact hk rs rm h (H.pick [1,2] (by decide) rfl)
 ·refine fV H fun rm h H=>?_
  refine fV H fun rs h H=>?_
  refine gq H 2 rfl (fB rfl) rfl fun h hz H1=>⟨Mc H H1 0 0 rfl rfl (by omega),?_⟩
  replace H:=H1
  clear H1
  refine gq H 1 rfl (fB rfl) rfl fun h hz H=>?_
  refine fz (hpA H 0 rfl rfl) ?_
  refine fL (fun h1=>?_) fun h1=>?_
  ·refine ⟨fun b=>b=rm,?_⟩
   refine fz (H.cell 1 rfl rfl) ⟨rfl,?_⟩
   refine fw (((v.natAbs:Nat):Int)) (by exact LK hv h1) ?_
   refine gq H 2 rfl (fB rfl) rfl fun h hz H1=>⟨Mc H H1 1 1 rfl rfl (by omega),?_⟩
   replace H:=H1
   clear H1
   refine gq H 1 rfl (fB rfl) rfl fun h hz H=>?_
   refine gT (hpA H 0 rfl rfl) ?_
   cases none with
   | true =>
    refine gN rfl ?_
    refine gq H 2 rfl (fB rfl) rfl fun h hz H=>?_
    refine gq H 1 rfl (fB rfl) rfl fun h hz H=>?_
    exact hk rs rm h (H.pick [2,1] (by decide) rfl)
   | false =>
    refine fZ rfl ?_
    have e1:sgW v false=1:=by unfold sgW; rw [if_neg (by simp),if_pos h1]
    have e2:mW v false=v.natAbs:=rfl
    rw [e1,e2] at hk
    exact hk rs rm h (H.pick [2,1] (by decide) rfl)
  ·refine gT (hpA H 0 rfl rfl) ?_
   cases none with
   | true =>
    refine gN rfl ?_
    refine gq H 2 rfl (fB rfl) rfl fun h hz H=>?_
    refine gq H 1 rfl (fB rfl) rfl fun h hz H=>?_
    exact hk rs rm h (H.pick [2,1] (by decide) rfl)
   | false =>
    refine fZ rfl ?_
    have e1:sgW v false=0:=by unfold sgW; rw [if_neg (by simp),if_neg h1]
    have e2:mW v false=v.natAbs:=rfl
    rw [e1,e2] at hk
    have e3:IntKind.u64.wrap v=((v.natAbs:Nat):Int):=zf _ _ (by omega) (by omega) (by omega)
    rw [e3] at H
    exact hk rs rm h (H.pick [2,1] (by decide) rfl)
def pd (v:Int) (none:Bool):Prop:=none=true\/-2147483648<=v/\v<=2147483648
theorem Rf {v:Int} {none:Bool} (h:pd v none):mW v none<=2147483648:=by
 unfold mW
 cases none with
 | true=>exact km _
 | false =>
  rcases h with h | h
  ·cases h
  ·show v.natAbs<=_
   omega
section
variable {hB:Heap} {K:VK} {Kp:PK}
theorem My {v:Int} {none:Bool} (hk:∀ (b:Bool) h',(b=true↔pd v none)->gi hB h'->K (.bool b) h'):CP wN #[.agg #[.int .i64 v,.bool none]] hB K Kp:=by
 refine DJ ?_
 unfold y8
 have H:=Hp.nil hB []
 refine fV H fun r3 h H=>?_
 refine gT (hpA H 0 rfl rfl) ?_
 cases none with
 | true=>exact gN rfl (hk true _ (by simp [pd]) H.gi)
 | false =>
  refine fZ rfl ?_
  refine fz (hpA H 0 rfl rfl) ?_
  with_reducible_and_instances refine fL (fun h1=>?_) fun h1=>?_
  ·refine fz (hpA H 0 rfl rfl) ?_
   refine hk _ _ ⟨fun h2 => .inr ⟨by omega,of_decide_eq_true h2⟩,fun h2=>?_⟩ H.gi
   rcases h2 with h2 | h2
   ·cases h2
   ·exact decide_eq_true h2.2
  ·refine hk false _ ⟨(fun h2=>by cases h2),fun h2=>?_⟩ H.gi
   rcases h2 with h2 | h2
   ·cases h2
   ·omega
theorem Fa {base:Int} {many all:Nat} (h1:many<=9223372036854775807) (h2:all<=9223372036854775807) (hk:∀ b:Bool,(b=true↔0<=base/\base+many<=all)->K (.bool b) hB):CP rk #[.int .i64 base,.int .i64 (many:Nat),.int .i64 (all:Nat)] hB K Kp:=by
 refine EC ?_
 unfold Bs
 refine fL (fun h3=>?_) fun h3=>hk false (by simp; omega)
 refine fw (((all:Int)-many)) (by exact i64_in _ (by omega) (by omega)) ?_
 exact hk _ (by simp; omega)
def jL (v b:Nat):Nat:=if v<256 then 2*v+b else (2*v+b) % 256+256
theorem FM {v b:Nat} (hv:v<512) (hb:b<=1):jL v b<512:=by unfold jL; split <;> omega
theorem I6 {v b:Nat} (hv:v<512) (hb:b<=1) (hk:K (.int .i64 (jL v b:Nat)) hB):CP uv #[.int .i64 (v:Nat),.int .i64 (b:Nat)] hB K Kp:=by
 refine EB ?_
 unfold Br
 have hd:(decide ((v:Int)<256))=decide (v<256):=decide_eq_decide.2 (by omega)
 rw [hd]
 by_cases h3:v<256
 ·refine gN (decide_eq_true h3) ?_
  refine fw (((2*v:Nat):Int)) (by exact fO _ _ (by omega) (by omega) (by omega)) ?_
  refine fw (((2*v+b:Nat):Int)) (by exact fO _ _ (by omega) (by omega) (by omega)) ?_
  have e:jL v b=2*v+b:=by unfold jL; rw [if_pos (by omega)]
  rw [e] at hk
  exact hk
 ·refine fZ (decide_eq_false h3) ?_
  refine fw (((2*v:Nat):Int)) (by exact fO _ _ (by omega) (by omega) (by omega)) ?_
  refine fw (((2*v+b:Nat):Int)) (by exact fO _ _ (by omega) (by omega) (by omega)) ?_
  refine fw ((((2*v+b) % 256:Nat):Int)) (by exact kM _ 256) ?_
  have e:jL v b=(2*v+b) % 256+256:=by unfold jL; rw [if_neg (by omega)]
  refine fw (((jL v b:Nat):Int)) (by exact fO _ _ (by omega) (by omega) (by omega)) ?_
  exact hk
end
theorem oT (h:Heap) (l:Nat) (o:Obj):(nX h l o).size=h.size:=by simp [nX]
theorem xQ {h:Heap} {l b:Nat} {o:Obj} (hb:b≠l):(nX h l o)[b]? = h[b]?:=by
 unfold nX
 rw [y1 (Ne.symm hb)]
theorem It {h:Heap} {l:Nat} {o:Obj} (hl:l<h.size):kr (nX h l o) l o:=by
 unfold kr nX
 simp [hl]
theorem zw {h:Heap} {l:Nat} {o:Obj} (H:kr h l o):l<h.size:=(Array.getElem?_eq_some_iff.1 H).1
section
variable {h0 h h':Heap} {F FF:List Nat} {L M M':List Ent} {l:Nat}
theorem O3 (H:Hp h0 F h L) (o:Obj):Hp h0 F (h.push o) L:=by
 have get:∀ b,b<h.size->(h.push o)[b]? = h[b]?:=fun b hb=>by rw [yI hb]; simp [hb]
 refine ⟨⟨by simp; exact Nat.le_succ_of_le H.fr.1,fun b hb hF=>?_⟩,fun k e he=>?_,H.wr,H.nd⟩
 ·rw [get b (iK hb H.fr.1)]
  exact H.fr.2 b hb hF
 ·exact (H.bl k e he).push o
theorem II (H:Hp h0 F h L) (hl:∀ e∈L,e.b≠l) (o:Obj):Hp (nX h l o) (L.map Ent.b) (nX h l o) L:=by
 refine ⟨Fr.refl _ _,fun k e he=>?_,fun k e he _ => .inl (List.mem_map.2 ⟨e,fS he,rfl⟩),H.nd⟩
 have:=H.bl k e he
 unfold Blk at this ⊢
 rw [xQ (hl e (fS he))]
 exact this
theorem Rm (H:Hp h0 F h L) (hl:∀ e∈L,e.b≠l) (h1:h0.size<=l) (o:Obj):Hp h0 F (nX h l o) L:=by
 refine ⟨⟨by rw [oT]; exact H.fr.1,fun b hb hF=>?_⟩,fun k e he=>?_,H.wr,H.nd⟩
 ·rw [xQ (by omega)]
  exact H.fr.2 b hb hF
 ·have:=H.bl k e he
  unfold Blk at this ⊢
  rw [xQ (hl e (fS he))]
  exact this
theorem MS {hA hE:Heap} {oR oB:Obj} (H:Hp hA FF h M) (hw:M.all Ent.w=true) (hl:∀ e∈M,e.b≠l) (ho:kr h l oR) (HE:Hp (nX h l oB) (M.map Ent.b) hE M') (hw':M'.all Ent.w=true) :
  kr hE l oB/\(∀ e∈M',e.b≠l)/\Hp hA FF (nX hE l oR) M'/\kr (nX hE l oR) l oR:=by
 have hlt:=zw ho
 have hlm:l ∉ M.map Ent.b:=fun hm=>by
  obtain ⟨e,he,hb⟩:=List.mem_map.1 hm
  exact hl e he hb
 have hoB:kr hE l oB:=(HE.fr.2 l (by rw [oT]; exact hlt) hlm).trans (It hlt)
 have hne:∀ e∈M',e.b≠l:=fun e he hb=>by
  rcases HE.GH e he (List.all_eq_true.1 hw' e he) with h1 | h1
  ·rw [hb] at h1; exact hlm h1
  ·rw [oT] at h1; omega
 have old:∀ b,b∈M.map Ent.b->b∈FF\/hA.size<=b:=fun b hb=>by
  obtain ⟨e,he,rfl⟩:=List.mem_map.1 hb
  exact H.GH e he (List.all_eq_true.1 hw e he)
 have hsz:hA.size<=hE.size:=iL H.fr.1 (by have:=HE.fr.1; rwa [oT] at this)
 refine ⟨hoB,hne,⟨⟨by rw [oT]; exact hsz,fun b hb hF=>?_⟩,fun k e he=>?_,fun k e he hew=>?_,HE.nd⟩,It (zw hoB)⟩
 ·by_cases hbl:b=l
  ·subst hbl
   exact (It (zw hoB)).trans (ho.symm.trans (H.fr.2 b hb hF))
  ·rw [xQ hbl,HE.fr.2 b (by rw [oT]; exact iK hb H.fr.1) (fun hm=>by
    rcases old b hm with h1 | h1
    ·exact hF h1
    ·omega),xQ hbl]
   exact H.fr.2 b hb hF
 ·have:=HE.bl k e he
  unfold Blk at this ⊢
  rw [xQ (hne e (fS he))]
  exact this
 ·rcases HE.wr k e he hew with h1 | h1
  ·exact old _ h1
  ·rw [oT] at h1
   exact .inr (iL H.fr.1 h1)
end
open Go.Ar (Cod CodOk ju idx oo qJ)
def NX (m:Nat) (base:Int) (x:Nat × Cod) (b:Nat):Nat × Cod:=(jL x.1 b,oo x.2 (idx (base+(x.1:Int)) m) b)
def uU (m:Nat) (base:Int) (l:List Nat) (x:Nat × Cod):Nat × Cod:=l.foldl (NX m base) x
theorem G9 (m:Nat) (base:Int) (l:List Nat) (b:Nat) (x:Nat × Cod):uU m base (l++[b]) x=NX m base (uU m base l x) b:=by
 unfold uU
 rw [GA]
 rfl
theorem Gp {sg m:Nat} (hs:sg<=1):∀ b∈mi sg m,b<=1:=fun b hb=>by
 unfold mi nr jb at hb
 rcases List.mem_append.1 hb with hb | hb
 ·rcases List.mem_append.1 hb with hb | hb
  ·rcases List.mem_append.1 hb with hb | hb
   ·rw [List.mem_singleton.1 hb]; exact hs
   ·rw [(List.mem_replicate.1 hb).2]; exact gg _
  ·split at hb
   ·rw [List.mem_singleton.1 hb]; exact km _
   ·cases hb
 ·obtain ⟨i,_,rfl⟩:=List.mem_map.1 hb
  exact Gz (iP _ (by decide))
theorem H9 (k:Nat) (h:k<=5):oS k<=32:=by
 have:k=0\/k=1\/k=2\/k=3\/k=4\/k=5:=by omega
 rcases this with rfl | rfl | rfl | rfl | rfl | rfl <;> decide
theorem AK (sg m:Nat):(mi sg m).length<=39:=by
 have h1:=LH m
 have h2:=H9 _ h1
 unfold mi nr
 rw [fA,lY,fA,fA,Ao,gJ]
 split <;> simp <;> omega
theorem Im (v:Int) (none:Bool):sgW v none<=1:=by unfold sgW; (repeat' split) <;> omega
set_option maxHeartbeats 4000000 in
theorem PX {h0 h:Heap} {FF:List Nat} {p q r m n0:Nat} {s:Cod} {rest:List Value} (HC:Hp h0 FF h (ju p q r s rest)) (hc:CodOk m n0 s) (hm1:1<=m) (hm2:m<=131072) {base v:Int} {none:Bool} (hv:-9223372036854775808<=v/\v<9223372036854775808) (hN:n0+64<=16777216)
  {K:VK} {Kp:PK} (hk51:∀ h',¬ (0<=base/\base+(512:Nat)<=(m:Nat))->Hp h0 FF h' (ju p q r s rest)->K (.int .i64 51) h')
  (hk50:∀ h',(0<=base/\base+(512:Nat)<=(m:Nat))->¬ pd v none->Hp h0 FF h' (ju p q r s rest)->K (.int .i64 50) h')
  (hk0:∀ r' rest' h',(0<=base/\base+(512:Nat)<=(m:Nat))->pd v none->Hp h0 FF h' (ju p q r' (uU m base (mi (sgW v none) (mW v none)) (1,s)).2 rest')->K (.int .i64 0) h') :
  CP nt #[.pointer (at0 p),.int .i64 base,.agg #[.int .i64 v,.bool none]] h K Kp:=by
 refine Gg ?_
 unfold Da
 have H:=Hp.nil h []
 refine fV H fun r3 h H=>?_
 refine fV H fun r5 h H=>?_
 refine fV H fun r7 h H=>?_
 refine fV H fun r9 h H=>?_
 refine ja (H.cell 0 rfl rfl) ?_
 refine fZ (by rfl) ?_
 refine fz (H.cell 1 rfl rfl) (ja (H.cell 0 rfl rfl) (gv (a:=⟨p,0,Option.none⟩) ?_))
 refine Go.Ar.qx (n:=s.st.length) (HC.ext H.gi) 0 rfl ?_
 refine ⟨_,rfl,gi.refl _,?_⟩
 rw [hc.len]
 refine Fa (many:=512) (all:=m) (by decide) (by omega) fun bf hbf=>?_
 refine ⟨_,rfl,?_⟩
 refine iM (fun h2=>?_) fun h2=>?_
 ·refine gq H 3 rfl (fB rfl) rfl fun h hz H=>?_
  refine fz (H.cell 3 rfl rfl) ?_
  exact hk51 h (fun hh=>by rw [hbf.2 hh] at h2; cases h2) (HC.ext H.gi)
 have hfit:=hbf.1 h2
 refine fz (hpA H 2 rfl rfl) (gT (hpA H 2 rfl rfl) ?_)
 refine My fun br h1 hbr e1=>?_
 have H:=H.ext e1
 refine ⟨_,rfl,?_⟩
 refine iM (fun h2=>?_) fun h2=>?_
 ·refine gq H 3 rfl (fB rfl) rfl fun h hz H=>?_
  refine fz (H.cell 3 rfl rfl) ?_
  exact hk50 h hfit (fun hh=>by rw [hbr.2 hh] at h2; cases h2) (HC.ext H.gi)
 have hright:=hbr.1 h2
 refine fV H fun r32 h H=>?_
 refine gq H 4 rfl (fB rfl) rfl fun h hz H=>?_
 refine fz (hpA H 2 rfl rfl) (gT (hpA H 2 rfl rfl) ?_)
 refine QZ hv fun rs rm hP H'=>?_
 replace H:=H.join H' rfl
 clear H'
 refine ⟨_,rfl,?_⟩
 have hs1:=Im v none
 have hml:=Rf hright
 obtain ⟨sg,hsg⟩:∃ sg,sg=sgW v none:=⟨_,rfl⟩
 obtain ⟨mm,hmm⟩:∃ mm,mm=mW v none:=⟨_,rfl⟩
 rw [<- hsg] at H hs1 hk0
 rw [<- hmm] at H hml hk0
 obtain ⟨bits,hbits⟩:∃ bits,bits=mi sg mm:=⟨_,rfl⟩
 have hbl:=Gp (m:=mm) hs1
 have hbn:=AK sg mm
 rw [<- hbits] at hbl hbn hk0
 simp only [Pb]
 intro oR oB oX oJ oXJ hround
 have HA:=(HC.join H rfl).pick [5,8,9,3,4,6,7,0,1,2] (by decide) (L':=[⟨r7,true,iz,[.int .i64 v,.bool none]⟩,⟨rs,true,gQ,[.int .i64 (sg:Nat)]⟩,⟨rm,true,gj,[.int .u64 (mm:Nat)]⟩] ++
  ([⟨r3,true,jW,[.pointer (at0 p)]⟩,⟨r5,true,gQ,[.int .i64 base]⟩,⟨r9,true,gR,[.int .i64 0]⟩,⟨r32,true,gQ,[.int .i64 1]⟩]++ju p q r s rest)) rfl
 obtain ⟨D,hD⟩:∃ D,D=hP.size:=⟨_,rfl⟩
 rw [<- hD] at hround ⊢
 have hlt:∀ e∈([⟨r7,true,iz,[.int .i64 v,.bool none]⟩,⟨rs,true,gQ,[.int .i64 (sg:Nat)]⟩,⟨rm,true,gj,[.int .u64 (mm:Nat)]⟩] ++
  ([⟨r3,true,jW,[.pointer (at0 p)]⟩,⟨r5,true,gQ,[.int .i64 base]⟩,⟨r9,true,gR,[.int .i64 0]⟩,⟨r32,true,gQ,[.int .i64 1]⟩]++ju p q r s rest):List Ent),e.b<D:=fun e he=>by rw [hD]; exact (HA.mem e he).lt
 have hDh0:h0.size<=D:=by rw [hD]; exact HA.fr.1
 obtain ⟨h1,hh1⟩:∃ h1,h1=(hP.push (.deferred (some []))).push oR:=⟨_,rfl⟩
 have H1:=O3 (O3 HA (.deferred (some []))) oR
 rw [<- hh1] at H1 ⊢
 have hs1z:h1.size=D+2:=by rw [hh1,hD]; simp
 have hoR:kr h1 (D+1) oR:=by
  unfold kr
  rw [hh1,hD,Array.getElem?_push,if_pos (by simp)]
 have hoD:kr h1 D (.deferred (some [])):=by
  unfold kr
  rw [hh1,hD,Array.getElem?_push,if_neg (by simp),Array.getElem?_push,if_pos rfl]
 obtain ⟨Row,hRow⟩:∃ Row:Nat->List Ent,Row=fun node=>[⟨r3,true,jW,[.pointer (at0 p)]⟩,⟨r5,true,gQ,[.int .i64 base]⟩,⟨r9,true,gR,[.int .i64 0]⟩,⟨r32,true,gQ,[.int .i64 (node:Nat)]⟩]:=⟨_,rfl⟩
 refine PB (h0:=h1) (h:=h1) (M:=[⟨r3,true,jW,[.pointer (at0 p)]⟩,⟨r5,true,gQ,[.int .i64 base]⟩,⟨r9,true,gR,[.int .i64 0]⟩,⟨r32,true,gQ,[.int .i64 1]⟩]++ju p q r s rest) (l:=D+1) (oR:=oR) (oJ:=oJ 0) (sg:=sg) (m:=mm) (cap0:=⟨rs,0,Option.none⟩) (cap1:=⟨rm,0,Option.none⟩)
  (S:=fun pre M=>∃ r' rest',CodOk m (n0+pre.length) (uU m base pre (1,s)).2/\(uU m base pre (1,s)).1<512/\(∀ e∈M,e.b≠D+1/\e.b≠D) /\
   M=[⟨r3,true,jW,[.pointer (at0 p)]⟩,⟨r5,true,gQ,[.int .i64 base]⟩,⟨r9,true,gR,[.int .i64 0]⟩,⟨r32,true,gQ,[.int .i64 ((uU m base pre (1,s)).1:Nat)]⟩]++ju p q r' (uU m base pre (1,s)).2 rest')
  (Sx:=fun _=>False) (by omega) (Hp.mv H1) ⟨r,rest,by simpa [uU] using hc,by show 1<512; omega,(fun e he=>by have:=hlt e (fX _ he); omega),rfl⟩ hoR (H1.cell 1 rfl rfl) (H1.cell 2 rfl rfl) ?_ ?_ ?_ (fun M2 h2 hS2 H2 ho2=>?_) (fun M2 h2 hS2=>hS2.elim)
 ·intro hm
  obtain ⟨e,he,hb⟩:=List.mem_map.1 hm
  exact (List.pairwise_append.1 H1.pw).2.2 ⟨rs,true,gQ,[.int .i64 (sg:Nat)]⟩ (by simp) e he hb.symm
 ·intro hm
  obtain ⟨e,he,hb⟩:=List.mem_map.1 hm
  exact (List.pairwise_append.1 H1.pw).2.2 ⟨rm,true,gj,[.int .u64 (mm:Nat)]⟩ (by simp) e he hb.symm
 ·rw [<- hbits]
  refine ⟨fun pre M hS=>?_,fun {hA hh FFA M pre rest' b K1} hb hS HM ho htrue _=>?_⟩
  ·obtain ⟨_,_,_,_,_,rfl⟩:=hS
   rfl
  ·obtain ⟨r',rest'',hcod,hnode,hne,rfl⟩:=hS
   have hpl:pre.length<39:=by
    have:=congrArg List.length hb
    simp at this
    omega
   have hb1:b<=1:=hbl b (by rw [hb]; simp)
   refine hround hh K1 ho _ ⟨ho,?_⟩
   have HB:=II HM (fun e he=>(hne e he).1) oB
   refine ja (HB.cell 0 rfl rfl) (fz (HB.cell 1 rfl rfl) (fz (HB.cell 3 rfl rfl) ?_))
   have hsn:=G9 m base pre b (1,s)
   generalize uU m base pre (1,s)=st at hcod hnode hsn HM HB hne ⊢
   obtain ⟨node,S1⟩:=st
   have hnode:node<512:=hnode
   have hcod:CodOk m (n0+pre.length) S1:=hcod
   refine fw ((base+(node:Int))) (by exact i64_in _ (by omega) (by omega)) ?_
   refine Go.Ar.BH (bit:=b) (HB.JY [4,5,6] (by decide) rfl) hcod.wf hcod.done (by rw [hcod.n]; omega) (by rw [hcod.len]; exact hm1) (by rw [hcod.len]; exact hm2) hb1 fun r4 rest4 h4 H'=>?_
   have HE:=HB.put [4,5,6] (by decide) rfl rfl H' rfl rfl
   clear H'
   rw [hcod.len] at HE
   refine ⟨_,rfl,?_⟩
   refine fZ (by rfl) ?_
   refine fz (HE.cell 3 rfl rfl) ?_
   refine I6 hnode hb1 ?_
   refine ⟨_,rfl,?_⟩
   refine gq HE 3 rfl (fB rfl) rfl fun h5 hz5 HE=>?_
   have HE:Hp (nX hh (D+1) oB) _ h5 ([⟨r3,true,jW,[.pointer (at0 p)]⟩,⟨r5,true,gQ,[.int .i64 base]⟩,⟨r9,true,gR,[.int .i64 0]⟩,⟨r32,true,gQ,[.int .i64 (jL node b:Nat)]⟩]++ju p q r4 (oo S1 (idx (base+(node:Int)) m) b) rest4):=HE
   obtain ⟨g1,g2,g3,g4⟩:=MS HM rfl (fun e he=>(hne e he).1) ho HE rfl
   refine ⟨g1,htrue _ _ ⟨r4,rest4,?_,?_,fun e he=>⟨g2 e he,fun hb=>?_⟩,?_⟩ g3 g4⟩
   ·rw [hsn,fA,gJ]
    exact qJ hcod _ _ (by omega)
   ·rw [hsn]
    exact FM hnode hb1
   ·rcases HE.GH e he (List.all_eq_true.1 (by rfl:(List.all _ Ent.w)=true) e he) with h6 | h6
    ·obtain ⟨e2,he2,hb2⟩:=List.mem_map.1 h6
     exact (hne e2 he2).2 (hb2.trans hb)
    ·rw [oT] at h6
     have:=zw ho
     omega
   ·rw [hsn]
    rfl
 ·rw [<- hbits] at hS2
  obtain ⟨r',rest',hcod,hnode,hne,rfl⟩:=hS2
  refine .inl ⟨ho2,?_⟩
  have HX:=II H2 (fun e he=>(hne e he).1) oX
  refine gq HX 2 rfl (fB rfl) rfl fun h3 hz3 H3=>?_
  have H3:Hp (nX h2 (D+1) oX) _ h3 ([⟨r3,true,jW,[.pointer (at0 p)]⟩,⟨r5,true,gQ,[.int .i64 base]⟩,⟨r9,true,gR,[.int .i64 0]⟩,⟨r32,true,gQ,[.int .i64 ((uU m base bits (1,s)).1:Nat)]⟩]++ju p q r' (uU m base bits (1,s)).2 rest'):=H3
  have hDn:∀ {L:List Ent},(∀ e∈L,e.b≠D+1/\e.b≠D)->D ∉ L.map Ent.b:=fun hL hm=>by
   obtain ⟨e,he,hb⟩:=List.mem_map.1 hm
   exact (hL e he).2 hb
  have h2s:D+1<h2.size:=zw ho2
  have hD2:kr h2 D (.deferred (some [])):=(H2.fr.2 D (by omega) (hDn fun e he=>by have:=hlt e (fX _ he); omega)).trans hoD
  have hD3:kr h3 D (.deferred (some [])):=by
   refine (H3.fr.2 D (by rw [oT]; omega) (hDn hne)).trans ?_
   rw [xQ (by omega)]
   exact hD2
  refine ⟨hD3,?_⟩
  have H4:=II (l:=D) H3 (fun e he=>(hne e he).2) (.deferred Option.none)
  refine fz (H4.cell 2 rfl rfl) ?_
  refine hk0 r' rest' _ hfit hright ?_
  have K1:=H1.pg rfl H2 rfl
  have K2:=Rm (l:=D+1) K1 (fun e he=>by
   rcases List.mem_append.1 he with he | he
   ·have:=hlt e (gV _ he); omega
   ·exact (hne e he).1) (by omega) oX
  have K3:=K2.pg rfl H3 rfl
  have K4:=Rm (l:=D) K3 (fun e he=>by
   rcases List.mem_append.1 he with he | he
   ·have:=hlt e (gV _ he); omega
   ·exact (hne e he).2) hDh0 (.deferred Option.none)
  exact K4.pick [7,8,9] (by decide) rfl
end Go.Bm
namespace Go.Den.YtbknfejmdekhpaaGreat
open Go Go.Den
def wE (C:gl) (c:Option Addr) (base z:Int) (A:Bool) (h:Heap) (K:VK) (Kp:PK):Prop :=
gE h [.int .i64 z,.bool A] iz fun o k=>
ldI k (.add ⟨o,0,none⟩ 0) .i64 fun B=>
ldB k (.add ⟨o,0,none⟩ 1) fun D=>
C sI #[.agg #[.int .i64 B,.bool D]] k (fun E F=>
∃ (l:Option Addr) (b p:Nat),E = .slice l b p/\(
∃ f:Nat->List Value->Heap->Prop,(∃ d,f d [.int .i64 1,.int .i64 0] F)/\∀ (d:Nat) (e:Heap) (G:Nat->Value) (g a:Int),f d [.int .i64 g,.int .i64 a] e->(
fI (decide (a<(b:Int))) (
fG (IntKind.i64.wrap (base+g)) fun q=>
fW (0<=a/\a<(b:Int))<|
ptr l fun r=>
ldI e (r.add (a.toNat*1)) .i64 fun s=>
C jG #[.pointer c,.int .i64 q,.int .i64 s] e (fun t i=>
∃ (j:Int),t = .int .i64 j/\(
fI (j != (0:Int)) (
K (.int .i64 j) i)<|
fW (0<=a/\a<(b:Int))<|
ptr l fun u=>
ldI i (u.add (a.toNat*1)) .i64 fun v=>
C sH #[.int .i64 g,.int .i64 v] i (fun w x=>
∃ (m:Int),w = .int .i64 m/\(
fG (IntKind.i64.wrap (a+(1:Int))) fun y=>
∃ n,n<d/\f n [.int .i64 m,.int .i64 y] x)) (Kp))) (Kp))<|
K (.int .i64 0) e))) (Kp)
def u7 (C:gl) (aJ:Int) (aK:Bool) (h:Heap) (K:VK) (Kp:PK):Prop :=
gE h [.int .i64 aJ,.bool aK] iz fun Z p=>
ldB p (.add ⟨Z,0,none⟩ 1) fun aL=>
fI aL (
gE p [.int .i64 1,.int .i64 0,.int .i64 0,.int .i64 0] gQ fun aM aN=>
K (.slice (some ⟨aM,0,none⟩) 4 4) aN)<|
ldI p (.add ⟨Z,0,none⟩ 0) .i64 fun F=>
∃ G:List Value->Heap->Prop,(
fI (decide (F<(0:Int))) (
fG (IntKind.i64.wrap (0-F)) fun aa=>
gE p [.int .i64 1] gQ fun ab ac=>
l4 ac gQ 1 8 [.int .i64 0] none (0) (0) (some ⟨ab,0,none⟩) (1) fun ad P Q ae=>
G [.int .i64 aa,.slice ad P Q] ae)<|
gE p [.int .i64 0] gQ fun af ag=>
l4 ag gQ 1 8 [.int .i64 0] none (0) (0) (some ⟨af,0,none⟩) (1) fun ah R S ai=>
G [.int .i64 F,.slice ah R S] ai)/\∀ (H:Heap) (aO:Nat->Value) (q:Int) (I:Option Addr) (A B:Nat),G [.int .i64 q,.slice I A B] H->(
gE H [.int .i64 0,.int .i64 4,.int .i64 20,.int .i64 84,.int .i64 340,.int .i64 4436] gQ fun J aj=>
gE aj [.int .i64 2,.int .i64 4,.int .i64 6,.int .i64 8,.int .i64 12,.int .i64 32] gQ fun ak al=>
∃ r:List Value->Heap->Prop,(
∃ s:Nat->List Value->Heap->Prop,(∃ f,s f [.slice I A B,.int .i64 0] al)/\∀ (f:Nat) (e:Heap) (aP:Nat->Value) (g:Option Addr) (c d:Nat) (b:Int),s f [.slice g c d,.int .i64 b] e->(
fI (decide (b<(5:Int))) (
fG (IntKind.i64.wrap (b+(1:Int))) fun t=>
fW (0<=t/\t<((6:Nat):Int))<|
ldI e ((⟨J,0,none⟩:Addr).add (t.toNat*1)) .i64 fun am=>
fI (decide (q≥am)) (
gE e [.int .i64 1] gQ fun an ao=>
l4 ao gQ 1 8 [.int .i64 0] g (c) (d) (some ⟨an,0,none⟩) (1) fun ap T U aq=>
fG (IntKind.i64.wrap (b+(1:Int))) fun ar=>
∃ L,L<f/\s L [.slice ap T U,.int .i64 ar] aq)<|
r [.slice g c d,.int .i64 b] e)<|
r [.slice g c d,.int .i64 b] e))/\∀ (u:Heap) (aQ:Nat->Value) (v:Option Addr) (i j:Nat) (a:Int),r [.slice v i j,.int .i64 a] u->(
∃ w:List Value->Heap->Prop,(
fI (decide (a<(5:Int))) (
gE u [.int .i64 0] gQ fun au av=>
l4 av gQ 1 8 [.int .i64 0] v (i) (j) (some ⟨au,0,none⟩) (1) fun aw V W ax=>
w [.slice aw V W] ax)<|
w [.slice v i j] u)/\∀ (x:Heap) (aR:Nat->Value) (M:Option Addr) (D E:Nat),w [.slice M D E] x->(
fW (0<=a/\a<((6:Nat):Int))<|
ldI x ((⟨ak,0,none⟩:Addr).add (a.toNat*1)) .i64 fun ay=>
fG (IntKind.i64.wrap (ay-(1:Int))) fun az=>
∃ y:Nat->List Value->Heap->Prop,(∃ k,y k [.slice M D E,.int .i64 az] x)/\∀ (k:Nat) (l:Heap) (aS:Nat->Value) (z:Option Addr) (m n:Nat) (o:Int),y k [.slice z m n,.int .i64 o] l->(
fI (decide (o≥(0:Int))) (
fW (0<=a/\a<((6:Nat):Int))<|
ldI l ((⟨J,0,none⟩:Addr).add (a.toNat*1)) .i64 fun aA=>
fG (IntKind.i64.wrap (q-aA)) fun aB=>
fG (IntKind.u64.wrap o) fun N=>
fW (0<=N)<|
fG (l8 .i64 aB N) fun aC=>
fG (jo .and .i64 aC (1:Int)) fun aD=>
gE l [.int .i64 aD] gQ fun aE aF=>
l4 aF gQ 1 8 [.int .i64 0] z (m) (n) (some ⟨aE,0,none⟩) (1) fun aG X Y aH=>
fG (IntKind.i64.wrap (o-(1:Int))) fun aI=>
∃ O,O<k/\y O [.slice aG X Y,.int .i64 aI] aH)<|
K (.slice z m n) l))))
def u6 (C:gl) (v bit:Int) (h:Heap) (K:VK) (Kp:PK):Prop :=
fI (decide (v<(256:Int))) (
fG (IntKind.i64.wrap ((2:Int)*v)) fun a=>
fG (IntKind.i64.wrap (a+bit)) fun b=>
K (.int .i64 b) h)<|
fG (IntKind.i64.wrap ((2:Int)*v)) fun c=>
fG (IntKind.i64.wrap (c+bit)) fun d=>
fG (d.tmod (256:Int)) fun e=>
fG (IntKind.i64.wrap (e+(256:Int))) fun f=>
K (.int .i64 f) h
def tC (C:gl) (c:Option Addr) (base width id:Int) (h:Heap) (K:VK) (Kp:PK):Prop :=
fG (IntKind.i64.wrap (width-(1:Int))) fun s=>
∃ e:Nat->List Value->Heap->Prop,(∃ b,e b [.int .i64 1,.int .i64 s] h)/\∀ (b:Nat) (f:Heap) (t:Nat->Value) (g d:Int),e b [.int .i64 g,.int .i64 d] f->(
fI (decide (d≥(0:Int))) (
fG (IntKind.u64.wrap d) fun k=>
fW (0<=k)<|
fG (l8 .i64 id k) fun m=>
fG (jo .and .i64 m (1:Int)) fun i=>
fG (IntKind.i64.wrap (base+g)) fun n=>
C jG #[.pointer c,.int .i64 n,.int .i64 i] f (fun o j=>
∃ (a:Int),o = .int .i64 a/\(
fI (a != (0:Int)) (
K (.int .i64 a) j)<|
fG (IntKind.i64.wrap ((2:Int)*g)) fun p=>
fG (IntKind.i64.wrap (p+i)) fun q=>
fG (IntKind.i64.wrap (d-(1:Int))) fun r=>
∃ l,l<b/\e l [.int .i64 q,.int .i64 r] j)) (Kp))<|
K (.int .i64 0) f)
theorem B2 {c:Option Addr} {base a:Int} {b:Bool} {h:Heap} {K:VK} {Kp:PK} (H:wE QP c base a b h K Kp):QP jZ #[.pointer c,.int .i64 base,.agg #[.int .i64 a,.bool b]] h K Kp :=
 fJ (Hints.mk (fun i=>none) (fun i=>bif Nat.beq i 4 then some ([(8,.int .i64),(9,.int .i64)],137438947136) else (none)) (fun i=>none) []) (by kernel_rfl) Go.Proofs.Tryz.func54 (by kernel_rfl) (fun C=>wE C c base a b h K Kp) (fun C=>by kernel_rfl) H
theorem AU {a:Int} {b:Bool} {h:Heap} {K:VK} {Kp:PK} (H:u7 QP a b h K Kp):QP sI #[.agg #[.int .i64 a,.bool b]] h K Kp :=
 fJ (Hints.mk (fun i=>none) (fun i=>bif Nat.beq i 12 then some ([(4,.slc),(7,.int .i64)],4397979402384) else (bif Nat.beq i 18 then some ([(4,.slc),(8,.int .i64)],590291306759078281488) else (none))) (fun i=>bif Nat.beq i 9 then some ([(3,.int .i64),(4,.slc)],16760856) else (bif Nat.beq i 15 then some ([(4,.slc),(7,.int .i64)],4397979402384) else (bif Nat.beq i 17 then some ([(4,.slc)],136339441844240) else (none)))) []) (by kernel_rfl) Go.Proofs.Tryz.func102 (by kernel_rfl) (fun C=>u7 C a b h K Kp) (fun C=>by kernel_rfl) H
theorem AT {v bit:Int} {h:Heap} {K:VK} {Kp:PK} (H:u6 QP v bit h K Kp):QP sH #[.int .i64 v,.int .i64 bit] h K Kp :=
 fJ (Hints.mk (fun i=>none) (fun i=>none) (fun i=>none) []) (by kernel_rfl) Go.Proofs.Tryz.func104 (by kernel_rfl) (fun C=>u6 C v bit h K Kp) (fun C=>by kernel_rfl) H
theorem zL {c:Option Addr} {base width id:Int} {h:Heap} {K:VK} {Kp:PK} (H:tC QP c base width id h K Kp):QP od #[.pointer c,.int .i64 base,.int .i64 width,.int .i64 id] h K Kp :=
 fJ (Hints.mk (fun i=>none) (fun i=>bif Nat.beq i 3 then some ([(9,.int .i64),(10,.int .i64)],137438928640) else (none)) (fun i=>none) []) (by kernel_rfl) Go.Proofs.Tryz.func105 (by kernel_rfl) (fun C=>tC C c base width id h K Kp) (fun C=>by kernel_rfl) H
end Go.Den.YtbknfejmdekhpaaGreat
namespace Go.Bm
open Go Go.Den Go.Den.YtbknfejmdekhpaaGreat
def ints (l:List Nat):List Value:=l.map fun x => .int .i64 (x:Nat)
theorem CD (l:List Nat):(ints l).length=l.length:=by simp [ints]
theorem OX (a b:List Nat):ints (a++b)=ints a++ints b:=by simp [ints]
theorem OW {l:List Nat} {i x:Nat} (h:l[i]? = some x):(ints l)[i]? = some (.int .i64 (x:Nat)):=by simp [ints,h]
theorem Kz {a b:Nat} (h:a<=b) (hb:b<=5):ko a<=ko b:=by
 have h1:ko 0=0:=rfl
 have h2:ko 1=4:=rfl
 have h3:ko 2=20:=rfl
 have h4:ko 3=84:=rfl
 have h5:ko 4=340:=rfl
 have h6:ko 5=4436:=rfl
 have all:∀ k,k<=5->k=0\/k=1\/k=2\/k=3\/k=4\/k=5:=fun k hk=>by omega
 rcases all a (by omega) with rfl | rfl | rfl | rfl | rfl | rfl <;> rcases all b hb with rfl | rfl | rfl | rfl | rfl | rfl <;> omega
def Hv:List Value:=[.int .i64 0,.int .i64 4,.int .i64 20,.int .i64 84,.int .i64 340,.int .i64 4436]
def MA:List Value:=[.int .i64 2,.int .i64 4,.int .i64 6,.int .i64 8,.int .i64 12,.int .i64 32]
theorem Hu {k:Nat} (h:k<=5):Hv[0+k*1]? = some (.int .i64 (ko k:Nat))/\MA[0+k*1]? = some (.int .i64 (oS k:Nat)):=by
 have:k=0\/k=1\/k=2\/k=3\/k=4\/k=5:=by omega
 rcases this with rfl | rfl | rfl | rfl | rfl | rfl <;> exact ⟨rfl,rfl⟩
section
variable {hB:Heap} {K:VK} {Kp:PK}
theorem MV {v b:Nat} (hv:v<512) (hb:b<=1) (hk:K (.int .i64 (jL v b:Nat)) hB):CP sH #[.int .i64 (v:Nat),.int .i64 (b:Nat)] hB K Kp:=by
 refine AT ?_
 unfold u6
 have hd:(decide ((v:Int)<256))=decide (v<256):=decide_eq_decide.2 (by omega)
 rw [hd]
 by_cases h3:v<256
 ·refine gN (decide_eq_true h3) ?_
  refine fw (((2*v:Nat):Int)) (by exact fO _ _ (by omega) (by omega) (by omega)) ?_
  refine fw (((2*v+b:Nat):Int)) (by exact fO _ _ (by omega) (by omega) (by omega)) ?_
  have e:jL v b=2*v+b:=by unfold jL; rw [if_pos (by omega)]
  rw [e] at hk
  exact hk
 ·refine fZ (decide_eq_false h3) ?_
  refine fw (((2*v:Nat):Int)) (by exact fO _ _ (by omega) (by omega) (by omega)) ?_
  refine fw (((2*v+b:Nat):Int)) (by exact fO _ _ (by omega) (by omega) (by omega)) ?_
  refine fw ((((2*v+b) % 256:Nat):Int)) (by exact kM _ 256) ?_
  have e:jL v b=(2*v+b) % 256+256:=by unfold jL; rw [if_neg (by omega)]
  refine fw (((jL v b:Nat):Int)) (by exact fO _ _ (by omega) (by omega) (by omega)) ?_
  exact hk
set_option maxHeartbeats 4000000 in
theorem PA {v:Int} {none:Bool} (hr:pd v none) (hk:∀ q rest h',Hp hB [] h' [⟨q,true,gQ,ints (mi (sgW v none) (mW v none))++rest⟩]->K (.slice (at0 q) (mi (sgW v none) (mW v none)).length (ints (mi (sgW v none) (mW v none))++rest).length) h') :
  CP sI #[.agg #[.int .i64 v,.bool none]] hB K Kp:=by
 refine AU ?_
 unfold u7
 have H:=Hp.nil hB []
 refine fV H fun r3 h H=>?_
 refine gT (hpA H 0 rfl rfl) ?_
 cases none with
 | true =>
  refine gN rfl ?_
  refine fV H fun r6 h H=>?_
  have e:mi (sgW v true) (mW v true)=[1,0,0,0]:=by
   have e1:sgW v true=1:=if_pos rfl
   have e2:mW v true=0:=rfl
   rw [e1,e2]
   decide
  rw [e] at hk
  exact hk r6 [] _ (H.pick [1] (by decide) rfl)
 | false =>
  refine fZ rfl ?_
  have hv:-2147483648<=v/\v<=2147483648:=by
   rcases hr with h | h
   ·cases h
   ·exact h
  refine fz (hpA H 0 rfl rfl) ?_
  obtain ⟨sg,hsg⟩:∃ sg,sg=sgW v false:=⟨_,rfl⟩
  obtain ⟨m,hm⟩:∃ m,m=mW v false:=⟨_,rfl⟩
  have hm2:m=v.natAbs:=hm
  rw [<- hsg,<- hm] at hk
  clear hm
  have one:∀ {h:Heap} {q x k:Nat} {pre:List Nat} {rest:List Value} {A:List Ent} {K1:Option Addr->Nat->Nat->Heap->Prop},Hp hB [] h ([⟨q,true,gQ,ints pre++rest⟩]++A++[⟨k,true,gQ,[.int .i64 (x:Nat)]⟩])->pre.length<=100 ->
    (∀ q' rest' h',Hp hB [] h' ([⟨q',true,gQ,ints (pre++[x])++rest'⟩]++A)->K1 (at0 q') (pre++[x]).length (ints (pre++[x])++rest').length h') ->
    l4 h gQ 1 8 [.int .i64 0] (at0 q) pre.length (ints pre++rest).length (some ⟨k,0,Option.none⟩) 1 K1:=fun {h q x k pre rest A K1} H hp hk1=>by
   refine Ai H 0 rfl (xs:=ints pre) (by rw [CD]) rfl (Hp.n9 (rest:=[]) (cs:=[.int .i64 (x:Nat)]) H (fX _ (List.mem_singleton.2 rfl)) rfl) rfl (fun v hv=>by rw [List.mem_singleton.1 hv]; rfl) (by omega) fun q' rest' h' H'=>?_
   have H':Hp hB [] h' ([⟨q',true,gQ,(ints pre++[.int .i64 (x:Nat)])++rest'⟩]++A++[⟨k,true,gQ,[.int .i64 (x:Nat)]⟩]):=H'
   have e:ints pre++[.int .i64 (x:Nat)]=ints (pre++[x]):=by rw [OX]; rfl
   rw [e] at H' ⊢
   have:=hk1 q' rest' h' (Hp.pre H')
   rw [fA,gJ] at this
   exact this
  refine ⟨fun vs h'=>∃ q rest,vs=[.int .i64 (m:Nat),.slice (at0 q) 1 (ints [sg]++rest).length]/\Hp hB [] h' [⟨q,true,gQ,ints [sg]++rest⟩],?_,?_⟩
  ·refine fL (fun h1=>?_) fun h1=>?_
   ·have es:sg=1:=by rw [hsg]; unfold sgW; rw [if_neg (by simp),if_pos h1]
    refine fw (((m:Nat):Int)) (by exact fO _ _ (by omega) (by omega) (by omega)) ?_
    refine fV H fun r13 h H=>?_
    refine vk H (pf (o:=0) (n:=1*1) H 1 rfl (gg _)) rfl (gg _) (by decide) fun q rest h' _ H=>?_
    have H:=H.pick [2] (by decide) (L':=[⟨q,true,gQ,ints [sg]++rest⟩]) (by rw [es]; rfl)
    exact ⟨q,rest,by rw [fA,CD]; rfl,H⟩
   ·have es:sg=0:=by rw [hsg]; unfold sgW; rw [if_neg (by simp),if_neg h1]
    refine fV H fun r13 h H=>?_
    refine vk H (pf (o:=0) (n:=1*1) H 1 rfl (gg _)) rfl (gg _) (by decide) fun q rest h' _ H=>?_
    have H:=H.pick [2] (by decide) (L':=[⟨q,true,gQ,ints [sg]++rest⟩]) (by rw [es]; rfl)
    have ev:v=(m:Nat):=by omega
    exact ⟨q,rest,by rw [fA,CD,ev]; rfl,H⟩
  ·clear H
   rintro h u x y yn yc ⟨q,rest,hxx,H⟩
   injection hxx with hx1 hxx
   injection hxx with hx2 hxx
   injection hx1 with _ hx1
   injection hx2 with hx2 hx3 hx4
   subst x y yn yc
   have hwk:=LH m
   obtain ⟨hw1,hw2⟩:=Ia m
   refine fV H fun r23 h H=>?_
   refine fV H fun r25 h H=>?_
   have H:Hp hB [] _ ([⟨q,true,gQ,ints [sg]++rest⟩]++[⟨r23,true,gQ,Hv⟩,⟨r25,true,gQ,MA⟩]):=H
   refine ⟨fun vs h'=>∃ q rest,vs=[.slice (at0 q) ([sg]++List.replicate (wK m) 1).length (ints ([sg]++List.replicate (wK m) 1)++rest).length,.int .i64 (wK m:Nat)]/\Hp hB [] h' ([⟨q,true,gQ,ints ([sg]++List.replicate (wK m) 1)++rest⟩]++[⟨r23,true,gQ,Hv⟩,⟨r25,true,gQ,MA⟩]),?_,?_⟩
   ·refine ⟨fun n vs h'=>∃ (k q:Nat) (rest:List Value),k+n=5/\k<=wK m/\vs=[.slice (at0 q) ([sg]++List.replicate k 1).length (ints ([sg]++List.replicate k 1)++rest).length,.int .i64 (k:Nat)]/\Hp hB [] h' ([⟨q,true,gQ,ints ([sg]++List.replicate k 1)++rest⟩]++[⟨r23,true,gQ,Hv⟩,⟨r25,true,gQ,MA⟩]),
     ⟨5,0,q,rest,rfl,by omega,rfl,H⟩,?_⟩
    clear H
    rintro n h u x xn xc k' ⟨k,q,rest,hkn,hkw,hxx,H⟩
    injection hxx with hx1 hxx
    injection hxx with hx2 hxx
    injection hx2 with _ hx2
    injection hx1 with hx1 hx3 hx4
    subst x xn xc k'
    refine fL (fun h1=>?_) fun h1=>?_
    ·have hk5:k<5:=by omega
     refine fw (((k+1:Nat):Int)) (by exact fO _ _ (by omega) (by omega) (by omega)) ?_
     refine fH (by omega) ?_
     rw [fD]
     refine fz (hpA H 1 rfl (Hu (by omega:k+1<=5)).1) ?_
     refine fL (fun h2=>?_) fun h2=>?_
     ·have hk1:k+1<=wK m:=by
       rcases gI (wK m) (k+1) with h3 | h3
       ·have:=hw2 (k+1) (by omega) h3
        omega
       ·exact h3
      refine fV H fun r39 h H=>?_
      refine one (x:=1) H (by simp; omega) fun q' rest' h' H=>?_
      rw [show [sg]++List.replicate k 1++[1]=[sg]++List.replicate (k+1) 1 by rw [List.replicate_succ',fC]] at H ⊢
      refine fw (((k+1:Nat):Int)) (by exact fO _ _ (by omega) (by omega) (by omega)) ?_
      exact ⟨n-1,by omega,k+1,q',rest',by omega,hk1,rfl,H⟩
     ·have hkk:wK m=k:=by
       rcases gI k (wK m) with h3 | h3
       ·have:=Kz (show k+1<=wK m by omega) hwk
        omega
       ·omega
      rw [hkk]
      exact ⟨q,rest,rfl,H⟩
    ·have hkk:wK m=k:=by omega
     rw [hkk]
     exact ⟨q,rest,rfl,H⟩
   ·clear H
    rintro h u x xn xc k' ⟨q,rest,hxx,H⟩
    injection hxx with hx1 hxx
    injection hxx with hx2 hxx
    injection hx2 with _ hx2
    injection hx1 with hx1 hx3 hx4
    subst x xn xc k'
    refine ⟨fun vs h'=>∃ q rest,vs=[.slice (at0 q) (nr sg m).length (ints (nr sg m)++rest).length]/\Hp hB [] h' ([⟨q,true,gQ,ints (nr sg m)++rest⟩]++[⟨r23,true,gQ,Hv⟩,⟨r25,true,gQ,MA⟩]),?_,?_⟩
    ·refine fL (fun h1=>?_) fun h1=>?_
     ·have h1:wK m<5:=by omega
      refine fV H fun r49 h H=>?_
      refine one (x:=0) H (by simp; omega) fun q' rest' h' H=>?_
      have e:[sg]++List.replicate (wK m) 1++[0]=nr sg m:=by unfold nr; rw [if_pos h1]
      rw [e] at H ⊢
      exact ⟨q',rest',rfl,H⟩
     ·have e:[sg]++List.replicate (wK m) 1=nr sg m:=by unfold nr; rw [if_neg (by omega),fT]
      rw [e] at H ⊢
      exact ⟨q,rest,rfl,H⟩
    ·clear H
     rintro h u x xn xc ⟨q,rest,hxx,H⟩
     injection hxx with hx1 hxx
     injection hx1 with hx1 hx3 hx4
     subst x xn xc
     obtain ⟨g0,g1⟩:=Hu hwk
     refine fH (by omega) ?_
     rw [fD]
     refine fz (hpA H 2 rfl g1) ?_
     have hwid:=H9 _ hwk
     obtain ⟨w,hw⟩:∃ w,w=oS (wK m):=⟨_,rfl⟩
     obtain ⟨y,hy⟩:∃ y,y=m-ko (wK m):=⟨_,rfl⟩
     have hbits:mi sg m=nr sg m++jb y w:=by rw [hy,hw]; rfl
     have hbn:=AK sg m
     rw [hbits,fA,lY] at hbn
     rw [hbits] at hk
     rw [<- hw] at hwid ⊢
     refine fw (((w:Int)-1)) (by exact i64_in _ (by omega) (by omega)) ?_
     refine ⟨fun n vs h'=>∃ (i q:Nat) (rest:List Value),i+n=w/\vs=[.slice (at0 q) (nr sg m++(jb y w).take i).length (ints (nr sg m++(jb y w).take i)++rest).length,.int .i64 ((w:Int)-1-(i:Nat))]/\Hp hB [] h' ([⟨q,true,gQ,ints (nr sg m++(jb y w).take i)++rest⟩]++[⟨r23,true,gQ,Hv⟩,⟨r25,true,gQ,MA⟩]),
      ⟨w,0,q,rest,by omega,by simp,by simpa using H⟩,?_⟩
     clear H
     rintro n h u x xn xc k' ⟨i,q,rest,hin,hxx,H⟩
     injection hxx with hx1 hxx
     injection hxx with hx2 hxx
     injection hx2 with _ hx2
     injection hx1 with hx1 hx3 hx4
     subst x xn xc k'
     refine fL (fun h7=>?_) fun h7=>?_
     ·have hi:i<w:=by omega
      refine fH (by omega) ?_
      refine fz (hpA H 1 rfl g0) ?_
      refine fw (((y:Nat):Int)) (by exact fO _ _ (by omega) (by omega) (by omega)) ?_
      rw [show (w:Int)-1-(i:Nat)=((w-1-i:Nat):Int) by omega]
      refine fw (((w-1-i:Nat):Int)) (by exact u64_in _ (by omega) (by omega)) ?_
      refine fH (by omega) ?_
      refine fw (((y / 2 ^ (w-1-i):Nat):Int)) (by exact lG (by show _<=64; omega)) ?_
      obtain ⟨z,hz⟩:∃ z,z=y / 2 ^ (w-1-i):=⟨_,rfl⟩
      rw [<- hz]
      refine fw (((z % 2:Nat):Int)) (by exact (E6 _).trans (by omega)) ?_
      refine fV H fun r68 h H=>?_
      have htl:((jb y w).take i).length<=w:=by rw [iC,lY]; omega
      refine one (x:=z % 2) H (by rw [fA]; omega) fun q' rest' h' H=>?_
      rw [show nr sg m++(jb y w).take i++[z % 2]=nr sg m++(jb y w).take (i+1) by rw [nw hi,<- hz,fC]] at H ⊢
      refine fw (((w:Int)-1-(i+1:Nat))) (by exact fO _ _ (by omega) (by omega) (by omega)) ?_
      exact ⟨n-1,by omega,i+1,q',rest',by omega,rfl,H⟩
     ·have hi:w=i:=by omega
      subst hi
      rw [gz (by rw [lY]; exact gg _)] at H ⊢
      exact hk q rest h (Hp.pre H)
end
open Go.Ar (Cod CodOk idx qJ jI RP)
theorem Qk {m n0:Nat} {base:Int} {s:Cod} (hc:CodOk m n0 s):∀ (l:List Nat) (v:Nat),v<512->(∀ b∈l,b<=1)->n0+l.length<=16777216->CodOk m (n0+l.length) (uU m base l (v,s)).2/\(uU m base l (v,s)).1<512:=by
 intro l
 induction l generalizing n0 s with
 | nil=>intro v hv _ _; exact ⟨hc,hv⟩
 | cons b l ih =>
  intro v hv hb hn
  rw [gp] at hn ⊢
  have h1:=ih (qJ hc (idx (base+(v:Int)) m) b (by omega)) (jL v b) (FM hv (hb b (by simp))) (fun x hx=>hb x (gK _ hx)) (by omega)
  rw [show n0+(l.length+1)=n0+1+l.length by omega]
  exact h1
set_option maxHeartbeats 4000000 in
theorem Ob {h0 h:Heap} {FF:List Nat} {A:RP} {r m n0:Nat} {s:Cod} {rest:List Value} (HC:Hp h0 FF h (jI A r s rest)) (hc:CodOk m n0 s) (hm1:1<=m) (hm2:m<=131072) {base v:Int} {none:Bool} (hb:0<=base/\base<=131072) (hright:pd v none) (hN:n0+64<=16777216)
  {K:VK} {Kp:PK} (hk:∀ r' rest' h',Hp h0 FF h' (jI A r' (uU m base (mi (sgW v none) (mW v none)) (1,s)).2 rest')->K (.int .i64 0) h') :
  CP jZ #[.pointer (at0 A.p),.int .i64 base,.agg #[.int .i64 v,.bool none]] h K Kp:=by
 refine B2 ?_
 unfold wE
 have H:=Hp.nil h []
 refine fV H fun r3 h H=>?_
 refine fz (hpA H 0 rfl rfl) (gT (hpA H 0 rfl rfl) ?_)
 refine PA hright fun q qrest h1 H'=>?_
 replace H:=H.join H' rfl
 clear H'
 refine ⟨_,_,_,rfl,?_⟩
 have hs1:=Im v none
 obtain ⟨bits,hbits⟩:∃ bits,bits=mi (sgW v none) (mW v none):=⟨_,rfl⟩
 have hbl:=Gp (m:=mW v none) hs1
 have hbn:=AK (sgW v none) (mW v none)
 rw [<- hbits] at hbl hbn hk H ⊢
 have HJ:=HC.join H rfl
 have HJ:Hp h0 FF h1 (jI A r s rest++[⟨r3,true,iz,[.int .i64 v,.bool none]⟩,⟨q,true,gQ,ints bits++qrest⟩]):=HJ
 refine ⟨fun n vs h'=>∃ (i r':Nat) (rest':List Value),i+n=bits.length/\vs=[.int .i64 ((uU m base (bits.take i) (1,s)).1:Nat),.int .i64 (i:Nat)] /\
  Hp h0 FF h' (jI A r' (uU m base (bits.take i) (1,s)).2 rest'++[⟨r3,true,iz,[.int .i64 v,.bool none]⟩,⟨q,true,gQ,ints bits++qrest⟩]),⟨bits.length,0,r,rest,by omega,rfl,HJ⟩,?_⟩
 clear H HJ
 rintro n h u x y ⟨i,r',rest',hin,hxx,H⟩
 injection hxx with hx1 hxx
 injection hxx with hx2 hxx
 injection hx1 with _ hx1
 injection hx2 with _ hx2
 subst hx1 hx2
 have htl:(bits.take i).length<=i:=by rw [iC]; exact Nat.min_le_left _ _
 refine fL (fun h4=>?_) fun h4=>?_
 ·have hi:i<bits.length:=by omega
  obtain ⟨b,hbi⟩:∃ b,bits[i]? = some b:=⟨_,fP hi⟩
  have hb1:b<=1:=hbl b (fS hbi)
  have hlen:(bits.take i).length=i:=by rw [iC]; omega
  obtain ⟨hcod,hnode⟩:=Qk (base:=base) hc (bits.take i) 1 (by omega) (fun x hx=>hbl x (List.mem_of_mem_take hx)) (by omega)
  have hsn:uU m base (bits.take (i+1)) (1,s)=NX m base (uU m base (bits.take i) (1,s)) b:=by
   have e:bits.take (i+1)=bits.take i++[b]:=by
    rw [k6 hi]
    rw [(List.getElem?_eq_some_iff.1 hbi).2]
   rw [e,G9]
  rw [hlen] at hcod
  generalize uU m base (bits.take i) (1,s)=st at hcod hnode hsn H ⊢
  obtain ⟨node,S1⟩:=st
  have hnode:node<512:=hnode
  have hcod:CodOk m (n0+i) S1:=hcod
  have ic:(ints bits++qrest)[0+i*1]? = some (.int .i64 (b:Nat)):=by
   rw [fN,gu,gk (by rw [CD]; exact hi)]
   exact OW hbi
  refine fw ((base+(node:Int))) (by exact i64_in _ (by omega) (by omega)) ?_
  refine fH (by omega) (gv (a:=⟨q,0,Option.none⟩) ?_)
  rw [fD]
  refine fz (hpA H 6 rfl ic) ?_
  refine Go.Ar.ER (bit:=b) (H.JY [0,1,2,3,4] (by decide) rfl) hcod.wf hcod.done (by rw [hcod.n]; omega) (by rw [hcod.len]; exact hm1) (by rw [hcod.len]; exact hm2) hb1 fun r4 rest4 h5 H'=>?_
  replace H:=H.put [0,1,2,3,4] (by decide) rfl rfl H' rfl rfl
  clear H'
  rw [hcod.len] at H
  refine ⟨_,rfl,?_⟩
  refine fZ (by rfl) ?_
  refine fH (by omega) (gv (a:=⟨q,0,Option.none⟩) ?_)
  refine fz (hpA H 6 rfl ic) ?_
  refine MV hnode hb1 ?_
  refine ⟨_,rfl,?_⟩
  refine fw (((i+1:Nat):Int)) (by exact fO _ _ (by omega) (by omega) (by omega)) ?_
  exact ⟨n-1,by omega,i+1,r4,rest4,by omega,by rw [hsn]; rfl,by rw [hsn]; exact H⟩
 ·have hi:bits.length<=i:=by omega
  rw [gz hi] at H
  exact hk r' rest' h (Hp.pre H)
open Go.Ar (Cod CodOk gE iE iX)
def Sa (l:List (Int × Bool)) (s:Cod):Cod:=l.foldl (fun s x=>(uU 512 0 (mi (sgW x.1 x.2) (mW x.1 x.2)) (1,s)).2) s
def PU (l:List (Int × Bool)):Prop:=∀ x∈l,pd x.1 x.2
def Rr (l:List (Int × Bool)) (e:Int) (bs:List Nat):Prop :=
 ¬ PU l/\e=50/\bs=[]\/PU l/\e=0/\bs=iX (iE (Sa l (gE 512)))/\∃ n,n<=64*l.length/\CodOk 512 n (Sa l (gE 512))
variable {hB:Heap} {q1:Option Addr} {c1:Nat} {l:List (Int × Bool)} {K:VK} {Kp:PK}
end Go.Bm
namespace Go.Bm
open Go Go.Den Go.Den.YtbknfejmdekhpaaGreat
variable {h:Heap} {a b:Option Addr} {ca cb:Nat} {la lb:List (Int × Bool)} {K:VK} {Kp:PK}
end Go.Bm
namespace Go.Bm
open Go Go.Den Go.Den.YtbknfejmdekhpaaGreat
open Go.Ar (Dec BOk iW idx getD xX tg)
def um (m:Nat) (base:Int) (st:Nat × Dec):Nat × Dec:=(jL st.1 (getD st.2 (idx (base+(st.1:Nat)) m)).2,(getD st.2 (idx (base+(st.1:Nat)) m)).1)
def D4 (m:Nat) (base:Int) (st:Nat × Dec):Nat:=(getD st.2 (idx (base+(st.1:Nat)) m)).2
theorem IZ (m:Nat) (base:Int) (st:Nat × Dec):D4 m base st<=1:=tg _
variable {h0 h:Heap} {FF:List Nat} {e:Ent} {bp:Option Addr} {bc m n g:Nat} {bytes:List Nat} {base:Int} {K:VK} {Kp:PK}
set_option maxHeartbeats 2000000 in
theorem QI {p q v:Nat} {s:Dec} (H:Hp h0 FF h (iW p q e bp bc s++[⟨g,true,mA,[.pointer (at0 p),.int .i64 base,.int .i64 (v:Nat),.int .i64 0]⟩])) (hw:e.w=true) (hb:BOk e bp bytes) (hok:Go.Ar.nh bytes m n s) (hbl:bytes.length<140737488351300) (hn:n<16777216) (hm1:1<=m) (hm2:m<=131072) (hv:v<512) (hbase:-1<=base/\base<=131072)
  (hk:∀ h',Go.Ar.nh bytes m (n+1) (um m base (v,s)).2->(um m base (v,s)).1<512->Hp h0 FF h' (iW p q e bp bc (um m base (v,s)).2++[⟨g,true,mA,[.pointer (at0 p),.int .i64 base,.int .i64 ((um m base (v,s)).1:Nat),.int .i64 0]⟩])->K (.int .i64 (D4 m base (v,s):Nat)) h') :
  CP kZ #[.pointer (at0 g)] h K Kp:=by
 refine yN ?_
 unfold rU
 refine gv (a:=⟨g,0,none⟩) ?_
 refine fz (hpA H 3 rfl rfl) ?_
 refine fZ (by rfl) ?_
 refine gv (a:=⟨g,0,none⟩) (gv (a:=⟨g,0,none⟩) (gv (a:=⟨g,0,none⟩) ?_))
 refine ja (hpA H 3 rfl rfl) (fz (hpA H 3 rfl rfl) (fz (hpA H 3 rfl rfl) ?_))
 refine fw ((base+(v:Int))) (by exact i64_in _ (by omega) (by omega)) ?_
 refine Go.Ar.wv (H.JY [0,1,2] (by simp) rfl) (by rw [hok.b]; exact hb) hok.wf (by rw [hok.b]; exact hbl) (by rw [hok.n]; exact hn) (by rw [hok.len]; exact hm1) (by rw [hok.len]; exact hm2) fun h' H'=>?_
 replace H:=H.put [0,1,2] (by simp) rfl (by simp [iW,Go.Ar.yM,hw]) H' (by simp [iW,Go.Ar.yM,hw]) rfl
 clear H'
 rw [hok.len] at H ⊢
 have hb1:(getD s (idx (base+(v:Nat)) m)).2<=1:=tg _
 refine ⟨_,_,rfl,?_⟩
 refine gv (a:=⟨g,0,none⟩) ?_
 refine gq H 3 rfl (fB rfl) rfl fun h hz H=>?_
 refine gv (a:=⟨g,0,none⟩) ?_
 refine fz (hpA H 3 rfl rfl) ?_
 refine I6 hv hb1 ?_
 refine ⟨_,rfl,?_⟩
 refine gv (a:=⟨g,0,none⟩) ?_
 refine gq H 3 rfl (fB rfl) rfl fun h hz H=>?_
 exact hk h (xX hok _ hn) (FM hv hb1) H
end Go.Bm
namespace Go.Bm
open Go Go.Den Go.Den.YtbknfejmdekhpaaGreat
open Go.Ar (Dec)
def o9 (m:Nat) (base:Int):Nat->Nat->Nat × Dec->Nat × (Nat × Dec)
 | 0,k,st=>(k,st)
 | f+1,k,st=>if D4 m base st=1 then o9 m base f (k+1) (um m base st) else (k,um m base st)
def pF (m:Nat) (base:Int) (st:Nat × Dec):Nat->(Nat × Dec) × Nat
 | 0=>(st,0)
 | i+1=>(um m base (pF m base st i).1,2*(pF m base st i).2+D4 m base (pF m base st i).1)
theorem NT (m:Nat) (base:Int) (st:Nat × Dec) (i:Nat):(pF m base st i).2<2 ^ i:=by
 induction i with
 | zero=>exact Nat.one_pos
 | succ i ih =>
  have:=IZ m base (pF m base st i).1
  show 2*(pF m base st i).2+D4 m base (pF m base st i).1<_
  rw [jA]
  omega
def Nw (sg x:Nat):Int × Int × Bool:=if x > 2147483648 then (50,0,false) else if sg=1 then (if x=0 then (0,0,true) else (0,-(x:Int),false)) else (0,(x:Int),false)
def IT (m:Nat) (base:Int) (s:Dec):(Int × Int × Bool) × Dec :=
 (Nw (D4 m base (1,s)) ((pF m base (o9 m base 5 0 (um m base (1,s))).2 (oS (o9 m base 5 0 (um m base (1,s))).1)).2+ko (o9 m base 5 0 (um m base (1,s))).1),
  (pF m base (o9 m base 5 0 (um m base (1,s))).2 (oS (o9 m base 5 0 (um m base (1,s))).1)).1.2)
theorem NM (k:Nat):ko k<=4436:=by
 have:k=0\/k=1\/k=2\/k=3\/k=4\/k=5\/6<=k:=by omega
 rcases this with rfl | rfl | rfl | rfl | rfl | rfl | h
 all_goals first | decide | skip
 unfold ko
 rw [fY,iq (by simpa using h)]
 decide
variable {h0 h:Heap} {FF:List Nat} {e:Ent} {bp:Option Addr} {bc m n:Nat} {bytes:List Nat} {base:Int} {K:VK} {Kp:PK}
end Go.Bm
namespace Go.Bm
open Go Go.Den Go.Den.YtbknfejmdekhpaaGreat
open Go.Ar (Dec BOk iW)
variable {h0 h:Heap} {FF:List Nat} {e:Ent} {bp:Option Addr} {bc m n:Nat} {bytes:List Nat} {base:Int} {K:VK} {Kp:PK}
set_option maxHeartbeats 4000000 in
theorem P0 {p q:Nat} {s:Dec} (HC:Hp h0 FF h (iW p q e bp bc s)) (hw:e.w=true) (hb:BOk e bp bytes) (hok:Go.Ar.nh bytes m n s) (hbl:bytes.length<140737488351300) (hn:n+64<=16777216) (hm1:1<=m) (hm2:m<=131072) (hfit:0<=base/\base+(512:Nat)<=(m:Nat))
  (hk:∀ h' n',n'<=n+64->Go.Ar.nh bytes m n' (IT m base s).2->Hp h0 FF h' (iW p q e bp bc (IT m base s).2)->K (.tuple #[.agg #[.int .i64 (IT m base s).1.2.1,.bool (IT m base s).1.2.2],.int .i64 (IT m base s).1.1]) h') :
  CP Ak #[.pointer (at0 p),.int .i64 base] h K Kp:=by
 refine Gh ?_
 unfold Db
 have H:=Hp.nil h []
 refine fV H fun r1 h H=>?_
 refine fZ (by rfl) ?_
 refine gv (a:=⟨p,0,none⟩) ?_
 refine Go.Ar.qx (n:=s.st.length) (HC.ext H.gi) 0 rfl ?_
 refine ⟨_,rfl,?_⟩
 rw [hok.len]
 refine Fa (many:=512) (all:=m) (by decide) (by omega) fun bf hbf=>?_
 refine ⟨_,rfl,?_⟩
 refine iM (fun h2=>absurd (hbf.2 hfit) (by rw [h2]; decide)) fun h2=>?_
 have hbase:-1<=base/\base<=131072:=by omega
 refine fV H fun r3 h H=>?_
 have H:=(HC.join H rfl).pick [0,1,2,4,3] (by decide) (L':=iW p q e bp bc s++([⟨r3,true,mA,[.pointer (at0 p),.int .i64 base,.int .i64 (1:Nat),.int .i64 0]⟩]++[⟨r1,true,iz,[.int .i64 0,.bool false]⟩])) rfl
 obtain ⟨Q,hQ⟩:∃ Q:List Ent->Nat × Dec->List Ent,Q=fun Y st=>iW p q e bp bc st.2++([⟨r3,true,mA,[.pointer (at0 p),.int .i64 base,.int .i64 (st.1:Nat),.int .i64 0]⟩]++Y):=⟨_,rfl⟩
 have hQd:∀ Y st,Q Y st=iW p q e bp bc st.2++([⟨r3,true,mA,[.pointer (at0 p),.int .i64 base,.int .i64 (st.1:Nat),.int .i64 0]⟩]++Y):=fun Y st=>by rw [hQ]
 rw [<- hQd _ (1,s)] at H
 have gb:∀ {Y:List Ent} {h:Heap} {st:Nat × Dec} {n:Nat} {K1:VK},Hp h0 FF h (Q Y st)->Go.Ar.nh bytes m n st.2->st.1<512->n<16777216 ->
   (∀ h',Go.Ar.nh bytes m (n+1) (um m base st).2->(um m base st).1<512->Hp h0 FF h' (Q Y (um m base st))->K1 (.int .i64 (D4 m base st:Nat)) h') ->
   CP kZ #[.pointer (at0 r3)] h K1 Kp:=fun {Y h st n K1} H hok hv hn hk1=>by
  obtain ⟨v,s⟩:=st
  rw [hQd] at H
  refine QI (H.JY [0,1,2,3] (by simp) rfl) hw hb hok hbl hn hm1 hm2 hv hbase fun h' hok' hv' H'=>?_
  have H:=H.put [0,1,2,3] (by simp) rfl (by simp [iW,Go.Ar.yM,hw]) H' (by simp [iW,Go.Ar.yM,hw]) rfl
  exact hk1 h' hok' hv' (by rw [hQd]; exact H)
 clear HC
 refine gb H hok (by show 1<512; omega) (by omega) fun h hok1 hv1 H=>?_
 refine ⟨_,rfl,?_⟩
 have hsb:=IZ m base (1,s)
 unfold IT at hk
 generalize D4 m base (1,s)=sg at hk hsb ⊢
 generalize um m base (1,s)=st1 at hk hok1 hv1 H ⊢
 refine GU fun rz h H'=>?_
 rw [hQd] at H
 have H:=H.join H' rfl
 clear H'
 refine ⟨_,_,_,rfl,?_⟩
 obtain ⟨P,hP⟩:∃ P:Nat × Dec->List Ent,P=Q [⟨r1,true,iz,[.int .i64 0,.bool false]⟩,⟨rz,true,lv,yB⟩]:=⟨_,rfl⟩
 have hPd:∀ st,P st=iW p q e bp bc st.2++([⟨r3,true,mA,[.pointer (at0 p),.int .i64 base,.int .i64 (st.1:Nat),.int .i64 0]⟩]++[⟨r1,true,iz,[.int .i64 0,.bool false]⟩,⟨rz,true,lv,yB⟩]):=fun st=>by rw [hP,hQd]
 have H:Hp h0 FF h (P st1):=by rw [hPd]; exact H
 replace gb:∀ {h:Heap} {st:Nat × Dec} {n:Nat} {K1:VK},Hp h0 FF h (P st)->Go.Ar.nh bytes m n st.2->st.1<512->n<16777216 ->
   (∀ h',Go.Ar.nh bytes m (n+1) (um m base st).2->(um m base st).1<512->Hp h0 FF h' (P (um m base st))->K1 (.int .i64 (D4 m base st:Nat)) h') ->
   CP kZ #[.pointer (at0 r3)] h K1 Kp:=fun H hok hv hn hk1=>by rw [hP] at H hk1; exact gb H hok hv hn hk1
 refine ⟨fun vs h'=>∃ n',n'<=n+6/\vs=[.int .i64 ((o9 m base 5 0 st1).1:Nat)]/\(o9 m base 5 0 st1).1<=5/\Go.Ar.nh bytes m n' (o9 m base 5 0 st1).2.2/\(o9 m base 5 0 st1).2.1<512/\Hp h0 FF h' (P (o9 m base 5 0 st1).2),?_,?_⟩
 ·refine ⟨fun f vs h'=>∃ (k:Nat) (st:Nat × Dec),f+k=5/\vs=[.int .i64 (k:Nat)]/\o9 m base f k st=o9 m base 5 0 st1/\Go.Ar.nh bytes m (n+1+k) st.2/\st.1<512/\Hp h0 FF h' (P st),⟨5,0,st1,rfl,rfl,rfl,hok1,hv1,H⟩,?_⟩
  rintro f h u x ⟨k,st,hfk,hxx,hon,hok2,hv2,H⟩
  injection hxx with hx1 hxx
  injection hx1 with _ hx1
  subst hx1
  refine fw ((5:Int)) (by rfl) ?_
  refine fL (fun h4=>?_) fun h4=>?_
  ·obtain ⟨f,rfl⟩:∃ g,f=g+1:=⟨f-1,by omega⟩
   refine gb H hok2 hv2 (by omega) fun h hok3 hv3 H=>?_
   refine ⟨_,rfl,?_⟩
   have hon:(if D4 m base st=1 then o9 m base f (k+1) (um m base st) else (k,um m base st))=o9 m base 5 0 st1:=hon
   refine iA (fun h5=>?_) fun h5=>?_
   ·rw [if_pos (by omega)] at hon
    refine fw (((k+1:Nat):Int)) (by exact fO _ _ (by omega) (by omega) (by omega)) ?_
    exact ⟨f,by omega,k+1,um m base st,by omega,rfl,hon,hok3,hv3,H⟩
   ·rw [if_neg (by omega)] at hon
    rw [<- hon]
    exact ⟨n+1+k+1,by omega,rfl,by show k<=5; omega,hok3,hv3,H⟩
  ·obtain rfl:f=0:=by omega
   have hon:(k,st)=o9 m base 5 0 st1:=hon
   rw [<- hon]
   exact ⟨n+1+k,by omega,rfl,by show k<=5; omega,hok2,hv2,H⟩
 rintro h u x ⟨n1,hn1,hxx,hk5,hok2,hv2,H⟩
 injection hxx with hx1 hxx
 injection hx1 with _ hx1
 subst hx1
 generalize (o9 m base 5 0 st1).1=kk at hk hk5 ⊢
 generalize (o9 m base 5 0 st1).2=st2 at hk hok2 hv2 H ⊢
 have hwl:=H9 kk
 have hfl:=NM kk
 refine fH (by omega) (gv (a:=⟨rz,0,none⟩) ?_)
 have hadd:((⟨rz,0,none⟩:Addr).add (kk*2))=⟨rz,0+kk*2,none⟩:=by rw [gC]
 rw [fD,hadd]
 refine fz (hpA (o:=0+kk*2) (i:=1) (by rw [hPd] at H; exact H) 5 rfl (by rw [fN]; exact (Dn hk5).2)) ?_
 refine ⟨fun f vs h'=>∃ i:Nat,f+i=oS kk/\vs=[.int .i64 ((pF m base st2 i).2:Nat),.int .i64 (i:Nat)]/\Go.Ar.nh bytes m (n1+i) (pF m base st2 i).1.2/\(pF m base st2 i).1.1<512/\Hp h0 FF h' (P (pF m base st2 i).1),⟨oS kk,0,by omega,rfl,hok2,hv2,H⟩,?_⟩
 rintro f h u x y ⟨i,hfi,hxx,hok3,hv3,H⟩
 injection hxx with hx1 hxx
 injection hxx with hx2 hxx
 injection hx1 with _ hx1
 injection hx2 with _ hx2
 subst hx1 hx2
 have htl:=NT m base st2 i
 have hpw:2 ^ i<=2 ^ 32:=im (by omega) (by omega)
 have hp32:(2:Nat) ^ 32=4294967296:=rfl
 have hbw:=IZ m base (pF m base st2 i).1
 refine fL (fun h4=>?_) fun h4=>?_
 ·refine fw (((2*(pF m base st2 i).2:Nat):Int)) (by exact fO _ _ (by omega) (by omega) (by omega)) ?_
  refine gb H hok3 hv3 (by omega) fun h hok4 hv4 H=>?_
  refine ⟨_,rfl,?_⟩
  refine fw (((2*(pF m base st2 i).2+D4 m base (pF m base st2 i).1:Nat):Int)) (by exact fO _ _ (by omega) (by omega) (by omega)) ?_
  refine fw (((i+1:Nat):Int)) (by exact fO _ _ (by omega) (by omega) (by omega)) ?_
  exact ⟨f-1,by omega,i+1,by omega,rfl,hok4,hv4,H⟩
 obtain rfl:i=oS kk:=by omega
 generalize pF m base st2 (oS kk)=T at hk hok3 hv3 H htl hbw ⊢
 obtain ⟨st3,t⟩:=T
 have hk:=hk
 simp only at hk hok3 hv3 H htl
 refine fH (by omega) (gv (a:=⟨rz,0,none⟩) ?_)
 rw [hadd]
 refine fz (hpA (o:=0+kk*2) (i:=0) (by rw [hPd] at H; exact H) 5 rfl (by rw [fN]; exact (Dn hk5).1)) ?_
 refine fw (((ko kk:Nat):Int)) (by exact i64_in _ (by omega) (by omega)) ?_
 refine fw (((t+ko kk:Nat):Int)) (by exact fO _ _ (by omega) (by omega) (by omega)) ?_
 rw [hPd] at H
 refine fz (hpA H 3 rfl rfl) ?_
 refine fZ (by rfl) ?_
 have hkk:=fun h'=>hk h' (n1+oS kk) (by omega) hok3
 clear hk
 generalize t+ko kk=X at hkk ⊢
 refine fL (fun h5=>?_) fun h5=>?_
 ·refine gq H 4 rfl (fB rfl) rfl fun h hz H=>?_
  refine gq H 4 rfl (fB rfl) rfl fun h hz H=>?_
  refine fz (hpA H 4 rfl rfl) (gT (hpA H 4 rfl rfl) ?_)
  unfold Nw at hkk
  rw [if_pos (by omega)] at hkk
  exact hkk _ (Hp.pre H)
 unfold Nw at hkk
 rw [if_neg (by omega)] at hkk
 refine ⟨fun vs h'=>vs=[.bool (decide (sg=1/\X=0))]/\h'=h,?_,?_⟩
 ·refine iA (fun h6=>?_) fun h6=>?_
  ·refine ⟨?_,rfl⟩
   have:((X:Int) == 0)=decide (sg=1/\X=0):=by
    by_cases hx:X=0
    ·subst hx; simp; omega
    ·simp [hx]
   rw [this]
  ·refine ⟨?_,rfl⟩
   rw [decide_eq_false (fun hh=>h6 (by omega))]
 rintro h' u x ⟨hxx,rfl⟩
 injection hxx with hx1 hxx
 injection hx1 with hx1
 subst hx1
 refine fL (fun h6=>?_) fun h6=>?_
 ·refine gq H 4 rfl (fB rfl) rfl fun h hz H=>?_
  refine gq H 4 rfl (fB rfl) rfl fun h hz H=>?_
  refine fz (hpA H 4 rfl rfl) (gT (hpA H 4 rfl rfl) ?_)
  rw [if_pos h6.1,if_pos h6.2] at hkk
  exact hkk _ (Hp.pre H)
 refine iA (fun h7=>?_) fun h7=>?_
 ·refine fw ((-(X:Int))) (by (rw [Int.zero_sub]; exact i64_in _ (by omega) (by omega))) ?_
  refine gq H 4 rfl (fB rfl) rfl fun h hz H=>?_
  refine gq H 4 rfl (fB rfl) rfl fun h hz H=>?_
  refine fz (hpA H 4 rfl rfl) (gT (hpA H 4 rfl rfl) ?_)
  rw [if_pos (by omega),if_neg (by omega)] at hkk
  exact hkk _ (Hp.pre H)
 ·refine gq H 4 rfl (fB rfl) rfl fun h hz H=>?_
  refine gq H 4 rfl (fB rfl) rfl fun h hz H=>?_
  refine fz (hpA H 4 rfl rfl) (gT (hpA H 4 rfl rfl) ?_)
  rw [if_neg (by omega)] at hkk
  exact hkk _ (Hp.pre H)
end Go.Bm
namespace Go.Bm
open Go Go.Den Go.Den.YtbknfejmdekhpaaGreat
variable {hB:Heap} {q1:Option Addr} {c1:Nat} {b:List Nat} {n:Int} {K:VK} {Kp:PK}
end Go.Bm
namespace Go.Bm
open Go Go.Den Go.Den.YtbknfejmdekhpaaGreat
variable {hB:Heap} {q1:Option Addr} {c1:Nat} {b:List Nat} {n:Int} {K:VK} {Kp:PK}
end Go.Bm
namespace Go.Bm
open Go Go.Den Go.Den.YtbknfejmdekhpaaGreat
variable {hB:Heap} {K:VK} {Kp:PK}
end Go.Bm
namespace Go.Bm
open Go Go.Den Go.Den.YtbknfejmdekhpaaGreat
open Go.Ar (Cod Dec idx oo getD)
def dsN (nx:Nat->Nat->Nat) (m:Nat) (base:Int):List Nat->Nat->List (Nat × Nat)
 | [],_=>[]
 | b::l,v=>(idx (base+(v:Int)) m,b)::dsN nx m base l (nx v b)
def ndN (nx:Nat->Nat->Nat) (l:List Nat) (v:Nat):Nat:=l.foldl nx v
theorem IQ (nx:Nat->Nat->Nat) (m:Nat) (base:Int):∀ (l:List Nat) (v:Nat),(dsN nx m base l v).length=l.length
 | [],_=>rfl
 | b::l,v=>by unfold dsN; rw [gp,gp,IQ nx m base l]
theorem IS (nx:Nat->Nat->Nat) (m:Nat) (base:Int):∀ (l:List Nat) (v:Nat),(∀ b∈l,b<=1)->∀ d∈dsN nx m base l v,d.2<=1
 | [],_,_=>fun d hd=>by cases hd
 | b::l,v,h=>fun d hd=>by
  unfold dsN at hd
  rcases List.mem_cons.1 hd with rfl | hd
  ·exact h b (jc ..)
  ·exact IS nx m base l _ (fun b' hb=>h b' (gK _ hb)) d hd
theorem vN (nx:Nat->Nat->Nat) (m:Nat) (base:Int):∀ (l l':List Nat) (v:Nat),dsN nx m base (l++l') v=dsN nx m base l v++dsN nx m base l' (ndN nx l v)
 | [],_,_=>rfl
 | b::l,l',v=>by
  show (_,b)::dsN nx m base (l++l') (nx v b)=(_,b)::(dsN nx m base l (nx v b)++dsN nx m base l' (ndN nx l (nx v b)))
  rw [vN nx m base l l' (nx v b)]
theorem IB (nx:Nat->Nat->Nat) (l l':List Nat) (v:Nat):ndN nx (l++l') v=ndN nx l' (ndN nx l v):=GA
def Dp (nx:Nat->Nat->Nat) (m:Nat) (base:Int) (l:List Nat) (x:Nat × Cod):Nat × Cod:=l.foldl (fun x b=>(nx x.1 b,oo x.2 (idx (base+(x.1:Int)) m) b)) x
theorem G8 (nx:Nat->Nat->Nat) (m:Nat) (base:Int) (l:List Nat) (b:Nat) (x:Nat × Cod):Dp nx m base (l++[b]) x=(nx (Dp nx m base l x).1 b,oo (Dp nx m base l x).2 (idx (base+((Dp nx m base l x).1:Int)) m) b):=by
 unfold Dp
 rw [GA]
 rfl
theorem Ft (nx:Nat->Nat->Nat) (m:Nat) (base:Int):∀ (l:List Nat) (v:Nat) (L:List (Nat × Nat)),Dp nx m base l (v,cdL m L)=(ndN nx l v,cdL m (L++dsN nx m base l v))
 | [],v,L=>by show (v,cdL m L)=(v,cdL m (L++[])); rw [fT]
 | b::l,v,L=>by
  show Dp nx m base l (nx v b,oo (cdL m L) (idx (base+(v:Int)) m) b)=(ndN nx l (nx v b),cdL m (L++((idx (base+(v:Int)) m,b)::dsN nx m base l (nx v b))))
  rw [<- CO m L (idx (base+(v:Int)) m,b),Ft nx m base l,fC]
  rfl
def nY (m:Nat) (base v:Int) (none:Bool):List (Nat × Nat):=dsN jL m base (mi (sgW v none) (mW v none)) 1
theorem ow (m:Nat) (base v:Int) (none:Bool):(nY m base v none).length<=39:=by
 unfold nY
 rw [IQ]
 exact AK _ _
theorem zF (m:Nat) (base v:Int) (none:Bool):∀ d∈nY m base v none,d.2<=1:=IS _ _ _ _ _ (Gp (Im v none))
theorem N6 (m:Nat) (base v:Int) (none:Bool) (L:List (Nat × Nat)):(uU m base (mi (sgW v none) (mW v none)) (1,cdL m L)).2=cdL m (L++nY m base v none):=by
 rw [show uU m base (mi (sgW v none) (mW v none)) (1,cdL m L)=Dp jL m base (mi (sgW v none) (mW v none)) (1,cdL m L) from rfl,Ft]
 rfl
def qv (v b:Nat):Nat:=2*v+b
def GC (m:Nat) (base:Int) (l:List Nat) (x:Nat × Cod):Nat × Cod:=Dp qv m base l x
def wx (m:Nat) (base:Int) (w x:Nat):List (Nat × Nat):=dsN qv m base (jb x w) 1
theorem F6 (m:Nat) (base:Int) (w x:Nat):(wx m base w x).length=w:=by
 unfold wx
 rw [IQ,lY]
theorem MH (x w:Nat):∀ b∈jb x w,b<=1:=fun b hb=>by
 unfold jb at hb
 obtain ⟨i,_,rfl⟩:=List.mem_map.1 hb
 exact Gz (iP _ (by decide))
theorem Pk (m:Nat) (base:Int) (w x:Nat):∀ d∈wx m base w x,d.2<=1:=IS _ _ _ _ _ (MH x w)
theorem N8 (m:Nat) (base:Int) (w x:Nat) (L:List (Nat × Nat)):(GC m base (jb x w) (1,cdL m L)).2=cdL m (L++wx m base w x):=by
 unfold GC
 rw [Ft]
 rfl
theorem ndI (x w:Nat) (hx:x<2 ^ w):∀ i,i<=w->ndN qv ((jb x w).take i) 1=2 ^ i+x / 2 ^ (w-i)
 | 0,_=>by
  rw [An,lf hx]
  rfl
 | i+1,hi=>by
  rw [nw (by omega),IB,ndI x w hx i (by omega)]
  show 2*(2 ^ i+x / 2 ^ (w-i))+x / 2 ^ (w-1-i) % 2=_
  rw [show w-i=(w-1-i)+1 by omega,show w-(i+1)=w-1-i by omega,jA,jA,<- yF]
  omega
def QG (m:Nat) (base:Int) (st:Nat × Dec):Nat × Dec:=(qv st.1 (getD st.2 (idx (base+(st.1:Nat)) m)).2,(getD st.2 (idx (base+(st.1:Nat)) m)).1)
def itI (m:Nat) (base:Int) (st:Nat × Dec):Nat->Nat × Dec
 | 0=>st
 | i+1=>QG m base (itI m base st i)
theorem OS (m:Nat) (base:Int) (s:Dec):∀ i,2 ^ i<=(itI m base (1,s) i).1/\(itI m base (1,s) i).1<2 ^ (i+1)
 | 0=>⟨gg _,by show 1<2; omega⟩
 | i+1=>by
  have ih:=OS m base s i
  have hb:(getD (itI m base (1,s) i).2 (idx (base+((itI m base (1,s) i).1:Nat)) m)).2<=1:=Go.Ar.tg _
  show 2 ^ (i+1)<=2*(itI m base (1,s) i).1+_/\2*(itI m base (1,s) i).1+_<2 ^ (i+1+1)
  rw [jA 2 (i+1),jA 2 i] at *
  omega
section
variable {L:List (Nat × Nat)} {D:Nat->Dec} (hW:Walk L D) {m:Nat} {base:Int}
include hW
theorem EW {A B:List (Nat × Nat)} {v b:Nat} (e:L=A++(idx (base+(v:Int)) m,b)::B):um m base (v,D A.length)=(jL v b,D (A++[(idx (base+(v:Int)) m,b)]).length)/\D4 m base (v,D A.length)=b:=by
 have h:=hW.at e
 unfold um D4
 dsimp only at h ⊢
 rw [h,fA]
 exact ⟨rfl,rfl⟩
theorem J1:∀ (j f k:Nat) (A B:List (Nat × Nat)) (v:Nat),j<=f->L=A++(dsN jL m base (List.replicate j 1++(if j<f then [0] else [])) v++B) ->
  o9 m base f k (v,D A.length)=(k+j,(ndN jL (List.replicate j 1++(if j<f then [0] else [])) v,D (A++dsN jL m base (List.replicate j 1++(if j<f then [0] else [])) v).length))
 | 0,0,k,A,B,v,_,_=>by simp [o9,ndN,dsN]
 | 0,f+1,k,A,B,v,_,e=>by
  rw [if_pos (by omega)] at e ⊢
  obtain ⟨h1,h2⟩:=EW hW (A:=A) (B:=B) (v:=v) (b:=0) e
  unfold o9
  rw [h2,if_neg (by omega),h1]
  rfl
 | j+1,f+1,k,A,B,v,hj,e=>by
  have hif:(if j+1<f+1 then [0] else ([]:List Nat))=if j<f then [0] else []:=by
   by_cases h:j<f
   ·rw [if_pos h,if_pos (by omega)]
   ·rw [if_neg h,if_neg (by omega)]
  rw [hif] at e ⊢
  rw [List.replicate_succ,gm] at e ⊢
  have e:L=A++(idx (base+(v:Int)) m,1)::(dsN jL m base (List.replicate j 1++(if j<f then [0] else [])) (jL v 1)++B):=e
  obtain ⟨h1,h2⟩:=EW hW e
  have ih:=J1 j f (k+1) (A++[(idx (base+(v:Int)) m,1)]) B (jL v 1) (by omega) (by rw [fC]; exact e)
  unfold o9
  rw [h2,if_pos rfl,h1,ih]
  show _=(k+(j+1),ndN jL (List.replicate j 1++(if j<f then [0] else [])) (jL v 1),D (A++([(idx (base+(v:Int)) m,1)]++dsN jL m base (List.replicate j 1++(if j<f then [0] else [])) (jL v 1))).length)
  rw [<- fC,show k+1+j=k+(j+1) by omega]
theorem JZ {A:List (Nat × Nat)} {x w v:Nat} (hx:x<2 ^ w):∀ i,i<=w->∀ B,L=A++(dsN jL m base ((jb x w).take i) v++B) ->
  pF m base (v,D A.length) i=((ndN jL ((jb x w).take i) v,D (A++dsN jL m base ((jb x w).take i) v).length),x / 2 ^ (w-i))
 | 0,_,B,_=>by
  rw [An,lf hx]
  simp [pF,ndN,dsN]
 | i+1,hi,B,e=>by
  rw [nw (by omega),vN,fC] at e
  have ih:=JZ hx i (by omega) _ e
  have e2:L=(A++dsN jL m base ((jb x w).take i) v)++(idx (base+((ndN jL ((jb x w).take i) v:Nat):Int)) m,x / 2 ^ (w-1-i) % 2)::B:=by rw [e,fC]; rfl
  obtain ⟨h1,h2⟩:=EW hW e2
  unfold pF
  rw [ih]
  dsimp only
  rw [h1,h2,nw (by omega),vN,IB,fC]
  refine Prod.ext rfl ?_
  show 2*(x / 2 ^ (w-i))+x / 2 ^ (w-1-i) % 2=x / 2 ^ (w-(i+1))
  rw [show w-i=(w-1-i)+1 by omega,show w-(i+1)=w-1-i by omega,jA,<- yF]
  omega
theorem QF {A B:List (Nat × Nat)} {sg x:Nat} (hs:sg<=1) (hx:x<=2147483648) (e:L=A++(dsN jL m base (mi sg x) 1++B)) :
  IT m base (D A.length)=(Nw sg x,D (A++dsN jL m base (mi sg x) 1).length):=by
 have hb:mi sg x=sg::((List.replicate (wK x) 1++(if wK x<5 then [0] else []))++(jb (x-ko (wK x)) (oS (wK x))).take (oS (wK x))):=by
  unfold mi nr
  rw [gz (by rw [lY]; exact gg _)]
  simp
 obtain ⟨hk1,hk2⟩:=Ia x
 have hk5:=LH x
 have hw:x-ko (wK x)<2 ^ oS (wK x):=by
  have:wK x=0\/wK x=1\/wK x=2\/wK x=3\/wK x=4\/wK x=5:=by omega
  rcases this with h | h | h | h | h | h <;> rw [h] at hk1 hk2 ⊢
  ·have:=hk2 1 (by omega) (by omega); simp [ko,oS] at this ⊢; omega
  ·have:=hk2 2 (by omega) (by omega); simp [ko,oS] at this ⊢; omega
  ·have:=hk2 3 (by omega) (by omega); simp [ko,oS] at this ⊢; omega
  ·have:=hk2 4 (by omega) (by omega); simp [ko,oS] at this ⊢; omega
  ·have:=hk2 5 (by omega) (by omega); simp [ko,oS] at this ⊢; omega
  ·simp [ko,oS]; omega
 rw [hb] at e ⊢
 generalize hH:(List.replicate (wK x) 1++(if wK x<5 then [0] else []):List Nat)=hd at e ⊢
 have e1:L=A++(idx (base+((1:Nat):Int)) m,sg)::(dsN jL m base (hd++(jb (x-ko (wK x)) (oS (wK x))).take (oS (wK x))) (jL 1 sg)++B):=e
 obtain ⟨h1,h2⟩:=EW hW e1
 rw [vN] at e1
 have e2:L=(A++[(idx (base+((1:Nat):Int)) m,sg)])++(dsN jL m base hd (jL 1 sg)++(dsN jL m base ((jb (x-ko (wK x)) (oS (wK x))).take (oS (wK x))) (ndN jL hd (jL 1 sg))++B)):=by
  rw [e1]; simp
 have h3:=J1 hW (wK x) 5 0 _ _ (jL 1 sg) hk5 (by rw [hH]; exact e2)
 rw [hH] at h3
 have h4:=JZ hW hw (oS (wK x)) (gg _) B (A:=A++[(idx (base+((1:Nat):Int)) m,sg)]++dsN jL m base hd (jL 1 sg)) (v:=ndN jL hd (jL 1 sg)) (by rw [e2,fC _ (dsN jL m base hd (jL 1 sg))])
 rw [iH,tr,C6] at h4
 unfold IT
 rw [h1,h2,h3]
 dsimp only
 rw [fN,h4]
 dsimp only
 rw [show x-ko (wK x)+ko (wK x)=x by omega]
 refine Prod.ext rfl ?_
 show D _=D (A++((idx (base+((1:Nat):Int)) m,sg)::dsN jL m base (hd++(jb (x-ko (wK x)) (oS (wK x))).take (oS (wK x))) (jL 1 sg))).length
 rw [vN]
 simp
theorem R3 {A B:List (Nat × Nat)} {v:Int} {none:Bool} (hr:pd v none) (e:L=A++(nY m base v none++B)) :
  IT m base (D A.length)=((0,(if none=true then 0 else v),none),D (A++nY m base v none).length):=by
 have hm:=Rf hr
 rw [QF hW (Im v none) hm e]
 refine Prod.ext ?_ rfl
 show Nw (sgW v none) (mW v none)=_
 unfold Nw
 rw [if_neg (by omega)]
 cases none with
 | true=>rfl
 | false =>
  have e0:mW v false=v.natAbs:=rfl
  have hm2:v.natAbs<=2147483648:=hm
  rw [e0]
  by_cases hv:v<0
  ·have e1:¬ v.natAbs=0:=by omega
   have e2:sgW v false=1:=by unfold sgW; rw [if_neg (by decide),if_pos hv]
   rw [e2,if_pos rfl,if_neg e1,show (-((v.natAbs:Nat):Int))=v by omega]
   rfl
  ·have e2:sgW v false=0:=by unfold sgW; rw [if_neg (by decide),if_neg hv]
   rw [e2,if_neg (by decide),show (((v.natAbs:Nat):Int))=v by omega]
   rfl
theorem O5 {A B:List (Nat × Nat)} {w x:Nat} (hx:x<2 ^ w) (e:L=A++(wx m base w x++B)):∀ i,i<=w ->
  itI m base (1,D A.length) i=(ndN qv ((jb x w).take i) 1,D (A++dsN qv m base ((jb x w).take i) 1).length)
 | 0,_=>by simp [itI,ndN,dsN]
 | i+1,hi=>by
  have ih:=O5 hx e i (by omega)
  have e2:jb x w=(jb x w).take (i+1)++(jb x w).drop (i+1):=(iT _ _).symm
  unfold wx at e
  rw [e2,nw (by omega),vN,vN,fC,fC] at e
  have e3:L=(A++dsN qv m base ((jb x w).take i) 1)++(idx (base+((ndN qv ((jb x w).take i) 1:Nat):Int)) m,x / 2 ^ (w-1-i) % 2)::(dsN qv m base ((jb x w).drop (i+1)) (ndN qv ((jb x w).take i++[x / 2 ^ (w-1-i) % 2]) 1)++B):=by rw [e,fC]; rfl
  have h:=hW.at e3
  unfold itI
  rw [ih]
  unfold QG
  dsimp only at h ⊢
  rw [h,nw (by omega),vN,IB]
  refine Prod.ext rfl ?_
  show D (_+1)=D (A++(dsN qv m base ((jb x w).take i) 1++[(_,_)])).length
  rw [<- fC]; simp only [fA,gJ]
theorem R4 {A B:List (Nat × Nat)} {w x:Nat} (hx:x<2 ^ w) (e:L=A++(wx m base w x++B)):itI m base (1,D A.length) w=(2 ^ w+x,D (A++wx m base w x).length):=by
 have ht:(jb x w).take w=jb x w:=gz (by rw [lY]; exact gg _)
 have h:=O5 hW hx e w (gg _)
 have hn:=ndI x w hx w (gg _)
 rw [ht] at h hn
 rw [h,hn,iH,tr,C6]
 rfl
end
open Go.Ar (gE)
theorem Rr.bytes {l:List (Int × Bool)} {e:Int} {bs:List Nat} (h:Rr l e bs):(∀ x∈bs,x<256)/\bs.length<140737488351300:=by
 rcases h with ⟨_,_,rfl⟩ | ⟨_,_,rfl,n,hn,hok⟩
 ·exact ⟨(fun x hx=>by cases hx),by decide⟩
 ·refine ⟨Go.Ar.AG hok.wf,?_⟩
  have h1:=Go.Ar.BL (Sa l (gE 512))
  have h2:=hok.wf.len
  have h3:=hok.wf.n
  omega
open Go.Ar (Cod CodOk Dec BOk ju iW jI RP idx oo qJ getD xX tg)
theorem LR {nx:Nat->Nat->Nat} {m n0:Nat} {base:Int} {s:Cod} (hc:CodOk m n0 s):∀ (l:List Nat) (v:Nat),n0+l.length<=16777216->CodOk m (n0+l.length) (Dp nx m base l (v,s)).2:=by
 intro l
 induction l generalizing n0 s with
 | nil=>intro v _; exact hc
 | cons b l ih =>
  intro v hn
  rw [gp] at hn ⊢
  have h1:=ih (qJ hc (idx (base+(v:Int)) m) b (by omega)) (nx v b) (by omega)
  rw [show n0+(l.length+1)=n0+1+l.length by omega]
  exact h1
theorem Jn (nx:Nat->Nat->Nat) (m:Nat) (base:Int) (s:Cod):∀ (l:List Nat) (v:Nat),(Dp nx m base l (v,s)).1=ndN nx l v:=by
 intro l
 induction l generalizing s with
 | nil=>intro v; rfl
 | cons b l ih=>intro v; exact ih (oo s (idx (base+(v:Int)) m) b) (nx v b)
def uf (base:Int) (w m:Nat):Prop:=0<=base/\base+((2 ^ w:Nat):Int)<=(m:Int)
theorem Be {w:Nat} (h:w<=12):1<=2 ^ w/\2 ^ w<=4096:=by
 have h1:(2:Nat) ^ w<=2 ^ 12:=im (by decide) h
 have h2:0<(2:Nat) ^ w:=Nat.pow_pos (by decide)
 have h3:(2:Nat) ^ 12=4096:=by decide
 omega
theorem Ct {w:Nat} (h:w<=12):lT .i64 (1:Int) ((w:Nat):Int)=((2 ^ w:Nat):Int):=by
 have hp:=Be h
 refine lP (x:=1) (i:=w) (by show w<=64; omega) ?_
 rw [kn]
 exact i64_in _ (by omega) (by omega)
section
variable {hB:Heap} {K:VK} {Kp:PK}
theorem LD {base width:Int} {m:Nat} (hm:m<=131072) (h52:¬ (0<=width/\width<=12)->K (.int .i64 52) hB) (h51:∀ w:Nat,width=(w:Nat)->w<=12->¬ uf base w m->K (.int .i64 51) hB) (hk0:∀ w:Nat,width=(w:Nat)->w<=12->uf base w m->K (.int .i64 0) hB) :
  CP vS #[.int .i64 base,.int .i64 width,.int .i64 (m:Nat)] hB K Kp:=by
 refine Gf ?_
 unfold C9
 refine fL (fun h1=>h52 (by omega)) fun h1=>?_
 refine fL (fun h2=>h52 (by omega)) fun h2=>?_
 obtain ⟨w,rfl⟩:∃ w:Nat,width=(w:Nat):=⟨width.toNat,by omega⟩
 have hw:w<=12:=by omega
 have hp:=Be hw
 refine fH (by omega) ?_
 refine fw (((2 ^ w:Nat):Int)) (by exact Ct hw) ?_
 refine Fa (many:=2 ^ w) (all:=m) (by omega) (by omega) fun bf hbf=>?_
 refine ⟨_,rfl,?_⟩
 refine iM (fun h3=>h51 w rfl hw fun hh=>?_) fun h3=>hk0 w rfl hw (hbf.1 h3)
 rw [hbf.2 hh] at h3
 cases h3
end
section
variable {h0 h:Heap} {FF:List Nat} {m n0:Nat} {base width id:Int} {K:VK} {Kp:PK}
set_option maxHeartbeats 4000000 in
theorem Mz {p q r:Nat} {s:Cod} {rest:List Value} (HC:Hp h0 FF h (ju p q r s rest)) (hc:CodOk m n0 s) (hm1:1<=m) (hm2:m<=131072) (hN:n0+64<=16777216)
  (hk52:¬ (0<=width/\width<=12)->K (.int .i64 52) h) (hk51:∀ w:Nat,width=(w:Nat)->w<=12->¬ uf base w m->K (.int .i64 51) h)
  (hk50:∀ w:Nat,width=(w:Nat)->w<=12->uf base w m->¬ (0<=id/\id<((2 ^ w:Nat):Int))->K (.int .i64 50) h)
  (hk0:∀ (w x r':Nat) rest' h',width=(w:Nat)->w<=12->uf base w m->id=(x:Nat)->x<2 ^ w->Hp h0 FF h' (ju p q r' (GC m base (jb x w) (1,s)).2 rest')->K (.int .i64 0) h') :
  CP sV #[.pointer (at0 p),.int .i64 base,.int .i64 width,.int .i64 id] h K Kp:=by
 refine DK ?_
 unfold y9
 refine fZ (by rfl) ?_
 refine gv (a:=⟨p,0,none⟩) ?_
 refine Go.Ar.qx (n:=s.st.length) HC 0 rfl ?_
 refine ⟨_,rfl,?_⟩
 rw [hc.len]
 refine LD hm2 (fun h1=>⟨_,rfl,?_⟩) (fun w ew hw h1=>⟨_,rfl,?_⟩) (fun w ew hw h1=>⟨_,rfl,?_⟩)
 ·refine gN (by rfl) ?_
  exact hk52 h1
 ·refine gN (by rfl) ?_
  exact hk51 w ew hw h1
 subst ew
 have hp:=Be hw
 refine fZ (by rfl) ?_
 refine fL (fun h2=>hk50 w rfl hw h1 (by omega)) fun h2=>?_
 obtain ⟨x,rfl⟩:∃ x:Nat,id=(x:Nat):=⟨id.toNat,by omega⟩
 refine fH (by omega) ?_
 refine fw (((x / 2 ^ w:Nat):Int)) (by exact lG (by show w<=64; omega)) ?_
 refine jg (fun h3=>hk50 w rfl hw h1 fun hh=>h3 ?_) fun h3=>?_
 ·rw [lf (by omega)]
  rfl
 have hx:x<2 ^ w:=by
  have h3:x / 2 ^ w=0:=by omega
  rcases Nat.div_eq_zero_iff.1 h3 with h4 | h4
  ·omega
  ·exact h4
 refine fw (((w:Int)-1)) (by exact i64_in _ (by omega) (by omega)) ?_
 refine ⟨fun f vs h'=>∃ (i r':Nat) (rest':List Value),i+f=w/\vs=[.int .i64 ((GC m base ((jb x w).take i) (1,s)).1:Nat),.int .i64 ((w:Int)-1-(i:Int))] /\
  Hp h0 FF h' (ju p q r' (GC m base ((jb x w).take i) (1,s)).2 rest'),⟨w,0,r,rest,by omega,(by rw [show ((w:Int)-1-((0:Nat):Int))=(w:Int)-1 by omega]; rfl),HC⟩,?_⟩
 clear HC
 rintro f h u v1 v2 ⟨i,r',rest',hif,hxx,H⟩
 injection hxx with hx1 hxx
 injection hxx with hx2 hxx
 injection hx1 with _ hx1
 injection hx2 with _ hx2
 subst hx1 hx2
 refine fL (fun h4=>?_) fun h4=>?_
 ·have hi:i<w:=by omega
  have hlen:((jb x w).take i).length=i:=by rw [iC,lY]; omega
  have hcod:=LR (nx:=qv) (base:=base) hc ((jb x w).take i) 1 (by rw [hlen]; omega)
  have hnd:=(Jn qv m base s ((jb x w).take i) 1).trans (ndI x w hx i (by omega))
  have hsn:=G8 qv m base ((jb x w).take i) (x / 2 ^ (w-1-i) % 2) (1,s)
  have htk:=nw (x:=x) hi
  have hpi:(2:Nat) ^ i<=2 ^ w:=im (by decide) (by omega)
  have hdv:x / 2 ^ (w-i)<2 ^ w:=ir (kz _ _) hx
  rw [hlen] at hcod
  unfold GC at H ⊢
  rw [<- htk] at hsn
  generalize Dp qv m base ((jb x w).take i) (1,s)=st at hcod hnd hsn H ⊢
  obtain ⟨nd,S1⟩:=st
  have hnd:nd=2 ^ i+x / 2 ^ (w-i):=hnd
  have hcod:CodOk m (n0+i) S1:=hcod
  have hb1:x / 2 ^ (w-1-i) % 2<=1:=Gz (iP _ (by decide))
  rw [show ((w:Int)-1-(i:Int))=((w-1-i:Nat):Int) by omega]
  refine fH (by omega) ?_
  refine fw (((x / 2 ^ (w-1-i):Nat):Int)) (by exact lG (by show w-1-i<=64; omega)) ?_
  refine fw (((x / 2 ^ (w-1-i) % 2:Nat):Int)) (by rw [E6]; rfl) ?_
  unfold uf at h1
  refine fw ((base+(nd:Int))) (by exact i64_in _ (by omega) (by omega)) ?_
  refine Go.Ar.BH (bit:=x / 2 ^ (w-1-i) % 2) H hcod.wf hcod.done (by rw [hcod.n]; omega) (by rw [hcod.len]; exact hm1) (by rw [hcod.len]; exact hm2) hb1 fun r4 rest4 h5 H=>?_
  rw [hcod.len] at H
  refine ⟨_,rfl,?_⟩
  refine fZ (by rfl) ?_
  generalize x / 2 ^ (w-1-i) % 2=bit at hb1 hsn H ⊢
  refine fw (((2*nd:Nat):Int)) (by exact fO _ _ (by omega) (by omega) (by omega)) ?_
  refine fw (((2*nd+bit:Nat):Int)) (by exact fO _ _ (by omega) (by omega) (by omega)) ?_
  refine fw (((w:Int)-1-((i+1:Nat):Int))) (by exact fO _ _ (by omega) (by omega) (by omega)) ?_
  exact ⟨f-1,by omega,i+1,r4,rest4,by omega,by rw [hsn]; rfl,by rw [hsn]; exact H⟩
 ·have hi:w<=i:=by omega
  rw [gz (by rw [lY]; exact hi)] at H
  exact hk0 w x r' rest' h rfl hw h1 rfl hx H
set_option maxHeartbeats 4000000 in
theorem MQ {A:RP} {r w x:Nat} {s:Cod} {rest:List Value} (HC:Hp h0 FF h (jI A r s rest)) (hc:CodOk m n0 s) (hm1:1<=m) (hm2:m<=131072) (hN:n0+64<=16777216) (hw:w<=12) (h1:uf base w m) (hx:x<2 ^ w)
  (hk0:∀ (r':Nat) rest' h',Hp h0 FF h' (jI A r' (GC m base (jb x w) (1,s)).2 rest')->K (.int .i64 0) h') :
  CP od #[.pointer (at0 A.p),.int .i64 base,.int .i64 (w:Nat),.int .i64 (x:Nat)] h K Kp:=by
 refine zL ?_
 unfold tC
 have hp:=Be hw
 refine fw (((w:Int)-1)) (by exact i64_in _ (by omega) (by omega)) ?_
 refine ⟨fun f vs h'=>∃ (i r':Nat) (rest':List Value),i+f=w/\vs=[.int .i64 ((GC m base ((jb x w).take i) (1,s)).1:Nat),.int .i64 ((w:Int)-1-(i:Int))] /\
  Hp h0 FF h' (jI A r' (GC m base ((jb x w).take i) (1,s)).2 rest'),⟨w,0,r,rest,by omega,(by rw [show ((w:Int)-1-((0:Nat):Int))=(w:Int)-1 by omega]; rfl),HC⟩,?_⟩
 clear HC
 rintro f h u v1 v2 ⟨i,r',rest',hif,hxx,H⟩
 injection hxx with hx1 hxx
 injection hxx with hx2 hxx
 injection hx1 with _ hx1
 injection hx2 with _ hx2
 subst hx1 hx2
 refine fL (fun h4=>?_) fun h4=>?_
 ·have hi:i<w:=by omega
  have hlen:((jb x w).take i).length=i:=by rw [iC,lY]; omega
  have hcod:=LR (nx:=qv) (base:=base) hc ((jb x w).take i) 1 (by rw [hlen]; omega)
  have hnd:=(Jn qv m base s ((jb x w).take i) 1).trans (ndI x w hx i (by omega))
  have hsn:=G8 qv m base ((jb x w).take i) (x / 2 ^ (w-1-i) % 2) (1,s)
  have htk:=nw (x:=x) hi
  have hpi:(2:Nat) ^ i<=2 ^ w:=im (by decide) (by omega)
  have hdv:x / 2 ^ (w-i)<2 ^ w:=ir (kz _ _) hx
  rw [hlen] at hcod
  unfold GC at H ⊢
  rw [<- htk] at hsn
  generalize Dp qv m base ((jb x w).take i) (1,s)=st at hcod hnd hsn H ⊢
  obtain ⟨nd,S1⟩:=st
  have hnd:nd=2 ^ i+x / 2 ^ (w-i):=hnd
  have hcod:CodOk m (n0+i) S1:=hcod
  have hb1:x / 2 ^ (w-1-i) % 2<=1:=Gz (iP _ (by decide))
  rw [show ((w:Int)-1-(i:Int))=((w-1-i:Nat):Int) by omega]
  refine fw (((w-1-i:Nat):Int)) (by exact u64_in _ (by omega) (by omega)) ?_
  refine fH (by omega) ?_
  refine fw (((x / 2 ^ (w-1-i):Nat):Int)) (by exact lG (by show w-1-i<=64; omega)) ?_
  refine fw (((x / 2 ^ (w-1-i) % 2:Nat):Int)) (by rw [E6]; rfl) ?_
  unfold uf at h1
  refine fw ((base+(nd:Int))) (by exact i64_in _ (by omega) (by omega)) ?_
  refine Go.Ar.ER (bit:=x / 2 ^ (w-1-i) % 2) H hcod.wf hcod.done (by rw [hcod.n]; omega) (by rw [hcod.len]; exact hm1) (by rw [hcod.len]; exact hm2) hb1 fun r4 rest4 h5 H=>?_
  rw [hcod.len] at H
  refine ⟨_,rfl,?_⟩
  refine fZ (by rfl) ?_
  generalize x / 2 ^ (w-1-i) % 2=bit at hb1 hsn H ⊢
  refine fw (((2*nd:Nat):Int)) (by exact fO _ _ (by omega) (by omega) (by omega)) ?_
  refine fw (((2*nd+bit:Nat):Int)) (by exact fO _ _ (by omega) (by omega) (by omega)) ?_
  refine fw (((w:Int)-1-((i+1:Nat):Int))) (by exact fO _ _ (by omega) (by omega) (by omega)) ?_
  exact ⟨f-1,by omega,i+1,r4,rest4,by omega,by rw [hsn]; rfl,by rw [hsn]; exact H⟩
 ·have hi:w<=i:=by omega
  rw [gz (by rw [lY]; exact hi)] at H
  exact hk0 r' rest' h H
variable {e:Ent} {bp:Option Addr} {bc n:Nat} {bytes:List Nat}
set_option maxHeartbeats 4000000 in
theorem MC {p q:Nat} {s:Dec} (HC:Hp h0 FF h (iW p q e bp bc s)) (hw:e.w=true) (hb:BOk e bp bytes) (hok:Go.Ar.nh bytes m n s) (hbl:bytes.length<140737488351300) (hn:n+64<=16777216) (hm1:1<=m) (hm2:m<=131072)
  (hk52:¬ (0<=width/\width<=12)->K (.tuple #[.int .i64 0,.int .i64 52]) h) (hk51:∀ w:Nat,width=(w:Nat)->w<=12->¬ uf base w m->K (.tuple #[.int .i64 0,.int .i64 51]) h)
  (hk0:∀ (w:Nat) h',width=(w:Nat)->w<=12->uf base w m->Go.Ar.nh bytes m (n+w) (itI m base (1,s) w).2->Hp h0 FF h' (iW p q e bp bc (itI m base (1,s) w).2)->K (.tuple #[.int .i64 ((itI m base (1,s) w).1-((2 ^ w:Nat):Int)),.int .i64 0]) h') :
  CP sW #[.pointer (at0 p),.int .i64 base,.int .i64 width] h K Kp:=by
 refine DL ?_
 unfold zc
 refine fZ (by rfl) ?_
 refine gv (a:=⟨p,0,none⟩) ?_
 refine Go.Ar.qx (n:=s.st.length) HC 0 rfl ?_
 refine ⟨_,rfl,?_⟩
 rw [hok.len]
 refine LD hm2 (fun h1=>⟨_,rfl,?_⟩) (fun w ew hw h1=>⟨_,rfl,?_⟩) (fun w ew hw12 h1=>⟨_,rfl,?_⟩)
 ·refine gN (by rfl) ?_
  exact hk52 h1
 ·refine gN (by rfl) ?_
  exact hk51 w ew hw h1
 subst ew
 have hp:=Be hw12
 refine fZ (by rfl) ?_
 refine ⟨fun f vs h'=>∃ i:Nat,i+f=w/\vs=[.int .i64 ((itI m base (1,s) i).1:Nat),.int .i64 (i:Nat)]/\Go.Ar.nh bytes m (n+i) (itI m base (1,s) i).2/\Hp h0 FF h' (iW p q e bp bc (itI m base (1,s) i).2),⟨w,0,by omega,rfl,hok,HC⟩,?_⟩
 clear HC
 rintro f h u v1 v2 ⟨i,hif,hxx,hok1,H⟩
 injection hxx with hx1 hxx
 injection hxx with hx2 hxx
 injection hx1 with _ hx1
 injection hx2 with _ hx2
 subst hx1 hx2
 have hlt:=OS m base s i
 refine fL (fun h4=>?_) fun h4=>?_
 ·have hi:i<w:=by omega
  have hpi:(2:Nat) ^ (i+1)<=2 ^ w:=im (by decide) (by omega)
  obtain ⟨st',hst'⟩:∃ st',st'=itI m base (1,s) (i+1):=⟨_,rfl⟩
  have hsn:st'=QG m base (itI m base (1,s) i):=hst'
  generalize hgen:itI m base (1,s) i=st at hlt hok1 hsn H ⊢
  obtain ⟨nd,S1⟩:=st
  simp only at hlt hok1 H
  unfold uf at h1
  refine fw ((base+(nd:Int))) (by exact i64_in _ (by omega) (by omega)) ?_
  refine Go.Ar.wv H (by rw [hok1.b]; exact hb) hok1.wf (by rw [hok1.b]; exact hbl) (by rw [hok1.n]; omega) (by rw [hok1.len]; exact hm1) (by rw [hok1.len]; exact hm2) fun h' H=>?_
  rw [hok1.len] at H ⊢
  have hb1:(getD S1 (idx (base+(nd:Nat)) m)).2<=1:=tg _
  refine ⟨_,_,rfl,?_⟩
  refine fZ (by rfl) ?_
  have hok2:=xX hok1 (idx (base+(nd:Nat)) m) (by omega)
  unfold QG qv at hsn
  dsimp only at hsn
  generalize getD S1 (idx (base+(nd:Nat)) m)=G at hb1 hsn hok2 H ⊢
  obtain ⟨S2,bit⟩:=G
  simp only at hb1 hok2 H ⊢
  have hsn:st'=(2*nd+bit,S2):=hsn
  refine fw (((2*nd:Nat):Int)) (by exact fO _ _ (by omega) (by omega) (by omega)) ?_
  refine fw (((2*nd+bit:Nat):Int)) (by exact fO _ _ (by omega) (by omega) (by omega)) ?_
  refine fw (((i+1:Nat):Int)) (by exact fO _ _ (by omega) (by omega) (by omega)) ?_
  exact ⟨f-1,by omega,i+1,by omega,by rw [<- hst',hsn],by rw [<- hst',hsn]; exact hok2,by rw [<- hst',hsn]; exact H⟩
 ·obtain rfl:i=w:=by omega
  have hpi:(2:Nat) ^ (i+1)=2 ^ i*2:=jA ..
  refine fH (by omega) ?_
  refine fw (((2 ^ i:Nat):Int)) (by exact Ct hw12) ?_
  refine fw ((((itI m base (1,s) i).1:Nat)-((2 ^ i:Nat):Int))) (by exact i64_in _ (by omega) (by omega)) ?_
  exact hk0 i h rfl hw12 h1 hok1 H
end
structure ItW where
 id:Bool
 base:Int
 width:Int
 v:Int
 none:Bool
def ItW.cs (t:ItW):List Value:=[.bool t.id,.int .i64 t.base,.int .i64 t.width,.int .i64 t.v,.bool t.none]
instance (base:Int) (w m:Nat):Decidable (uf base w m):=by unfold uf; infer_instance
instance (v:Int) (b:Bool):Decidable (pd v b):=by unfold pd; infer_instance
section
variable {h0 h:Heap} {FF:List Nat} {K:VK} {Kp:PK} {L:List (Nat × Nat)} {t:ItW}
end
open Go.Ar (L0 DH)
theorem Kb {k:Nat->Nat} {bytes:List Nat} {m:Nat} (hb:∀ x∈bytes,x<256):∀ i,i<=16777216->Go.Ar.nh bytes m i (DH k bytes m i)
 | 0,_=>L0 hb m
 | i+1,hi=>Go.Ar.xX (Kb hb i (by omega)) _ (by omega)
structure Bmp where
 w:Int
 h:Int
 ws:List Nat
abbrev Bmp.may (b:Bmp):Prop:=sE b.w b.h b.ws
structure BmC (h:Heap) (a:Addr) (b:Bmp) (q:Option Addr) (c:Nat):Prop where
 c0:ic h (a.add 0)=some (.int .i64 b.w)
 c1:ic h (a.add 1)=some (.int .i64 b.h)
 c2:ic h (a.add 2)=some (.slice q b.ws.length c)
 r1:rdO h q (b.ws.length*1) (il b.ws)
 w1:W64 b.ws
 l1:b.ws.length<140737488351300
def o7 (h:Heap) (q:Option Addr) (l:List Bmp):Prop:=∀ i b,l[i]? = some b->∃ a q1 c1,q=some a/\BmC h (a.add (i*3)) b q1 c1
theorem BmC.ext {h h':Heap} {a:Addr} {b:Bmp} {q:Option Addr} {c:Nat} (H:BmC h a b q c) (e:gi h h'):BmC h' a b q c:=⟨e.cell H.c0,e.cell H.c1,e.cell H.c2,oa e H.r1,H.w1,H.l1⟩
theorem o7.ext {h h':Heap} {q:Option Addr} {l:List Bmp} (H:o7 h q l) (e:gi h h'):o7 h' q l:=fun i b hi=>by
 obtain ⟨a,q1,c1,ha,hc⟩:=H i b hi
 exact ⟨a,q1,c1,ha,hc.ext e⟩
def xB (l:List Bmp):Prop:=∀ b∈l,b.may
theorem xB.take {l:List Bmp} {i:Nat} {b:Bmp} (h:xB (l.take i)) (hi:l[i]? = some b) (hb:b.may):xB (l.take (i+1)):=by
 rw [kC hi]
 intro x hx
 rcases List.mem_append.1 hx with hx | hx
 ·exact h x hx
 ·rw [List.mem_singleton.1 hx]; exact hb
section
variable {hB:Heap} {q:Option Addr} {c:Nat} {l:List Bmp} {K:VK} {Kp:PK}
end
def Bmp.below (a b:Bmp):Prop:=a.h<b.h\/a.h=b.h/\a.w<b.w
def Gw (l:List Bmp) (n:Nat):Prop:=∀ i a b,i+1<n->l[i]? = some a->l[i+1]? = some b->¬ b.below a
open Classical in
section
variable {hB:Heap} {q1 q2 q3:Option Addr} {c1 c2 c3:Nat} {t:Int} {new imp:List Bmp} {ex:List Bool} {K:VK} {Kp:PK}
theorem Gw.step {l:List Bmp} {i:Nat} (h:Gw l (i+1)) (h2:∀ a b,l[i]? = some a->l[i+1]? = some b->¬ b.below a):Gw l (i+2):=fun j a b hj ha hb=>by
 by_cases hji:j+1<i+1
 ·exact h j a b hji ha hb
 ·obtain rfl:j=i:=by omega
  exact h2 a b ha hb
end
open Go.Ar (getD)
section
variable {hB:Heap} {q1 q2 q3:Option Addr} {c1 c2 c3:Nat} {t:Int} {new imp:List Bmp} {ex:List Bool} {K:VK} {Kp:PK}
end
def sy (l:List Bmp) (i:Nat):Bmp:=l.getD i ⟨0,0,[]⟩
theorem Ss {l:List Bmp} {i:Nat} {b:Bmp} (h:l[i]? = some b):sy l i=b:=by unfold sy; rw [fY,h]; rfl
open Go.Ar (ju jI RP)
section
variable {m t:Nat} {l:List Bmp} (hm:xB l)
include hm
end
section
variable {h0 h:Heap} {FF:List Nat} {p q r m:Nat} {L:List (Nat × Nat)} {rest:List Value} {K:VK} {Kp:PK}
theorem NC (HC:Hp h0 FF h (ju p q r (cdL m L) rest)) (hL:L.length+64<=16777216) (hm1:1<=m) (hm2:m<=131072) {base v:Int} {none:Bool} (hf:0<=base/\base+(512:Nat)<=(m:Nat)) (hr:pd v none) (hv:-9223372036854775808<=v/\v<9223372036854775808)
  (hk:∀ r' rest' h',Hp h0 FF h' (ju p q r' (cdL m (L++nY m base v none)) rest')->K (.int .i64 0) h'):CP nt #[.pointer (at0 p),.int .i64 base,.agg #[.int .i64 v,.bool none]] h K Kp:=by
 refine PX HC (sb (by omega)) hm1 hm2 hv hL (fun h' hn _=>absurd hf hn) (fun h' _ hn _=>absurd hr hn) fun r' rest' h' _ _ H=>?_
 rw [N6] at H
 exact hk r' rest' h' H
theorem Oa {A:RP} (HC:Hp h0 FF h (jI A r (cdL m L) rest)) (hL:L.length+64<=16777216) (hm1:1<=m) (hm2:m<=131072) {base v:Int} {none:Bool} (hb:0<=base/\base<=131072) (hr:pd v none)
  (hk:∀ r' rest' h',Hp h0 FF h' (jI A r' (cdL m (L++nY m base v none)) rest')->K (.int .i64 0) h'):CP jZ #[.pointer (at0 A.p),.int .i64 base,.agg #[.int .i64 v,.bool none]] h K Kp:=by
 refine Ob HC (sb (by omega)) hm1 hm2 hb hr hL fun r' rest' h' H=>?_
 rw [N6] at H
 exact hk r' rest' h' H
end
theorem Sr {h:Heap} {q:Option Addr} {l:List Bmp} (hn:o7 h q l) {i:Nat} (hi:i<l.length):∃ a q1 c1,q=some a/\BmC h (a.add (i*3)) (sy l i) q1 c1:=by
 obtain ⟨b,hb⟩:∃ b,l[i]? = some b:=⟨_,fP hi⟩
 rw [Ss hb]
 exact hn i b hb
end Go.Bm
