/- W8: put together by wip/tools/bundle.py: TxE TxF Mcmp Bcmp Mtext Btext TxG TxH TxI Mburinref14 Bburinref14 TxJ TxK TxL TxM. -/
import Derived.Test.YtbknfejmdekhpaaGreatW1
import Derived.Test.YtbknfejmdekhpaaGreatW2
import Derived.Test.YtbknfejmdekhpaaGreatW3
import Derived.Test.YtbknfejmdekhpaaGreatW4
import Derived.Test.YtbknfejmdekhpaaGreatW5
import Derived.Test.YtbknfejmdekhpaaGreatW6
import Derived.Test.YtbknfejmdekhpaaGreatW7
import Derived.Test.YtbknfejmdekhpaaGreatProg
set_option linter.unusedVariables false
set_option linter.unusedSimpArgs false
set_option maxRecDepth 100000
namespace Go.Bm
open Go Go.Den Go.Den.YtbknfejmdekhpaaGreat
theorem bcase_ndec {p:Prop} [Decidable p] {X Y:Prop} (ht:¬ p->X) (hf:p->Y):bcase (!decide p) X Y:=bcase_not (fun h=>ht (of_decide_eq_false h)) fun h=>hf (of_decide_eq_true h)
theorem half {s:Nat} (hs:s<4611686018427387904) {x:Int} (hx:x=(s:Nat)) {K:Int->Prop} (hk:K ((s / 2:Nat):Int)) :
  bindI (IntKind.i64.wrap x) fun z=>bindI (IntKind.u64.wrap z) fun z1=>bindI (shrI .u64 z1 (1:Int)) fun z2=>bindI (IntKind.i64.wrap z2) fun z3=>K z3:=by
 refine bindI_of ((s:Nat):Int) (by exact i64_at _ _ hx (by omega) (by omega)) ?_
 refine bindI_of ((s:Nat):Int) (by exact u64_in _ (by omega) (by omega)) ?_
 refine bindI_of ((s / 2:Nat):Int) (by exact shr_of (k := .u64) (x:=s) (i:=1) (by decide)) ?_
 exact bindI_of ((s / 2:Nat):Int) (by exact i64_at _ _ rfl (by omega) (by omega)) hk
section
variable {α:Type} {key:α->Key}
theorem get_X {P X S:List α} {k:Nat} (h:k<X.length):(P++X++S)[P.length+k]? = X[k]?:=by
 rw [List.append_assoc,List.getElem?_append_right (by omega),Nat.add_sub_cancel_left,List.getElem?_append_left h]
theorem get_XX {P X S:List α} {k j:Nat} (h:k<X.length) (e:j=P.length+k):(P++X++S)[j]? = X[k]?:=by subst e; exact get_X h
theorem Srt.ahead {l:List α} (h:Srt key l) {i:Nat} {x:α} (hx:i=0\/∃ y,l[i-1]? = some y/\(key y).lt (key x)):∀ y∈l.take i,(key y).lt (key x):=fun y hy=>by
 obtain ⟨k,hk⟩:=List.mem_iff_getElem?.1 hy
 have hki:k<i:=by
  have:=(List.getElem?_eq_some_iff.1 hk).1
  rw [List.length_take] at this; omega
 rw [List.getElem?_take_of_lt hki] at hk
 rcases hx with hx | ⟨z,hz,hzx⟩
 ·omega
 ·exact Key.le_lt (h.at (by omega) hk hz) hzx
theorem Srt.ahead' {l:List α} (h:Srt key l) {i:Nat} {x:α} (hx:i=0\/∃ y,l[i-1]? = some y/\¬ (key x).lt (key y)):∀ y∈l.take i,¬ (key x).lt (key y):=fun y hy=>by
 obtain ⟨k,hk⟩:=List.mem_iff_getElem?.1 hy
 have hki:k<i:=by
  have:=(List.getElem?_eq_some_iff.1 hk).1
  rw [List.length_take] at this; omega
 rw [List.getElem?_take_of_lt hki] at hk
 rcases hx with hx | ⟨z,hz,hzx⟩
 ·omega
 ·exact Key.le_trans (h.at (by omega) hk hz) hzx
theorem Srt.behind {l:List α} (h:Srt key l) {i:Nat} {x:α} (hx:i=l.length\/∃ y,l[i]? = some y/\¬ (key y).lt (key x)):∀ y∈l.drop i,¬ (key y).lt (key x):=fun y hy=>by
 obtain ⟨k,hk⟩:=List.mem_iff_getElem?.1 hy
 rw [List.getElem?_drop] at hk
 have hki:=(List.getElem?_eq_some_iff.1 hk).1
 rcases hx with hx | ⟨z,hz,hzx⟩
 ·omega
 ·exact Key.le_trans hzx (h.at (by omega) hz hk)
theorem Srt.behind' {l:List α} (h:Srt key l) {i:Nat} {x:α} (hx:i=l.length\/∃ y,l[i]? = some y/\(key x).lt (key y)):∀ y∈l.drop i,(key x).lt (key y):=fun y hy=>by
 obtain ⟨k,hk⟩:=List.mem_iff_getElem?.1 hy
 rw [List.getElem?_drop] at hk
 have hki:=(List.getElem?_eq_some_iff.1 hk).1
 rcases hx with hx | ⟨z,hz,hzx⟩
 ·omega
 ·exact Key.lt_le hzx (h.at (by omega) hz hk)
end
section
variable {h0:Heap} {F:List Nat} {B:List Ent} {b:Nat} {rest:List Value} {cmp:Value} {key:OwI->Key} {Kp:PK}
def IH7 (h0:Heap) (F:List Nat) (B:List Ent) (b:Nat) (rest:List Value) (cmp:Value) (key:OwI->Key) (Kp:PK) (n c N:Nat):Prop :=
 ∀ (P X Y S:List OwI) (h:Heap) (K:VK) (p1 p2 p3:Nat),X.length+Y.length<=N->0<X.length->0<Y.length->Srt key X->Srt key Y->n=(P++X++Y++S).length->p1=P.length->p2=P.length+X.length->p3=P.length+X.length+Y.length ->
  Hp h0 F h (IRow b (P++X++Y++S) rest::B)->(∀ Z h',Sw key (X++Y) Z->Srt key Z->Hp h0 F h' (IRow b (P++Z++S) rest::B)->K (.tuple #[]) h') ->
  CP F_slices_symMergeCmpFunc_api_Instance #[.slice (some ⟨b,0,none⟩) n c, .int .i64 (p1:Nat), .int .i64 (p2:Nat), .int .i64 (p3:Nat),cmp] h K Kp
set_option maxHeartbeats 2000000 in
theorem symMerge_ok {n c:Nat} (hc:CmpOk h0 F B b rest key cmp Kp) (hb:n<=1000000):∀ N,IH7 h0 F B b rest cmp key Kp n c N:=by
 intro N
 induction N with
 | zero=>intro P X Y S h K p1 p2 p3 hN hX; omega
 | succ N ih =>
 intro P X Y S h K p1 p2 p3 hN hX hY sX sY hn e1 e2 e3 H hk
 have hn':n=P.length+X.length+Y.length+S.length:=by rw [hn]; simp only [List.length_append]
 subst e1 e2 e3
 refine call_slices_symMergeCmpFunc_api_Instance ?_
 unfold slices_symMergeCmpFunc_api_Instance
 refine bindI_of ((X.length:Nat):Int) (by exact i64_at _ _ (by omega) (by omega) (by omega)) ?_
 refine bcase_eq (fun h1=>?_) fun h1=>?_
 ·clear ih
  obtain ⟨x,rfl⟩:∃ x,X=[x]:=by
   rcases X with _ | ⟨x,_ | ⟨x',X⟩⟩
   ·simp at hX
   ·exact ⟨x,rfl⟩
   ·simp at h1; omega
  rw [List.length_singleton] at *
  refine ⟨fun m vs h'=>∃ i j:Nat,i<=j/\j<=Y.length/\m=j-i/\(i=0\/∃ y,Y[i-1]? = some y/\(key y).lt (key x))/\(j=Y.length\/∃ y,Y[j]? = some y/\¬ (key y).lt (key x))/\vs=[.int .i64 ((P.length+1+i:Nat):Int), .int .i64 ((P.length+1+j:Nat):Int)]/\Hp h0 F h' (IRow b (P++[x]++Y++S) rest::B),
   ⟨Y.length,0,Y.length,by omega,by omega,rfl, .inl rfl, .inl rfl,rfl,H⟩,?_⟩
  clear H
  rintro m h u xi xj ⟨i,j,hij,hj,hm,hi1,hj1,hxx,H⟩
  injection hxx with hx1 hxx
  injection hxx with hx2 hxx
  injection hx1 with _ hx1
  injection hx2 with _ hx2
  subst xi xj
  refine bcase_dec (fun hlt=>?_) fun hlt=>?_
  ·refine half (s:=P.length+1+i+(P.length+1+j)) (by omega) (by omega) ?_
   obtain ⟨k,hk1⟩:∃ k,(P.length+1+i+(P.length+1+j)) / 2=P.length+1+k:=⟨(P.length+1+i+(P.length+1+j)) / 2-(P.length+1),by omega⟩
   have hki:i<=k:=by omega
   have hkj:k<j:=by omega
   rw [hk1]
   obtain ⟨y,hy⟩:∃ y,Y[k]? = some y:=⟨_,List.getElem?_eq_getElem (by omega)⟩
   refine needs_of (by omega) (ptr_of (a:=⟨b,0,none⟩) ?_)
   refine needs_of (by omega) (ptr_of (a:=⟨b,0,none⟩) ?_)
   refine ld7 H (o:=y) (by rw [<- hy]; exact get_XX (P:=P++[x]) (by omega) (by simp)) ?_
   refine ld7 H (o:=x) (by rw [List.append_assoc,List.append_assoc]; exact get_at _ _ _) ?_
   refine hc h _ H y x _ fun r h' hr e=>⟨_,rfl,?_⟩
   replace H:=H.ext e
   refine bcase_dec (fun hr0=>?_) fun hr0=>?_
   ·refine bindI_of ((P.length+1+(k+1):Nat):Int) (by exact i64_at _ _ (by omega) (by omega) (by omega)) ?_
    exact ⟨j-(k+1),by omega,k+1,j,by omega,hj,rfl, .inr ⟨y,by rw [Nat.add_sub_cancel]; exact hy,hr.1 hr0⟩,hj1,rfl,H⟩
   ·exact ⟨k-i,by omega,i,k,hki,by omega,rfl,hi1, .inr ⟨y,hy,fun hh=>hr0 (hr.2 hh)⟩,rfl,H⟩
  ·obtain rfl:i=j:=by omega
   have a1:=sY.ahead hi1
   have a2:=sY.behind hj1
   obtain ⟨Y1,Y2,rfl,hl⟩:∃ Y1 Y2,Y=Y1++Y2/\Y1.length=i:=⟨Y.take i,Y.drop i,(List.take_append_drop _ _).symm,by rw [List.length_take]; omega⟩
   rw [List.take_left' hl] at a1
   rw [List.drop_left' hl] at a2
   clear hi1 hj1
   rw [List.length_append] at *
   refine ⟨fun m vs h'=>∃ Ya Yb,Y1=Ya++Yb/\m=Yb.length/\vs=[.int .i64 ((P.length+Ya.length:Nat):Int)]/\Hp h0 F h' (IRow b (P++(Ya++x::Yb)++(Y2++S)) rest::B),
    ⟨Y1.length,[],Y1,rfl,rfl,rfl,by simpa only [List.append_assoc,List.cons_append,List.nil_append] using H⟩,?_⟩
   clear H
   rintro m h u xi ⟨Ya,Yb,rfl,hm,hxx,H⟩
   injection hxx with hx1 hxx
   injection hx1 with _ hx1
   subst xi
   rw [List.length_append] at *
   refine bindI_of ((P.length+i:Nat):Int) (by exact i64_at _ _ (by omega) (by omega) (by omega)) ?_
   refine bcase_dec (fun hlt=>?_) fun hlt=>?_
   ·obtain ⟨y,Yc,rfl⟩:∃ y Yc,Yb=y::Yc:=by
     cases Yb with
     | nil=>rw [List.length_nil] at hl; omega
     | cons y Yc=>exact ⟨y,Yc,rfl⟩
    rw [List.length_cons] at *
    have eA:P++(Ya++x::y::Yc)++(Y2++S)=(P++Ya)++x::(y::Yc++(Y2++S)):=by simp only [List.append_assoc,List.cons_append,List.nil_append]
    have eB:P++(Ya++x::y::Yc)++(Y2++S)=(P++Ya++[x])++y::(Yc++(Y2++S)):=by simp only [List.append_assoc,List.cons_append,List.nil_append]
    have eC:(P++Ya)++y::(y::Yc++(Y2++S))=(P++Ya++[y])++y::(Yc++(Y2++S)):=by simp only [List.append_assoc,List.cons_append,List.nil_append]
    have eD:(P++Ya++[y])++x::(Yc++(Y2++S))=P++((Ya++[y])++x::Yc)++(Y2++S):=by simp only [List.append_assoc,List.cons_append,List.nil_append]
    have lA:(P++Ya).length=P.length+Ya.length:=by rw [List.length_append]
    have lB:∀ z,(P++Ya++[z]).length=P.length+Ya.length+1:=fun z=>by simp only [List.length_append,List.length_cons,List.length_nil]
    refine bindI_of ((P.length+Ya.length+1:Nat):Int) (by exact i64_at _ _ (by omega) (by omega) (by omega)) ?_
    refine bindI_of ((P.length+Ya.length+1:Nat):Int) (by exact i64_at _ _ (by omega) (by omega) (by omega)) ?_
    refine needs_of (by omega) (ptr_of (a:=⟨b,0,none⟩) ?_)
    refine needs_of (by omega) (ptr_of (a:=⟨b,0,none⟩) ?_)
    refine ld7 H (o:=y) (by rw [eB,<- lB x]; exact get_at _ _ _) ?_
    refine ld7 H (o:=x) (by rw [eA,<- lA]; exact get_at _ _ _) ?_
    refine needs_of (by omega) (ptr_of (a:=⟨b,0,none⟩) ?_)
    rw [eA] at H
    refine st7 H y (by rw [<- lA]; simp only [List.length_append,List.length_cons]; omega) fun h H=>?_
    refine needs_of (by omega) (ptr_of (a:=⟨b,0,none⟩) ?_)
    rw [<- lA,set_at,eC] at H
    refine st7 H x (by rw [<- lB y]; simp only [List.length_append,List.length_cons]; omega) fun h H=>?_
    rw [<- lB y,set_at,eD] at H
    refine bindI_of ((P.length+Ya.length+1:Nat):Int) (by exact i64_at _ _ (by omega) (by omega) (by omega)) ?_
    exact ⟨Yc.length,by omega,Ya++[y],Yc,by simp only [List.append_assoc,List.cons_append,List.nil_append],rfl,by rw [List.length_append]; rfl,H⟩
   ·obtain rfl:Yb=[]:=List.eq_nil_of_length_eq_zero (by omega)
    rw [List.append_nil] at *
    refine hk (Ya++x::Y2) h ?_ ?_ (by simpa only [List.append_assoc,List.cons_append,List.nil_append] using H)
    ·have:=(Sw.past (key:=key) (a:=x) (l:=Ya) fun y hy hh=>by have:=a1 y hy; rw [hh] at this; exact Key.lt_irrefl _ this).ctx [] Y2
     simpa only [List.append_assoc,List.cons_append,List.nil_append] using this
    ·refine Srt.append sY.left (List.pairwise_cons.2 ⟨a2,sY.right⟩) fun y hy z hz=>?_
     rcases List.mem_cons.1 hz with rfl | hz
     ·exact fun hh=>Key.lt_irrefl _ (Key.lt_trans hh (a1 y hy))
     ·exact sY.cross y hy z hz
 refine bindI_of ((Y.length:Nat):Int) (by exact i64_at _ _ (by omega) (by omega) (by omega)) ?_
 refine bcase_eq (fun h2=>?_) fun h2=>?_
 ·clear ih
  obtain ⟨y,rfl⟩:∃ x,Y=[x]:=by
   rcases Y with _ | ⟨x,_ | ⟨x',X⟩⟩
   ·simp at hY
   ·exact ⟨x,rfl⟩
   ·simp at h2; omega
  rw [List.length_singleton] at *
  refine ⟨fun m vs h'=>∃ i j:Nat,i<=j/\j<=X.length/\m=j-i/\(i=0\/∃ x,X[i-1]? = some x/\¬ (key y).lt (key x))/\(j=X.length\/∃ x,X[j]? = some x/\(key y).lt (key x))/\vs=[.int .i64 ((P.length+i:Nat):Int), .int .i64 ((P.length+j:Nat):Int)]/\Hp h0 F h' (IRow b (P++X++[y]++S) rest::B),
   ⟨X.length,0,X.length,by omega,by omega,rfl, .inl rfl, .inl rfl,rfl,H⟩,?_⟩
  clear H
  rintro m h u xi xj ⟨i,j,hij,hj,hm,hi1,hj1,hxx,H⟩
  injection hxx with hx1 hxx
  injection hxx with hx2 hxx
  injection hx1 with _ hx1
  injection hx2 with _ hx2
  subst xi xj
  refine bcase_dec (fun hlt=>?_) fun hlt=>?_
  ·refine half (s:=P.length+i+(P.length+j)) (by omega) (by omega) ?_
   obtain ⟨k,hk1⟩:∃ k,(P.length+i+(P.length+j)) / 2=P.length+k:=⟨(P.length+i+(P.length+j)) / 2-P.length,by omega⟩
   have hki:i<=k:=by omega
   have hkj:k<j:=by omega
   rw [hk1]
   obtain ⟨x,hx⟩:∃ y,X[k]? = some y:=⟨_,List.getElem?_eq_getElem (by omega)⟩
   refine needs_of (by omega) (ptr_of (a:=⟨b,0,none⟩) ?_)
   refine needs_of (by omega) (ptr_of (a:=⟨b,0,none⟩) ?_)
   refine ld7 H (o:=y) (by rw [<- List.length_append,List.append_assoc]; exact get_at _ _ _) ?_
   refine ld7 H (o:=x) (by rw [<- hx,List.append_assoc]; exact get_XX (by omega) rfl) ?_
   refine hc h _ H y x _ fun r h' hr e=>⟨_,rfl,?_⟩
   replace H:=H.ext e
   refine bcase_ndec (fun hr0=>?_) fun hr0=>?_
   ·refine bindI_of ((P.length+(k+1):Nat):Int) (by exact i64_at _ _ (by omega) (by omega) (by omega)) ?_
    exact ⟨j-(k+1),by omega,k+1,j,by omega,hj,rfl, .inr ⟨x,by rw [Nat.add_sub_cancel]; exact hx,fun hh=>hr0 (hr.2 hh)⟩,hj1,rfl,H⟩
   ·exact ⟨k-i,by omega,i,k,hki,by omega,rfl,hi1, .inr ⟨x,hx,hr.1 hr0⟩,rfl,H⟩
  ·obtain rfl:i=j:=by omega
   have a1:=sX.ahead' hi1
   have a2:=sX.behind' hj1
   obtain ⟨X1,X2,rfl,hl⟩:∃ X1 X2,X=X1++X2/\X1.length=i:=⟨X.take i,X.drop i,(List.take_append_drop _ _).symm,by rw [List.length_take]; omega⟩
   rw [List.take_left' hl] at a1
   rw [List.drop_left' hl] at a2
   clear hi1 hj1
   rw [List.length_append] at *
   refine ⟨fun m vs h'=>∃ Xa Xb,X2=Xa++Xb/\m=Xa.length/\vs=[.int .i64 ((P.length+X1.length+Xa.length:Nat):Int)]/\Hp h0 F h' (IRow b (P++(X1++(Xa++y::Xb))++S) rest::B),
    ⟨X2.length,X2,[],by rw [List.append_nil],rfl,by rw [Nat.add_assoc],by simpa only [List.append_assoc,List.cons_append,List.nil_append] using H⟩,?_⟩
   clear H
   rintro m h u xi ⟨Xa,Xb,rfl,hm,hxx,H⟩
   injection hxx with hx1 hxx
   injection hx1 with _ hx1
   subst xi
   rw [List.length_append] at *
   refine bcase_dec (fun hlt=>?_) fun hlt=>?_
   ·obtain ⟨Xc,x,rfl⟩:=snoc_of (l:=Xa) (by omega)
    rw [List.length_append,List.length_singleton] at *
    have eA:P++(X1++(Xc++[x]++y::Xb))++S=(P++X1++Xc)++x::(y::Xb++S):=by simp only [List.append_assoc,List.cons_append,List.nil_append]
    have eB:P++(X1++(Xc++[x]++y::Xb))++S=(P++X1++Xc++[x])++y::(Xb++S):=by simp only [List.append_assoc,List.cons_append,List.nil_append]
    have eC:(P++X1++Xc++[x])++x::(Xb++S)=(P++X1++Xc)++x::(x::Xb++S):=by simp only [List.append_assoc,List.cons_append,List.nil_append]
    have eD:(P++X1++Xc)++y::(x::Xb++S)=P++(X1++(Xc++y::x::Xb))++S:=by simp only [List.append_assoc,List.cons_append,List.nil_append]
    have lA:(P++X1++Xc).length=P.length+X1.length+Xc.length:=by simp only [List.length_append]
    have lB:(P++X1++Xc++[x]).length=P.length+X1.length+(Xc.length+1):=by simp only [List.length_append,List.length_cons,List.length_nil]; omega
    refine bindI_of ((P.length+X1.length+Xc.length:Nat):Int) (by exact i64_at _ _ (by omega) (by omega) (by omega)) ?_
    refine bindI_of ((P.length+X1.length+Xc.length:Nat):Int) (by exact i64_at _ _ (by omega) (by omega) (by omega)) ?_
    refine needs_of (by omega) (ptr_of (a:=⟨b,0,none⟩) ?_)
    refine needs_of (by omega) (ptr_of (a:=⟨b,0,none⟩) ?_)
    refine ld7 H (o:=x) (by rw [eA,<- lA]; exact get_at _ _ _) ?_
    refine ld7 H (o:=y) (by rw [eB,<- lB]; exact get_at _ _ _) ?_
    refine needs_of (by omega) (ptr_of (a:=⟨b,0,none⟩) ?_)
    rw [eB] at H
    refine st7 H x (by rw [<- lB]; simp only [List.length_append,List.length_cons]; omega) fun h H=>?_
    refine needs_of (by omega) (ptr_of (a:=⟨b,0,none⟩) ?_)
    rw [<- lB,set_at,eC] at H
    refine st7 H y (by rw [<- lA]; simp only [List.length_append,List.length_cons]; omega) fun h H=>?_
    rw [<- lA,set_at,eD] at H
    refine bindI_of ((P.length+X1.length+Xc.length:Nat):Int) (by exact i64_at _ _ (by omega) (by omega) (by omega)) ?_
    exact ⟨Xc.length,by omega,Xc,x::Xb,by simp only [List.append_assoc,List.cons_append,List.nil_append],rfl,rfl,H⟩
   ·obtain rfl:Xa=[]:=List.eq_nil_of_length_eq_zero (by omega)
    rw [List.nil_append] at *
    refine hk (X1++y::Xb) h ?_ ?_ (by simpa only [List.append_assoc,List.cons_append,List.nil_append] using H)
    ·have:=(Sw.past (key:=key) (a:=y) (l:=Xb) fun z hz hh=>by have:=a2 z hz; rw [hh] at this; exact Key.lt_irrefl _ this).symm.ctx X1 []
     simpa only [List.append_assoc,List.cons_append,List.nil_append,List.append_nil] using this
    ·refine Srt.append sX.left (List.pairwise_cons.2 ⟨fun z hz hh=>Key.lt_irrefl _ (Key.lt_trans hh (a2 z hz)),sX.right⟩) fun z hz w hw=>?_
     rcases List.mem_cons.1 hw with rfl | hw
     ·exact a1 z hz
     ·exact sX.cross z hz w hw
 obtain ⟨mid,hmid⟩:∃ mid,(P.length+(P.length+X.length+Y.length)) / 2=mid:=⟨_,rfl⟩
 refine half (s:=P.length+(P.length+X.length+Y.length)) (by omega) (by omega) ?_
 rw [hmid]
 refine bindI_of ((mid+(P.length+X.length):Nat):Int) (by exact i64_at _ _ (by omega) (by omega) (by omega)) ?_
 have hX2:X.length≠1:=fun hh=>h1 (by omega)
 have hY2:Y.length≠1:=fun hh=>h2 (by omega)
 refine ⟨fun vs h'=>∃ s0 r0:Nat,vs=[.int .i64 (s0:Nat), .int .i64 (r0:Nat)]/\h'=h/\(P.length+X.length > mid/\s0+(P.length+X.length+Y.length)=mid+(P.length+X.length)/\r0=mid\/P.length+X.length<=mid/\s0=P.length/\r0=P.length+X.length),?_,?_⟩
 ·refine bcase_dec (fun h3=>?_) fun h3=>?_
  ·refine bindI_of ((mid+(P.length+X.length)-(P.length+X.length+Y.length):Nat):Int) (by exact i64_at _ _ (by omega) (by omega) (by omega)) ?_
   exact ⟨_,_,rfl,rfl, .inl ⟨by omega,by omega,rfl⟩⟩
  ·exact ⟨_,_,rfl,rfl, .inr ⟨by omega,rfl,rfl⟩⟩
 rintro h' u xs xr ⟨s0,r0,hxx,rfl,hsr⟩
 injection hxx with hx1 hxx
 injection hxx with hx2 hxx
 injection hx1 with _ hx1
 injection hx2 with _ hx2
 subst xs xr
 clear hxx
 refine bindI_of ((mid+(P.length+X.length)-1:Nat):Int) (by exact i64_at _ _ (by omega) (by omega) (by omega)) ?_
 have gX:∀ k,P.length<=k->k<P.length+X.length->(P++X++Y++S)[k]? = X[k-P.length]?:=fun k k1 k2=>by
  rw [List.append_assoc]
  exact get_XX (by omega) (by omega)
 have gY:∀ k,P.length+X.length<=k->k<P.length+X.length+Y.length->(P++X++Y++S)[k]? = Y[k-(P.length+X.length)]?:=fun k k1 k2=>get_XX (P:=P++X) (by omega) (by rw [List.length_append]; omega)
 refine ⟨fun m vs h'=>∃ s r:Nat,s0<=s/\s<=r/\r<=r0/\m=r-s/\(s=s0\/∃ x y,X[s-1-P.length]? = some x/\Y[mid-s]? = some y/\¬ (key y).lt (key x))/\(r=r0\/∃ x y,X[r-P.length]? = some x/\Y[mid-1-r]? = some y/\(key y).lt (key x))/\vs=[.int .i64 (s:Nat), .int .i64 (r:Nat)]/\Hp h0 F h' (IRow b (P++X++Y++S) rest::B),
  ⟨r0-s0,s0,r0,by omega,by omega,by omega,rfl, .inl rfl, .inl rfl,rfl,H⟩,?_⟩
 clear H
 rintro m h u xs xr ⟨s,r,hs0,hsr1,hr0,hm,hS,hR,hxx,H⟩
 injection hxx with hx1 hxx
 injection hxx with hx2 hxx
 injection hx1 with _ hx1
 injection hx2 with _ hx2
 subst xs xr
 refine bcase_dec (fun hlt=>?_) fun hlt=>?_
 ·obtain ⟨q,hq⟩:∃ q,(s+r) / 2=q:=⟨_,rfl⟩
  refine half (s:=s+r) (by omega) (by omega) ?_
  rw [hq]
  refine bindI_of ((mid+(P.length+X.length)-1-q:Nat):Int) (by exact i64_at _ _ (by omega) (by omega) (by omega)) ?_
  obtain ⟨x,hx⟩:∃ x,X[q-P.length]? = some x:=⟨_,List.getElem?_eq_getElem (by omega)⟩
  obtain ⟨y,hy⟩:∃ y,Y[mid-1-q]? = some y:=⟨_,List.getElem?_eq_getElem (by omega)⟩
  refine needs_of (by omega) (ptr_of (a:=⟨b,0,none⟩) ?_)
  refine needs_of (by omega) (ptr_of (a:=⟨b,0,none⟩) ?_)
  refine ld7 H (o:=y) (by rw [gY _ (by omega) (by omega),<- hy]; congr 1; omega) ?_
  refine ld7 H (o:=x) (by rw [gX _ (by omega) (by omega),<- hx]) ?_
  refine hc h _ H y x _ fun rr h' hr e=>⟨_,rfl,?_⟩
  replace H:=H.ext e
  refine bcase_ndec (fun hrr=>?_) fun hrr=>?_
  ·refine bindI_of ((q+1:Nat):Int) (by exact i64_at _ _ (by omega) (by omega) (by omega)) ?_
   exact ⟨r-(q+1),by omega,q+1,r,by omega,by omega,hr0,rfl, .inr ⟨x,y,by rw [Nat.add_sub_cancel]; exact hx,by rw [<- hy]; congr 1; omega,fun hh=>hrr (hr.2 hh)⟩,hR,rfl,H⟩
  ·exact ⟨q-s,by omega,s,q,hs0,by omega,by omega,rfl,hS, .inr ⟨x,y,hx,hy,hr.1 hrr⟩,rfl,H⟩
 ·obtain rfl:s=r:=by omega
  clear hlt hm hsr1 gX gY hxx
  obtain ⟨e,he⟩:∃ e,mid+(P.length+X.length)-s=e:=⟨_,rfl⟩
  refine bindI_of ((e:Nat):Int) (by exact i64_at _ _ (by omega) (by omega) (by omega)) ?_
  have hXd:X=X.take (s-P.length)++X.drop (s-P.length):=(List.take_append_drop _ _).symm
  have hYd:Y=Y.take (e-(P.length+X.length))++Y.drop (e-(P.length+X.length)):=(List.take_append_drop _ _).symm
  have lX1:(X.take (s-P.length)).length=s-P.length:=by rw [List.length_take]; omega
  have lX2:(X.drop (s-P.length)).length=X.length-(s-P.length):=List.length_drop
  have lY1:(Y.take (e-(P.length+X.length))).length=e-(P.length+X.length):=by rw [List.length_take]; omega
  have lY2:(Y.drop (e-(P.length+X.length))).length=Y.length-(e-(P.length+X.length)):=List.length_drop
  have f1:∀ x∈X.drop (s-P.length),∀ y∈Y.take (e-(P.length+X.length)),(key y).lt (key x):=fun x hx y hy=>by
   have k1:0<(X.drop (s-P.length)).length:=List.length_pos_of_mem hx
   have k2:0<(Y.take (e-(P.length+X.length))).length:=List.length_pos_of_mem hy
   rcases hR with hR | ⟨x',y',hx',hy',hxy⟩
   ·omega
   ·have hx2:=sX.behind (x:=x') (.inr ⟨x',hx',Key.lt_irrefl _⟩) x hx
    have hy2:=sY.ahead' (i:=e-(P.length+X.length)) (x:=y') (.inr ⟨y',by rw [<- hy']; congr 1; omega,Key.lt_irrefl _⟩) y hy
    exact Key.lt_le (Key.le_lt hy2 hxy) hx2
  have f2:∀ x∈X.take (s-P.length),∀ y∈Y.drop (e-(P.length+X.length)),¬ (key y).lt (key x):=fun x hx y hy=>by
   have k1:0<(X.take (s-P.length)).length:=List.length_pos_of_mem hx
   have k2:0<(Y.drop (e-(P.length+X.length))).length:=List.length_pos_of_mem hy
   rcases hS with hS | ⟨x',y',hx',hy',hxy⟩
   ·omega
   ·have hx2:=sX.ahead' (i:=s-P.length) (x:=x') (.inr ⟨x',by rw [<- hx']; congr 1; omega,Key.lt_irrefl _⟩) x hx
    have hy2:=sY.behind (i:=e-(P.length+X.length)) (x:=y') (.inr ⟨y',by rw [<- hy']; congr 1; omega,Key.lt_irrefl _⟩) y hy
    exact Key.le_trans (Key.le_trans hx2 hxy) hy2
  clear hS hR
  generalize X.take (s-P.length)=X1 at *
  generalize X.drop (s-P.length)=X2 at *
  generalize Y.take (e-(P.length+X.length))=Y1 at *
  generalize Y.drop (e-(P.length+X.length))=Y2 at *
  have hs1:P.length<=s:=by omega
  have hs2:s<=P.length+X.length:=by omega
  have he1:P.length+X.length<=e:=by omega
  have he2:e<=P.length+X.length+Y.length:=by omega
  have hXl:X.length=X1.length+X2.length:=by omega
  have hYl:Y.length=Y1.length+Y2.length:=by omega
  rw [hXd] at sX H hk
  rw [hYd] at sY H hk
  have sw0:Sw key ((X1++X2)++(Y1++Y2)) (X1++Y1++(X2++Y2)):=by
   have:=(Sw.blocks (key:=key) (l:=X2) (m:=Y1) fun x hx y hy hh=>by have:=f1 x hx y hy; rw [hh] at this; exact Key.lt_irrefl _ this).ctx X1 Y2
   simpa only [List.append_assoc] using this
  refine ⟨fun _ h'=>Hp h0 F h' (IRow b (P++X1++Y1++(X2++Y2++S)) rest::B),?_,?_⟩
  ·have skip:X2=[]\/Y1=[]->Hp h0 F h (IRow b (P++X1++Y1++(X2++Y2++S)) rest::B):=fun hh=>by
    rcases hh with rfl | rfl
    ·simpa only [List.append_assoc,List.append_nil,List.nil_append] using H
    ·simpa only [List.append_assoc,List.append_nil,List.nil_append] using H
   refine bcase_dec (fun h3=>?_) fun h3=>?_
   ·refine bcase_dec (fun h4=>?_) fun h4=>?_
    ·have H:Hp h0 F h (IRow b ((P++X1)++X2++Y1++(Y2++S)) rest::B):=by simpa only [List.append_assoc] using H
     refine rotate_ok (by simp only [List.length_append]; omega) hb (by omega) (by omega) (by rw [List.length_append]; omega) (by rw [List.length_append]; omega) (by rw [List.length_append]; omega) H fun h H=>?_
     simpa only [List.append_assoc] using H
    ·exact skip (.inr (List.eq_nil_of_length_eq_zero (by omega)))
   ·exact skip (.inl (List.eq_nil_of_length_eq_zero (by omega)))
  clear H
  intro h u H
  refine ⟨fun _ h'=>∃ L,Sw key (X1++Y1) L/\Srt key L/\Hp h0 F h' (IRow b (P++L++(X2++Y2++S)) rest::B),?_,?_⟩
  ·have skip:X1=[]\/Y1=[]->∃ L,Sw key (X1++Y1) L/\Srt key L/\Hp h0 F h (IRow b (P++L++(X2++Y2++S)) rest::B):=fun hh=>by
    rcases hh with rfl | rfl
    ·exact ⟨Y1, .refl _,sY.left,by simpa only [List.append_assoc,List.append_nil,List.nil_append] using H⟩
    ·exact ⟨X1,by rw [List.append_nil]; exact .refl _,sX.left,by simpa only [List.append_assoc,List.append_nil,List.nil_append] using H⟩
   refine bcase_dec (fun h3=>?_) fun h3=>?_
   ·refine bcase_dec (fun h4=>?_) fun h4=>?_
    ·refine ih P X1 Y1 (X2++Y2++S) h _ P.length s mid (by omega) (by omega) (by omega) sX.left sY.left (by simp only [List.length_append]; omega) rfl (by omega) (by omega) H fun L h' hsw hsL H=>⟨L,hsw,hsL,H⟩
    ·exact skip (.inr (List.eq_nil_of_length_eq_zero (by omega)))
   ·exact skip (.inl (List.eq_nil_of_length_eq_zero (by omega)))
  clear H
  rintro h u ⟨L,swL,sL,H⟩
  have lL:=swL.length
  rw [List.length_append] at lL
  have fin:∀ R h',Sw key (X2++Y2) R->Srt key R->Hp h0 F h' (IRow b (P++L++(R++S)) rest::B)->K (.tuple #[]) h':=fun R h' swR sR H=>by
   refine hk (L++R) h' ?_ ?_ (by simpa only [List.append_assoc] using H)
   ·have t1:=swL.ctx [] (X2++Y2)
    have t2:=swR.ctx L []
    simp only [List.nil_append,List.append_nil] at t1 t2
    exact .trans sw0 (.trans t1 t2)
   ·refine Srt.append sL sR fun x hx y hy=>?_
    have hx:=(swL.mem x).1 hx
    have hy:=(swR.mem y).1 hy
    rcases List.mem_append.1 hx with hx | hx
    ·rcases List.mem_append.1 hy with hy | hy
     ·exact sX.cross x hx y hy
     ·exact f2 x hx y hy
    ·rcases List.mem_append.1 hy with hy | hy
     ·exact fun hh=>Key.lt_irrefl _ (Key.lt_trans hh (f1 y hy x hx))
     ·exact sY.cross x hx y hy
  have skip:X2=[]\/Y2=[]->K (.tuple #[]) h:=fun hh=>by
   rcases hh with rfl | rfl
   ·exact fin Y2 h (.refl _) sY.right (by simpa only [List.append_assoc,List.append_nil,List.nil_append] using H)
   ·exact fin X2 h (by rw [List.append_nil]; exact .refl _) sX.right (by simpa only [List.append_assoc,List.append_nil,List.nil_append] using H)
  refine bcase_dec (fun h3=>?_) fun h3=>?_
  ·refine bcase_dec (fun h4=>?_) fun h4=>?_
   ·have H:Hp h0 F h (IRow b ((P++L)++X2++Y2++S) rest::B):=by simpa only [List.append_assoc] using H
    exact ih (P++L) X2 Y2 S h _ mid e _ (by omega) (by omega) (by omega) sX.right sY.right (by simp only [List.length_append]; omega) (by rw [List.length_append]; omega) (by rw [List.length_append]; omega) (by rw [List.length_append]; omega) H fun R h' hsw hsR H=>fin R h' hsw hsR (by simpa only [List.append_assoc] using H)
   ·exact skip (.inr (List.eq_nil_of_length_eq_zero (by omega)))
  ·exact skip (.inl (List.eq_nil_of_length_eq_zero (by omega)))
end
end Go.Bm
namespace Go.Bm
open Go Go.Den Go.Den.YtbknfejmdekhpaaGreat
theorem len_flat {α:Type} {k:Nat}:∀ {L:List (List α)},(∀ l∈L,l.length=k)->L.flatten.length=L.length*k
 | [],_=>by simp
 | l::L,h=>by
  rw [List.flatten_cons,List.length_append,len_flat fun x hx=>h x (List.mem_cons_of_mem _ hx),h l (List.mem_cons_self ..),List.length_cons,Nat.succ_mul,Nat.add_comm]
section
variable {h0:Heap} {F:List Nat} {B:List Ent} {b:Nat} {rest:List Value} {cmp:Value} {key:OwI->Key} {K:VK} {Kp:PK}
def Blks (key:OwI->Key) (k:Nat) (L:List (List OwI)):Prop:=∀ l∈L,l.length=k/\Srt key l
theorem Blks.len {k:Nat} {L:List (List OwI)} (h:Blks key k L):L.flatten.length=L.length*k:=len_flat fun l hl=>(h l hl).1
theorem Blks.snoc {k:Nat} {L:List (List OwI)} (h:Blks key k L) {l:List OwI} (hl:l.length=k) (hs:Srt key l):Blks key k (L++[l]):=fun x hx=>by
 rcases List.mem_append.1 hx with hx | hx
 ·exact h x hx
 ·rw [List.mem_singleton.1 hx]; exact ⟨hl,hs⟩
set_option maxHeartbeats 1000000 in
theorem stable_ok {h:Heap} {O:List OwI} {n c:Nat} (hc:CmpOk h0 F B b rest key cmp Kp) (hn:n=O.length) (hb:n<=1000000) (H:Hp h0 F h (IRow b O rest::B))
  (hk:∀ Z h',Sw key O Z->Srt key Z->Hp h0 F h' (IRow b Z rest::B)->K (.tuple #[]) h') :
  CP F_slices_stableCmpFunc_api_Instance #[.slice (some ⟨b,0,none⟩) n c, .int .i64 (n:Nat),cmp] h K Kp:=by
 refine call_slices_stableCmpFunc_api_Instance ?_
 unfold slices_stableCmpFunc_api_Instance
 refine ⟨fun m vs h'=>∃ (L:List (List OwI)) (R:List OwI) (a:Nat),Blks key 20 L/\a=L.flatten.length/\Sw key O (L.flatten++R)/\m=R.length/\vs=[.int .i64 (a:Nat), .int .i64 ((a+20:Nat):Int)]/\Hp h0 F h' (IRow b (L.flatten++R) rest::B),
  ⟨O.length,[],O,0,(fun l hl=>by cases hl),rfl, .refl _,rfl,rfl,H⟩,?_⟩
 clear H
 rintro m h u xa xb ⟨L,R,a,hL,ha,hsw,hm,hxx,H⟩
 injection hxx with hx1 hxx
 injection hxx with hx2 hxx
 injection hx1 with _ hx1
 injection hx2 with _ hx2
 subst xa xb
 have hlen:=hsw.length
 rw [List.length_append,<- ha,<- hn] at hlen
 refine bcase_dec (fun h1=>?_) fun h1=>?_
 ·have hR:R=R.take 20++R.drop 20:=(List.take_append_drop _ _).symm
  have hl20:(R.take 20).length=20:=by rw [List.length_take]; omega
  have hl2:(R.drop 20).length=R.length-20:=List.length_drop
  generalize R.take 20=M at *
  generalize R.drop 20=S at *
  subst hR
  rw [<- List.append_assoc] at H hsw
  refine insSort_ok hc (by simp only [List.length_append] at hlen ⊢; omega) hb ha (by omega) H fun M' h' hw hs H=>?_
  have hwl:=hw.length
  refine bindI_of ((a+20+20:Nat):Int) (by exact i64_at _ _ (by omega) (by omega) (by omega)) ?_
  rw [List.length_append] at hlen hm hl2
  refine ⟨S.length,by omega,L++[M'],S,a+20,hL.snoc (by omega) hs,by rw [List.flatten_append,List.length_append,List.flatten_singleton]; omega,?_,rfl,rfl,by rw [List.flatten_append,List.flatten_singleton]; exact H⟩
  rw [List.flatten_append,List.flatten_singleton]
  exact .trans hsw (hw.ctx L.flatten S)
 have H:Hp h0 F h (IRow b (L.flatten++R++[]) rest::B):=by rw [List.append_nil]; exact H
 refine insSort_ok hc (by simp only [List.length_append,List.length_nil] at hlen ⊢; omega) hb ha (by omega) H fun R' h' hw hs H=>?_
 rw [List.append_nil] at H
 have hwl:=hw.length
 have hsw:Sw key O (L.flatten++R') := .trans hsw (by have:=hw.ctx L.flatten []; simpa only [List.append_nil] using this)
 clear hw
 refine ⟨fun m vs h'=>∃ (L:List (List OwI)) (R:List OwI) (bs:Nat),0<bs/\bs<=2*n+20/\Blks key bs L/\Srt key R/\R.length<bs/\Sw key O (L.flatten++R)/\m=n-bs/\vs=[.int .i64 (bs:Nat)]/\Hp h0 F h' (IRow b (L.flatten++R) rest::B),
  ⟨n-20,L,R',20,by decide,by omega,hL,hs,by omega,hsw,rfl,rfl,H⟩,?_⟩
 clear H hsw hs hL hwl hlen h1 ha hm
 rintro m h u xa ⟨L,R,bs,hbs,hbs2,hL,hs,hlR,hsw,hm,hxx,H⟩
 injection hxx with hx1 hxx
 injection hx1 with _ hx1
 subst xa
 have hlen:=hsw.length
 rw [List.length_append,hL.len,<- hn] at hlen
 refine bcase_dec (fun h1=>?_) fun h1=>?_
 ·refine bindI_of ((2*bs:Nat):Int) (by exact i64_at _ _ (by omega) (by omega) (by omega)) ?_
  refine ⟨fun m vs h'=>∃ (C L:List (List OwI)) (a:Nat),Blks key (2*bs) C/\Blks key bs L/\a=C.flatten.length/\Sw key O (C.flatten++(L.flatten++R))/\m=L.length/\vs=[.int .i64 (a:Nat), .int .i64 ((a+2*bs:Nat):Int)]/\Hp h0 F h' (IRow b (C.flatten++(L.flatten++R)) rest::B),
   ⟨L.length,[],L,0,(fun l hl=>by cases hl),hL,rfl,hsw,rfl,by rw [Nat.zero_add]; rfl,H⟩,?_⟩
  clear hlen H hsw hL
  rintro m' h u xa xb ⟨C,L,a,hC,hL,ha,hsw,hm',hxx,H⟩
  injection hxx with hx1 hxx
  injection hxx with hx2 hxx
  injection hx1 with _ hx1
  injection hx2 with _ hx2
  subst xa xb
  have hlen:=hsw.length
  rw [List.length_append,List.length_append,hL.len,<- ha,<- hn] at hlen
  have next:∀ (C:List (List OwI)) (R:List OwI) h',Blks key (2*bs) C->Srt key R->R.length<2*bs->Sw key O (C.flatten++R)->Hp h0 F h' (IRow b (C.flatten++R) rest::B)->bindI (IntKind.i64.wrap ((bs:Int)*2)) fun z=>∃ m_14,m_14<m/\∃ (L:List (List OwI)) (R:List OwI) (bs:Nat),0<bs/\bs<=2*n+20/\Blks key bs L/\Srt key R/\R.length<bs/\Sw key O (L.flatten++R)/\m_14=n-bs/\[Value.int .i64 z]=[.int .i64 (bs:Nat)]/\Hp h0 F h' (IRow b (L.flatten++R) rest::B):=fun C R h' k1 k2 k3 k4 k5=>by
   refine bindI_of ((2*bs:Nat):Int) (by exact i64_at _ _ (by omega) (by omega) (by omega)) ?_
   exact ⟨n-2*bs,by omega,C,R,2*bs,by omega,by omega,k1,k2,k3,k4,rfl,rfl,k5⟩
  refine bcase_dec (fun h2=>?_) fun h2=>?_
  ·refine bindI_of ((a+bs:Nat):Int) (by exact i64_at _ _ (by omega) (by omega) (by omega)) ?_
   obtain ⟨l1,l2,L2,rfl⟩:∃ l1 l2 L2,L=l1::l2::L2:=by
    rcases L with _ | ⟨l1,_ | ⟨l2,L2⟩⟩
    ·rw [List.length_nil,Nat.zero_mul] at hlen; omega
    ·rw [List.length_singleton,Nat.one_mul] at hlen; omega
    ·exact ⟨l1,l2,L2,rfl⟩
   obtain ⟨k1,s1⟩:=hL l1 (List.mem_cons_self ..)
   obtain ⟨k2,s2⟩:=hL l2 (List.mem_cons_of_mem _ (List.mem_cons_self ..))
   have eq:C.flatten++((l1::l2::L2).flatten++R)=C.flatten++l1++l2++(L2.flatten++R):=by simp only [List.flatten_cons,List.append_assoc]
   rw [eq] at H hsw
   have hlen2:=hsw.length
   rw [<- hn] at hlen2
   refine symMerge_ok hc hb (l1.length+l2.length) C.flatten l1 l2 (L2.flatten++R) h _ a (a+bs) (a+2*bs) (Nat.le_refl _) (by omega) (by omega) s1 s2 hlen2.symm ha (by omega) (by omega) H fun Z h' hw hs H=>?_
   have hwl:=hw.length
   rw [List.length_append] at hwl
   refine bindI_of ((2*bs:Nat):Int) (by exact i64_at _ _ (by omega) (by omega) (by omega)) ?_
   refine bindI_of ((a+2*bs+2*bs:Nat):Int) (by exact i64_at _ _ (by omega) (by omega) (by omega)) ?_
   refine ⟨L2.length,by rw [hm',List.length_cons,List.length_cons]; omega,C++[Z],L2,a+2*bs,hC.snoc (by omega) hs,fun l hl=>hL l (List.mem_cons_of_mem _ (List.mem_cons_of_mem _ hl)),by rw [List.flatten_append,List.length_append,List.flatten_singleton]; omega,?_,rfl,rfl,by rw [List.flatten_append,List.flatten_singleton]; exact H⟩
   rw [List.flatten_append,List.flatten_singleton]
   refine .trans hsw ?_
   have:=hw.ctx C.flatten (L2.flatten++R)
   simpa only [List.append_assoc] using this
  ·refine bindI_of ((a+bs:Nat):Int) (by exact i64_at _ _ (by omega) (by omega) (by omega)) ?_
   rcases L with _ | ⟨l1,_ | ⟨l2,L2⟩⟩
   ·rw [List.length_nil,Nat.zero_mul] at hlen
    exact bcase_dec (fun h3=>by omega) fun h3=>next C R h hC hs (by omega) hsw H
   ·rw [List.length_singleton,Nat.one_mul] at hlen
    obtain ⟨k1,s1⟩:=hL l1 (List.mem_cons_self ..)
    have eq:C.flatten++([l1].flatten++R)=C.flatten++l1++R++[]:=by simp only [List.flatten_singleton,List.append_assoc,List.append_nil]
    rw [eq] at H hsw
    refine bcase_dec (fun h3=>?_) fun h3=>?_
    ·have hlen2:=hsw.length
     rw [<- hn] at hlen2
     refine symMerge_ok hc hb (l1.length+R.length) C.flatten l1 R [] h _ a (a+bs) n (Nat.le_refl _) (by omega) (by omega) s1 hs hlen2.symm ha (by omega) (by omega) H fun Z h' hw hs H=>?_
     have hwl:=hw.length
     rw [List.length_append] at hwl
     rw [List.append_nil] at H hsw
     refine next C Z h' hC hs (by omega) (.trans hsw ?_) H
     have:=hw.ctx C.flatten []
     simpa only [List.append_assoc,List.append_nil] using this
    ·obtain rfl:R=[]:=List.eq_nil_of_length_eq_zero (by omega)
     rw [List.append_nil,List.append_nil] at H hsw
     exact next C l1 h hC s1 (by omega) hsw H
   ·rw [List.length_cons,List.length_cons,Nat.succ_mul,Nat.succ_mul] at hlen
    omega
 ·rcases L with _ | ⟨l1,_ | ⟨l2,L2⟩⟩
  ·exact hk R h hsw hs H
  ·rw [List.length_singleton,Nat.one_mul] at hlen
   obtain ⟨k1,s1⟩:=hL l1 (List.mem_cons_self ..)
   obtain rfl:R=[]:=List.eq_nil_of_length_eq_zero (by omega)
   rw [List.append_nil,List.flatten_singleton] at H hsw
   exact hk l1 h hsw s1 H
  ·rw [List.length_cons,List.length_cons,Nat.succ_mul,Nat.succ_mul] at hlen
   omega
theorem sortStable_ok {h:Heap} {O:List OwI} {n c:Nat} (hc:CmpOk h0 F B b rest key cmp Kp) (hn:n=O.length) (hb:n<=1000000) (H:Hp h0 F h (IRow b O rest::B))
  (hk:∀ Z h',Sw key O Z->Srt key Z->Hp h0 F h' (IRow b Z rest::B)->K (.tuple #[]) h') :
  CP F_slices_SortStableFunc_api_Instance_api_Instance #[.slice (some ⟨b,0,none⟩) n c,cmp] h K Kp:=by
 refine call_slices_SortStableFunc_api_Instance_api_Instance ?_
 unfold slices_SortStableFunc_api_Instance_api_Instance
 exact stable_ok hc hn hb H hk
end
end Go.Bm
namespace Go.Den.YtbknfejmdekhpaaGreat
open Go Go.Den
def cmp_Or_int (C:CallP) (vals:Option Addr) (valsn:Nat) (valsc:Nat) (h:Heap) (K:VK) (Kp:PK):Prop :=
∃ J_1:Nat->List Value->Heap->Prop,(∃ n_3,J_1 n_3 [.int .i64 0] h)/\∀ (n_3:Nat) (h_4:Heap) (u_5:Nat->Value) (x_6:Int),J_1 n_3 [.int .i64 x_6] h_4->(
bcase (decide (x_6<(valsn:Int))) (
needs (0<=x_6/\x_6<(valsn:Int)) <|
ptr vals fun a_7 =>
ldI h_4 (a_7.add (x_6.toNat*1)) .i64 fun x_8 =>
bcase (x_8 != (0:Int)) (
K (.int .i64 x_8) h_4) <|
bindI (IntKind.i64.wrap (x_6+(1:Int))) fun z_9 =>
∃ m_2,m_2<n_3/\J_1 m_2 [.int .i64 z_9] h_4) <|
K (.int .i64 0) h_4)
def cmp_Compare_int (C:CallP) (x:Int) (y:Int) (h:Heap) (K:VK) (Kp:PK):Prop :=
C F_cmp_isNaN_int #[.int .i64 x] h (fun v_1 h_2 =>
∃ (r_3:Bool),v_1 = .bool r_3/\(
C F_cmp_isNaN_int #[.int .i64 y] h_2 (fun v_4 h_5 =>
∃ (r_6:Bool),v_4 = .bool r_6/\(
bcase r_3 (
bcase r_6 (
K (.int .i64 0) h_5) <|
K (.int .i64 (-1)) h_5) <|
bcase r_6 (
K (.int .i64 1) h_5) <|
bcase (decide (x<y)) (
K (.int .i64 (-1)) h_5) <|
bcase (decide (x > y)) (
K (.int .i64 1) h_5) <|
K (.int .i64 0) h_5)) (Kp))) (Kp)
def cmp_isNaN_int (C:CallP) (x:Int) (h:Heap) (K:VK) (Kp:PK):Prop :=
K (.bool (x != x)) h
end Go.Den.YtbknfejmdekhpaaGreat
namespace Go.Den.YtbknfejmdekhpaaGreat
open Go Go.Den
theorem call_cmp_Or_int {vals:Option Addr} {valsn:Nat} {valsc:Nat} {h:Heap} {K:VK} {Kp:PK} (H:cmp_Or_int (CallsHP Go.Proofs.Tryz.prog) vals valsn valsc h K Kp):CallsHP Go.Proofs.Tryz.prog F_cmp_Or_int #[.slice vals valsn valsc] h K Kp :=
 callsHP_ofE (Hints.mk (fun i=>none) (fun i=>bif Nat.beq i 3 then some ([(8, .int .i64)],130852) else (none)) (fun i=>none) []) (by kernel_rfl) Go.Proofs.Tryz.func68 (by kernel_rfl) (fun C=>cmp_Or_int C vals valsn valsc h K Kp) (fun C=>by kernel_rfl) H
theorem call_cmp_Compare_int {x:Int} {y:Int} {h:Heap} {K:VK} {Kp:PK} (H:cmp_Compare_int (CallsHP Go.Proofs.Tryz.prog) x y h K Kp):CallsHP Go.Proofs.Tryz.prog F_cmp_Compare_int #[.int .i64 x, .int .i64 y] h K Kp :=
 callsHP_ofE (Hints.mk (fun i=>none) (fun i=>none) (fun i=>none) []) (by kernel_rfl) Go.Proofs.Tryz.func69 (by kernel_rfl) (fun C=>cmp_Compare_int C x y h K Kp) (fun C=>by kernel_rfl) H
theorem call_cmp_isNaN_int {x:Int} {h:Heap} {K:VK} {Kp:PK} (H:cmp_isNaN_int (CallsHP Go.Proofs.Tryz.prog) x h K Kp):CallsHP Go.Proofs.Tryz.prog F_cmp_isNaN_int #[.int .i64 x] h K Kp :=
 callsHP_ofE (Hints.mk (fun i=>none) (fun i=>none) (fun i=>none) []) (by kernel_rfl) Go.Proofs.Tryz.func117 (by kernel_rfl) (fun C=>cmp_isNaN_int C x h K Kp) (fun C=>by kernel_rfl) H
end Go.Den.YtbknfejmdekhpaaGreat
namespace Go.Den.YtbknfejmdekhpaaGreat
open Go Go.Den
def text_Encode (C:CallP) (t_1:Int) (t_2:Int) (t_3:Int) (t_4:Int) (t_5:Int) (t_6:Bool) (t_7:Int) (t_8:Int) (t_9:Option Addr) (t_9n:Nat) (t_9c:Nat) (symbols:Option Addr) (symbolsn:Nat) (symbolsc:Nat) (h:Heap) (K:VK) (Kp:PK):Prop :=
newC h [.int .i64 t_1, .int .i64 t_2, .int .i64 t_3, .int .i64 t_4, .int .i64 t_5, .bool t_6, .int .i64 t_7, .int .i64 t_8, .slice t_9 t_9n t_9c] T_api_Text fun r_10 h_11 =>
newC h_11 [.slice symbols symbolsn symbolsc] T_s_api_Bitmap fun r_12 h_13 =>
newC h_13 [.slice none 0 0] T_s_uint8 fun r_14 h_15 =>
ldI h_15 ((⟨r_10,0,none⟩:Addr).add 0) .i64 fun x_16 =>
ldI h_15 ((⟨r_10,0,none⟩:Addr).add 1) .i64 fun x_17 =>
ldI h_15 ((⟨r_10,0,none⟩:Addr).add 2) .i64 fun x_18 =>
ldI h_15 ((⟨r_10,0,none⟩:Addr).add 3) .i64 fun x_19 =>
ldI h_15 ((⟨r_10,0,none⟩:Addr).add 4) .i64 fun x_20 =>
ldB h_15 ((⟨r_10,0,none⟩:Addr).add 5) fun x_21 =>
ldI h_15 ((⟨r_10,0,none⟩:Addr).add 6) .i64 fun x_22 =>
ldI h_15 ((⟨r_10,0,none⟩:Addr).add 7) .i64 fun x_23 =>
ldS h_15 ((⟨r_10,0,none⟩:Addr).add 8) fun x_24 x_24n x_24c =>
ldS h_15 (⟨r_12,0,none⟩:Addr) fun x_25 x_25n x_25c =>
C F_text_checked #[.agg #[.int .i64 x_16, .int .i64 x_17, .int .i64 x_18, .int .i64 x_19, .int .i64 x_20, .bool x_21, .int .i64 x_22, .int .i64 x_23, .slice x_24 x_24n x_24c], .slice x_25 x_25n x_25c] h_15 (fun v_26 h_27 =>
∃ (r_28:Int),v_26 = .int .i64 r_28/\(
bcase (r_28 != (0:Int)) (
stV h_27 (⟨r_14,0,none⟩:Addr) (.slice none 0 0) fun h_29 =>
ldS h_29 (⟨r_14,0,none⟩:Addr) fun r_30 r_30n r_30c =>
K (.tuple #[.slice r_30 r_30n r_30c, .int .i64 r_28]) h_29) <|
C F_text_caught #[.func (.func F_text_Encode_c1) #[] #[.pointer (some ⟨r_10,0,none⟩), .pointer (some ⟨r_12,0,none⟩), .pointer (some ⟨r_14,0,none⟩)]] h_27 (fun v_31 h_32 =>
∃ (r_33:Int),v_31 = .int .i64 r_33/\(
bcase (r_33 != (0:Int)) (
stV h_32 (⟨r_14,0,none⟩:Addr) (.slice none 0 0) fun h_34 =>
ldS h_34 (⟨r_14,0,none⟩:Addr) fun r_35 r_35n r_35c =>
K (.tuple #[.slice r_35 r_35n r_35c, .int .i64 r_33]) h_34) <|
ldS h_32 (⟨r_14,0,none⟩:Addr) fun x_36 x_36n x_36c =>
stV h_32 (⟨r_14,0,none⟩:Addr) (.slice x_36 x_36n x_36c) fun h_37 =>
ldS h_37 (⟨r_14,0,none⟩:Addr) fun r_38 r_38n r_38c =>
K (.tuple #[.slice r_38 r_38n r_38c, .int .i64 0]) h_37)) (Kp))) (Kp)
def text_Draw (C:CallP) (t_1:Int) (t_2:Int) (t_3:Int) (t_4:Int) (t_5:Int) (t_6:Bool) (t_7:Int) (t_8:Int) (t_9:Option Addr) (t_9n:Nat) (t_9c:Nat) (symbols:Option Addr) (symbolsn:Nat) (symbolsc:Nat) (h:Heap) (K:VK) (Kp:PK):Prop :=
newC h [.int .i64 t_1, .int .i64 t_2, .int .i64 t_3, .int .i64 t_4, .int .i64 t_5, .bool t_6, .int .i64 t_7, .int .i64 t_8, .slice t_9 t_9n t_9c] T_api_Text fun r_10 h_11 =>
newC h_11 [.int .i64 0, .int .i64 0, .slice none 0 0] T_api_Bitmap fun r_12 h_13 =>
ldI h_13 ((⟨r_10,0,none⟩:Addr).add 0) .i64 fun x_14 =>
ldI h_13 ((⟨r_10,0,none⟩:Addr).add 1) .i64 fun x_15 =>
ldI h_13 ((⟨r_10,0,none⟩:Addr).add 2) .i64 fun x_16 =>
ldI h_13 ((⟨r_10,0,none⟩:Addr).add 3) .i64 fun x_17 =>
ldI h_13 ((⟨r_10,0,none⟩:Addr).add 4) .i64 fun x_18 =>
ldB h_13 ((⟨r_10,0,none⟩:Addr).add 5) fun x_19 =>
ldI h_13 ((⟨r_10,0,none⟩:Addr).add 6) .i64 fun x_20 =>
ldI h_13 ((⟨r_10,0,none⟩:Addr).add 7) .i64 fun x_21 =>
ldS h_13 ((⟨r_10,0,none⟩:Addr).add 8) fun x_22 x_22n x_22c =>
C F_text_checked #[.agg #[.int .i64 x_14, .int .i64 x_15, .int .i64 x_16, .int .i64 x_17, .int .i64 x_18, .bool x_19, .int .i64 x_20, .int .i64 x_21, .slice x_22 x_22n x_22c], .slice symbols symbolsn symbolsc] h_13 (fun v_23 h_24 =>
∃ (r_25:Int),v_23 = .int .i64 r_25/\(
bcase (r_25 != (0:Int)) (
stV h_24 ((⟨r_12,0,none⟩:Addr).add 0) (.int .i64 0) fun h_26 =>
stV h_26 ((⟨r_12,0,none⟩:Addr).add 1) (.int .i64 0) fun h_27 =>
stV h_27 ((⟨r_12,0,none⟩:Addr).add 2) (.slice none 0 0) fun h_28 =>
ldI h_28 ((⟨r_12,0,none⟩:Addr).add 0) .i64 fun r_29 =>
ldI h_28 ((⟨r_12,0,none⟩:Addr).add 1) .i64 fun r_30 =>
ldS h_28 ((⟨r_12,0,none⟩:Addr).add 2) fun r_31 r_31n r_31c =>
K (.tuple #[.agg #[.int .i64 r_29, .int .i64 r_30, .slice r_31 r_31n r_31c], .int .i64 r_25]) h_28) <|
ldI h_24 ((⟨r_10,0,none⟩:Addr).add 2) .i64 fun x_32 =>
ldI h_24 ((⟨r_10,0,none⟩:Addr).add 3) .i64 fun x_33 =>
C F_bitmap_New #[.int .i64 x_32, .int .i64 x_33] h_24 (fun v_34 h_35 =>
∃ (r_36:Option Addr),∃ (r_37:Int),v_34 = .tuple #[.pointer r_36, .int .i64 r_37]/\(
bcase (r_37 != (0:Int)) (
stV h_35 ((⟨r_12,0,none⟩:Addr).add 0) (.int .i64 0) fun h_38 =>
stV h_38 ((⟨r_12,0,none⟩:Addr).add 1) (.int .i64 0) fun h_39 =>
stV h_39 ((⟨r_12,0,none⟩:Addr).add 2) (.slice none 0 0) fun h_40 =>
ldI h_40 ((⟨r_12,0,none⟩:Addr).add 0) .i64 fun r_41 =>
ldI h_40 ((⟨r_12,0,none⟩:Addr).add 1) .i64 fun r_42 =>
ldS h_40 ((⟨r_12,0,none⟩:Addr).add 2) fun r_43 r_43n r_43c =>
K (.tuple #[.agg #[.int .i64 r_41, .int .i64 r_42, .slice r_43 r_43n r_43c], .int .i64 r_37]) h_40) <|
ldI h_35 ((⟨r_10,0,none⟩:Addr).add 2) .i64 fun x_44 =>
ldI h_35 ((⟨r_10,0,none⟩:Addr).add 3) .i64 fun x_45 =>
ldI h_35 ((⟨r_10,0,none⟩:Addr).add 6) .i64 fun x_46 =>
C F_bitmap_Map_Fill #[.pointer r_36, .int .i64 0, .int .i64 0, .int .i64 x_44, .int .i64 x_45, .int .i64 x_46] h_35 (fun v_47 h_48 =>
∃ (r_49:Int),v_47 = .int .i64 r_49/\(
ldI h_48 ((⟨r_10,0,none⟩:Addr).add 0) .i64 fun x_50 =>
ldI h_48 ((⟨r_10,0,none⟩:Addr).add 1) .i64 fun x_51 =>
ldI h_48 ((⟨r_10,0,none⟩:Addr).add 2) .i64 fun x_52 =>
ldI h_48 ((⟨r_10,0,none⟩:Addr).add 3) .i64 fun x_53 =>
ldI h_48 ((⟨r_10,0,none⟩:Addr).add 4) .i64 fun x_54 =>
ldB h_48 ((⟨r_10,0,none⟩:Addr).add 5) fun x_55 =>
ldI h_48 ((⟨r_10,0,none⟩:Addr).add 6) .i64 fun x_56 =>
ldI h_48 ((⟨r_10,0,none⟩:Addr).add 7) .i64 fun x_57 =>
ldS h_48 ((⟨r_10,0,none⟩:Addr).add 8) fun x_58 x_58n x_58c =>
C F_text_Sorted #[.agg #[.int .i64 x_50, .int .i64 x_51, .int .i64 x_52, .int .i64 x_53, .int .i64 x_54, .bool x_55, .int .i64 x_56, .int .i64 x_57, .slice x_58 x_58n x_58c]] h_48 (fun v_59 h_60 =>
∃ (r_61:Option Addr) (r_61n:Nat) (r_61c:Nat),v_59 = .slice r_61 r_61n r_61c/\(
∃ J_62:Nat->List Value->Heap->Prop,(∃ n_64,J_62 n_64 [.int .i64 0] h_60)/\∀ (n_64:Nat) (h_65:Heap) (u_66:Nat->Value) (x_67:Int),J_62 n_64 [.int .i64 x_67] h_65->(
bcase (decide (x_67<(r_61n:Int))) (
needs (0<=x_67/\x_67<(r_61n:Int)) <|
ptr r_61 fun a_68 =>
ldI h_65 ((a_68.add (x_67.toNat*7)).add 0) .i64 fun x_69 =>
ldI h_65 ((a_68.add (x_67.toNat*7)).add 1) .i64 fun x_70 =>
ldI h_65 ((a_68.add (x_67.toNat*7)).add 2) .i64 fun x_71 =>
ldB h_65 ((a_68.add (x_67.toNat*7)).add 3) fun x_72 =>
ldI h_65 ((a_68.add (x_67.toNat*7)).add 4) .i64 fun x_73 =>
ldI h_65 ((a_68.add (x_67.toNat*7)).add 5) .i64 fun x_74 =>
ldS h_65 ((a_68.add (x_67.toNat*7)).add 6) fun x_75 x_75n x_75c =>
newC h_65 [.int .i64 0, .int .i64 0, .int .i64 0, .bool false, .int .i64 0, .int .i64 0, .slice none 0 0] T_api_Instance fun r_76 h_77 =>
stV h_77 ((⟨r_76,0,none⟩:Addr).add 0) (.int .i64 x_69) fun h_78 =>
stV h_78 ((⟨r_76,0,none⟩:Addr).add 1) (.int .i64 x_70) fun h_79 =>
stV h_79 ((⟨r_76,0,none⟩:Addr).add 2) (.int .i64 x_71) fun h_80 =>
stV h_80 ((⟨r_76,0,none⟩:Addr).add 3) (.bool x_72) fun h_81 =>
stV h_81 ((⟨r_76,0,none⟩:Addr).add 4) (.int .i64 x_73) fun h_82 =>
stV h_82 ((⟨r_76,0,none⟩:Addr).add 5) (.int .i64 x_74) fun h_83 =>
stV h_83 ((⟨r_76,0,none⟩:Addr).add 6) (.slice x_75 x_75n x_75c) fun h_84 =>
ldI h_84 (((⟨r_76,0,none⟩:Addr).add 4).add 0) .i64 fun x_85 =>
ldI h_84 (((⟨r_76,0,none⟩:Addr).add 4).add 1) .i64 fun x_86 =>
ldS h_84 (((⟨r_76,0,none⟩:Addr).add 4).add 2) fun x_87 x_87n x_87c =>
newC h_84 [.int .i64 0, .int .i64 0, .slice none 0 0] T_api_Bitmap fun r_88 h_89 =>
stV h_89 ((⟨r_88,0,none⟩:Addr).add 0) (.int .i64 x_85) fun h_90 =>
stV h_90 ((⟨r_88,0,none⟩:Addr).add 1) (.int .i64 x_86) fun h_91 =>
stV h_91 ((⟨r_88,0,none⟩:Addr).add 2) (.slice x_87 x_87n x_87c) fun h_92 =>
∃ K_93:List Value->Heap->Prop,(
ldB h_92 ((⟨r_76,0,none⟩:Addr).add 3) fun x_96 =>
bcase (!x_96) (
ldI h_92 ((⟨r_76,0,none⟩:Addr).add 2) .i64 fun x_97 =>
needs (0<=x_97/\x_97<(symbolsn:Int)) <|
ptr symbols fun a_98 =>
ldI h_92 ((a_98.add (x_97.toNat*3)).add 0) .i64 fun x_99 =>
ldI h_92 ((a_98.add (x_97.toNat*3)).add 1) .i64 fun x_100 =>
ldS h_92 ((a_98.add (x_97.toNat*3)).add 2) fun x_101 x_101n x_101c =>
stV h_92 ((⟨r_88,0,none⟩:Addr).add 0) (.int .i64 x_99) fun h_102 =>
stV h_102 ((⟨r_88,0,none⟩:Addr).add 1) (.int .i64 x_100) fun h_103 =>
stV h_103 ((⟨r_88,0,none⟩:Addr).add 2) (.slice x_101 x_101n x_101c) fun h_104 =>
K_93 [] h_104) <|
K_93 [] h_92)/\∀ (h_94:Heap) (u_95:Nat->Value) ,K_93 [] h_94->(
ldI h_94 ((⟨r_88,0,none⟩:Addr).add 0) .i64 fun x_105 =>
ldI h_94 ((⟨r_88,0,none⟩:Addr).add 1) .i64 fun x_106 =>
ldS h_94 ((⟨r_88,0,none⟩:Addr).add 2) fun x_107 x_107n x_107c =>
C F_bitmap_From #[.agg #[.int .i64 x_105, .int .i64 x_106, .slice x_107 x_107n x_107c]] h_94 (fun v_108 h_109 =>
∃ (r_110:Option Addr),∃ (r_111:Int),v_108 = .tuple #[.pointer r_110, .int .i64 r_111]/\(
bcase (r_111 != (0:Int)) (
stV h_109 ((⟨r_12,0,none⟩:Addr).add 0) (.int .i64 0) fun h_112 =>
stV h_112 ((⟨r_12,0,none⟩:Addr).add 1) (.int .i64 0) fun h_113 =>
stV h_113 ((⟨r_12,0,none⟩:Addr).add 2) (.slice none 0 0) fun h_114 =>
ldI h_114 ((⟨r_12,0,none⟩:Addr).add 0) .i64 fun r_115 =>
ldI h_114 ((⟨r_12,0,none⟩:Addr).add 1) .i64 fun r_116 =>
ldS h_114 ((⟨r_12,0,none⟩:Addr).add 2) fun r_117 r_117n r_117c =>
K (.tuple #[.agg #[.int .i64 r_115, .int .i64 r_116, .slice r_117 r_117n r_117c], .int .i64 r_111]) h_114) <|
ldI h_109 ((⟨r_88,0,none⟩:Addr).add 0) .i64 fun x_118 =>
ldI h_109 ((⟨r_88,0,none⟩:Addr).add 1) .i64 fun x_119 =>
ldI h_109 ((⟨r_76,0,none⟩:Addr).add 0) .i64 fun x_120 =>
ldI h_109 ((⟨r_76,0,none⟩:Addr).add 1) .i64 fun x_121 =>
ldI h_109 ((⟨r_10,0,none⟩:Addr).add 4) .i64 fun x_122 =>
C F_bitmap_Map_Blit #[.pointer r_36, .pointer r_110, .int .i64 0, .int .i64 0, .int .i64 x_118, .int .i64 x_119, .int .i64 x_120, .int .i64 x_121, .int .i64 x_122] h_109 (fun v_123 h_124 =>
∃ (r_125:Int),v_123 = .int .i64 r_125/\(
bindI (IntKind.i64.wrap (x_67+(1:Int))) fun z_126 =>
∃ m_63,m_63<n_64/\J_62 m_63 [.int .i64 z_126] h_124)) (Kp))) (Kp))) <|
C F_bitmap_Map_Plain #[.pointer r_36] h_65 (fun v_127 h_128 =>
∃ (r_129:Int) (r_130:Int) (r_131:Option Addr) (r_131n:Nat) (r_131c:Nat),v_127 = .agg #[.int .i64 r_129, .int .i64 r_130, .slice r_131 r_131n r_131c]/\(
stV h_128 ((⟨r_12,0,none⟩:Addr).add 0) (.int .i64 r_129) fun h_132 =>
stV h_132 ((⟨r_12,0,none⟩:Addr).add 1) (.int .i64 r_130) fun h_133 =>
stV h_133 ((⟨r_12,0,none⟩:Addr).add 2) (.slice r_131 r_131n r_131c) fun h_134 =>
ldI h_134 ((⟨r_12,0,none⟩:Addr).add 0) .i64 fun r_135 =>
ldI h_134 ((⟨r_12,0,none⟩:Addr).add 1) .i64 fun r_136 =>
ldS h_134 ((⟨r_12,0,none⟩:Addr).add 2) fun r_137 r_137n r_137c =>
K (.tuple #[.agg #[.int .i64 r_135, .int .i64 r_136, .slice r_137 r_137n r_137c], .int .i64 0]) h_134)) (Kp)))) (Kp))) (Kp))) (Kp))) (Kp)
def text_Sorted (C:CallP) (t_1:Int) (t_2:Int) (t_3:Int) (t_4:Int) (t_5:Int) (t_6:Bool) (t_7:Int) (t_8:Int) (t_9:Option Addr) (t_9n:Nat) (t_9c:Nat) (h:Heap) (K:VK) (Kp:PK):Prop :=
newC h [.int .i64 t_1, .int .i64 t_2, .int .i64 t_3, .int .i64 t_4, .int .i64 t_5, .bool t_6, .int .i64 t_7, .int .i64 t_8, .slice t_9 t_9n t_9c] T_api_Text fun r_10 h_11 =>
ldI h_11 ((⟨r_10,0,none⟩:Addr).add 7) .i64 fun x_12 =>
newC h_11 [.int .i64 0] T_int fun r_13 h_14 =>
stV h_14 (⟨r_13,0,none⟩:Addr) (.int .i64 x_12) fun h_15 =>
∃ K_16:List Value->Heap->Prop,(
ldI h_15 (⟨r_13,0,none⟩:Addr) .i64 fun x_19 =>
bcase (decide (x_19<(0:Int))) (
stV h_15 (⟨r_13,0,none⟩:Addr) (.int .i64 0) fun h_20 =>
K_16 [] h_20) <|
ldI h_15 (⟨r_13,0,none⟩:Addr) .i64 fun x_21 =>
bcase (decide (x_21 > (3:Int))) (
stV h_15 (⟨r_13,0,none⟩:Addr) (.int .i64 0) fun h_22 =>
K_16 [] h_22) <|
K_16 [] h_15)/\∀ (h_17:Heap) (u_18:Nat->Value) ,K_16 [] h_17->(
ldS h_17 ((⟨r_10,0,none⟩:Addr).add 8) fun x_23 x_23n x_23c =>
C F_slices_Clone_api_Instance_api_Instance #[.slice x_23 x_23n x_23c] h_17 (fun v_24 h_25 =>
∃ (r_26:Option Addr) (r_26n:Nat) (r_26c:Nat),v_24 = .slice r_26 r_26n r_26c/\(
∃ J_27:Nat->List Value->Heap->Prop,(∃ n_29,J_27 n_29 [.int .i64 0] h_25)/\∀ (n_29:Nat) (h_30:Heap) (u_31:Nat->Value) (x_32:Int),J_27 n_29 [.int .i64 x_32] h_30->(
bcase (decide (x_32<(r_26n:Int))) (
needs (0<=x_32/\x_32<(r_26n:Int)) <|
ptr r_26 fun a_33 =>
ldS h_30 (((a_33.add (x_32.toNat*7)).add 4).add 2) fun x_34 x_34n x_34c =>
C F_slices_Clone_uint64_uint64 #[.slice x_34 x_34n x_34c] h_30 (fun v_35 h_36 =>
∃ (r_37:Option Addr) (r_37n:Nat) (r_37c:Nat),v_35 = .slice r_37 r_37n r_37c/\(
needs (0<=x_32/\x_32<(r_26n:Int)) <|
ptr r_26 fun a_38 =>
stV h_36 (((a_38.add (x_32.toNat*7)).add 4).add 2) (.slice r_37 r_37n r_37c) fun h_39 =>
bindI (IntKind.i64.wrap (x_32+(1:Int))) fun z_40 =>
∃ m_28,m_28<n_29/\J_27 m_28 [.int .i64 z_40] h_39)) (Kp)) <|
C F_slices_SortStableFunc_api_Instance_api_Instance #[.slice r_26 r_26n r_26c, .func (.func F_text_Sorted_c1) #[] #[.pointer (some ⟨r_13,0,none⟩)]] h_30 (fun v_41 h_42 =>
K (.slice r_26 r_26n r_26c) h_42) (Kp)))) (Kp))
def text_Decode (C:CallP) (f:Option Addr) (fn:Nat) (fc:Nat) (symbols:Option Addr) (symbolsn:Nat) (symbolsc:Nat) (h:Heap) (K:VK) (Kp:PK):Prop :=
newC h [.slice f fn fc] T_s_uint8 fun r_1 h_2 =>
newC h_2 [.slice symbols symbolsn symbolsc] T_s_api_Bitmap fun r_3 h_4 =>
newC h_4 [.int .i64 0, .int .i64 0, .int .i64 0, .int .i64 0, .int .i64 0, .bool false, .int .i64 0, .int .i64 0, .slice none 0 0] T_api_Text fun r_5 h_6 =>
ldS h_6 (⟨r_3,0,none⟩:Addr) fun x_7 x_7n x_7c =>
newC h_6 [.pointer none, .int .i64 0, .int .i64 0, .int .i64 0, .int .i64 0, .int .i64 0, .bool false, .int .i64 0, .int .i64 0, .slice none 0 0, .slice x_7 x_7n x_7c, .int .i64 0, .int .i64 0] T_text_reader fun r_8 h_9 =>
newC h_9 [.pointer none] T_p_text_reader fun r_10 h_11 =>
stV h_11 (⟨r_10,0,none⟩:Addr) (.pointer (some ⟨r_8,0,none⟩)) fun h_12 =>
C F_text_caught #[.func (.func F_text_Decode_c1) #[] #[.pointer (some ⟨r_3,0,none⟩), .pointer (some ⟨r_1,0,none⟩), .pointer (some ⟨r_10,0,none⟩)]] h_12 (fun v_13 h_14 =>
∃ (r_15:Int),v_13 = .int .i64 r_15/\(
bcase (r_15 != (0:Int)) (
stVs h_14 (⟨r_5,0,none⟩:Addr) 0 [.int .i64 0, .int .i64 0, .int .i64 0, .int .i64 0, .int .i64 0, .bool false, .int .i64 0, .int .i64 0, .slice none 0 0] fun h_16 =>
ldI h_16 ((⟨r_5,0,none⟩:Addr).add 0) .i64 fun r_17 =>
ldI h_16 ((⟨r_5,0,none⟩:Addr).add 1) .i64 fun r_18 =>
ldI h_16 ((⟨r_5,0,none⟩:Addr).add 2) .i64 fun r_19 =>
ldI h_16 ((⟨r_5,0,none⟩:Addr).add 3) .i64 fun r_20 =>
ldI h_16 ((⟨r_5,0,none⟩:Addr).add 4) .i64 fun r_21 =>
ldB h_16 ((⟨r_5,0,none⟩:Addr).add 5) fun r_22 =>
ldI h_16 ((⟨r_5,0,none⟩:Addr).add 6) .i64 fun r_23 =>
ldI h_16 ((⟨r_5,0,none⟩:Addr).add 7) .i64 fun r_24 =>
ldS h_16 ((⟨r_5,0,none⟩:Addr).add 8) fun r_25 r_25n r_25c =>
K (.tuple #[.agg #[.int .i64 r_17, .int .i64 r_18, .int .i64 r_19, .int .i64 r_20, .int .i64 r_21, .bool r_22, .int .i64 r_23, .int .i64 r_24, .slice r_25 r_25n r_25c], .int .i64 r_15]) h_16) <|
ldP h_14 (⟨r_10,0,none⟩:Addr) fun x_26 =>
ldP h_14 (⟨r_10,0,none⟩:Addr) fun x_27 =>
ptr x_27 fun a_28 =>
ldI h_14 ((a_28.add 1).add 0) .i64 fun x_29 =>
ldI h_14 ((a_28.add 1).add 1) .i64 fun x_30 =>
ldI h_14 ((a_28.add 1).add 2) .i64 fun x_31 =>
ldI h_14 ((a_28.add 1).add 3) .i64 fun x_32 =>
ldI h_14 ((a_28.add 1).add 4) .i64 fun x_33 =>
ldB h_14 ((a_28.add 1).add 5) fun x_34 =>
ldI h_14 ((a_28.add 1).add 6) .i64 fun x_35 =>
ldI h_14 ((a_28.add 1).add 7) .i64 fun x_36 =>
ldS h_14 ((a_28.add 1).add 8) fun x_37 x_37n x_37c =>
C F_text_Sorted #[.agg #[.int .i64 x_29, .int .i64 x_30, .int .i64 x_31, .int .i64 x_32, .int .i64 x_33, .bool x_34, .int .i64 x_35, .int .i64 x_36, .slice x_37 x_37n x_37c]] h_14 (fun v_38 h_39 =>
∃ (r_40:Option Addr) (r_40n:Nat) (r_40c:Nat),v_38 = .slice r_40 r_40n r_40c/\(
hext h_14 h_39/\(
ptr x_26 fun a_41 =>
stV h_39 ((a_41.add 1).add 8) (.slice r_40 r_40n r_40c) fun h_42 =>
ldP h_42 (⟨r_10,0,none⟩:Addr) fun x_43 =>
ptr x_43 fun a_44 =>
ldI h_42 ((a_44.add 1).add 0) .i64 fun x_45 =>
ldI h_42 ((a_44.add 1).add 1) .i64 fun x_46 =>
ldI h_42 ((a_44.add 1).add 2) .i64 fun x_47 =>
ldI h_42 ((a_44.add 1).add 3) .i64 fun x_48 =>
ldI h_42 ((a_44.add 1).add 4) .i64 fun x_49 =>
ldB h_42 ((a_44.add 1).add 5) fun x_50 =>
ldI h_42 ((a_44.add 1).add 6) .i64 fun x_51 =>
ldI h_42 ((a_44.add 1).add 7) .i64 fun x_52 =>
ldS h_42 ((a_44.add 1).add 8) fun x_53 x_53n x_53c =>
stVs h_42 (⟨r_5,0,none⟩:Addr) 0 [.int .i64 x_45, .int .i64 x_46, .int .i64 x_47, .int .i64 x_48, .int .i64 x_49, .bool x_50, .int .i64 x_51, .int .i64 x_52, .slice x_53 x_53n x_53c] fun h_54 =>
ldI h_54 ((⟨r_5,0,none⟩:Addr).add 0) .i64 fun r_55 =>
ldI h_54 ((⟨r_5,0,none⟩:Addr).add 1) .i64 fun r_56 =>
ldI h_54 ((⟨r_5,0,none⟩:Addr).add 2) .i64 fun r_57 =>
ldI h_54 ((⟨r_5,0,none⟩:Addr).add 3) .i64 fun r_58 =>
ldI h_54 ((⟨r_5,0,none⟩:Addr).add 4) .i64 fun r_59 =>
ldB h_54 ((⟨r_5,0,none⟩:Addr).add 5) fun r_60 =>
ldI h_54 ((⟨r_5,0,none⟩:Addr).add 6) .i64 fun r_61 =>
ldI h_54 ((⟨r_5,0,none⟩:Addr).add 7) .i64 fun r_62 =>
ldS h_54 ((⟨r_5,0,none⟩:Addr).add 8) fun r_63 r_63n r_63c =>
K (.tuple #[.agg #[.int .i64 r_55, .int .i64 r_56, .int .i64 r_57, .int .i64 r_58, .int .i64 r_59, .bool r_60, .int .i64 r_61, .int .i64 r_62, .slice r_63 r_63n r_63c], .int .i64 0]) h_54))) (Kp))) (Kp)
def text_checked (C:CallP) (t_1:Int) (t_2:Int) (t_3:Int) (t_4:Int) (t_5:Int) (t_6:Bool) (t_7:Int) (t_8:Int) (t_9:Option Addr) (t_9n:Nat) (t_9c:Nat) (symbols:Option Addr) (symbolsn:Nat) (symbolsc:Nat) (h:Heap) (K:VK) (Kp:PK):Prop :=
newC h [.int .i64 t_1, .int .i64 t_2, .int .i64 t_3, .int .i64 t_4, .int .i64 t_5, .bool t_6, .int .i64 t_7, .int .i64 t_8, .slice t_9 t_9n t_9c] T_api_Text fun r_10 h_11 =>
ldI h_11 ((⟨r_10,0,none⟩:Addr).add 0) .i64 fun x_12 =>
ldI h_11 ((⟨r_10,0,none⟩:Addr).add 1) .i64 fun x_13 =>
ldI h_11 ((⟨r_10,0,none⟩:Addr).add 2) .i64 fun x_14 =>
ldI h_11 ((⟨r_10,0,none⟩:Addr).add 3) .i64 fun x_15 =>
ldI h_11 ((⟨r_10,0,none⟩:Addr).add 4) .i64 fun x_16 =>
ldB h_11 ((⟨r_10,0,none⟩:Addr).add 5) fun x_17 =>
ldI h_11 ((⟨r_10,0,none⟩:Addr).add 6) .i64 fun x_18 =>
ldI h_11 ((⟨r_10,0,none⟩:Addr).add 7) .i64 fun x_19 =>
ldS h_11 ((⟨r_10,0,none⟩:Addr).add 8) fun x_20 x_20n x_20c =>
C F_text_may #[.agg #[.int .i64 x_12, .int .i64 x_13, .int .i64 x_14, .int .i64 x_15, .int .i64 x_16, .bool x_17, .int .i64 x_18, .int .i64 x_19, .slice x_20 x_20n x_20c], .slice symbols symbolsn symbolsc] h_11 (fun v_21 h_22 =>
∃ (r_23:Bool),v_21 = .bool r_23/\(
bcase (!r_23) (
K (.int .i64 140) h_22) <|
ldS h_22 ((⟨r_10,0,none⟩:Addr).add 8) fun x_24 x_24n x_24c =>
∃ J_25:Nat->List Value->Heap->Prop,(∃ n_27,J_25 n_27 [.int .i64 0, .int .i64 0] h_22)/\∀ (n_27:Nat) (h_28:Heap) (u_29:Nat->Value) (area_30:Int) (x_31:Int),J_25 n_27 [.int .i64 area_30, .int .i64 x_31] h_28->(
bcase (decide (x_31<(x_24n:Int))) (
needs (0<=x_31/\x_31<(x_24n:Int)) <|
ptr x_24 fun a_32 =>
ldI h_28 ((a_32.add (x_31.toNat*7)).add 0) .i64 fun x_33 =>
ldI h_28 ((a_32.add (x_31.toNat*7)).add 1) .i64 fun x_34 =>
ldI h_28 ((a_32.add (x_31.toNat*7)).add 2) .i64 fun x_35 =>
ldB h_28 ((a_32.add (x_31.toNat*7)).add 3) fun x_36 =>
ldI h_28 ((a_32.add (x_31.toNat*7)).add 4) .i64 fun x_37 =>
ldI h_28 ((a_32.add (x_31.toNat*7)).add 5) .i64 fun x_38 =>
ldS h_28 ((a_32.add (x_31.toNat*7)).add 6) fun x_39 x_39n x_39c =>
newC h_28 [.int .i64 0, .int .i64 0, .int .i64 0, .bool false, .int .i64 0, .int .i64 0, .slice none 0 0] T_api_Instance fun r_40 h_41 =>
stV h_41 ((⟨r_40,0,none⟩:Addr).add 0) (.int .i64 x_33) fun h_42 =>
stV h_42 ((⟨r_40,0,none⟩:Addr).add 1) (.int .i64 x_34) fun h_43 =>
stV h_43 ((⟨r_40,0,none⟩:Addr).add 2) (.int .i64 x_35) fun h_44 =>
stV h_44 ((⟨r_40,0,none⟩:Addr).add 3) (.bool x_36) fun h_45 =>
stV h_45 ((⟨r_40,0,none⟩:Addr).add 4) (.int .i64 x_37) fun h_46 =>
stV h_46 ((⟨r_40,0,none⟩:Addr).add 5) (.int .i64 x_38) fun h_47 =>
stV h_47 ((⟨r_40,0,none⟩:Addr).add 6) (.slice x_39 x_39n x_39c) fun h_48 =>
ldI h_48 (((⟨r_40,0,none⟩:Addr).add 4).add 0) .i64 fun x_49 =>
ldI h_48 (((⟨r_40,0,none⟩:Addr).add 4).add 1) .i64 fun x_50 =>
bindI (IntKind.i64.wrap (x_49*x_50)) fun z_51 =>
bindI (IntKind.i64.wrap (area_30+z_51)) fun z_52 =>
bindI (minI z_52 (1048577:Int)) fun z_53 =>
bindI (IntKind.i64.wrap (x_31+(1:Int))) fun z_54 =>
∃ m_26,m_26<n_27/\J_25 m_26 [.int .i64 z_53, .int .i64 z_54] h_48) <|
bcase (decide ((symbolsn:Int) > (4096:Int))) (
K (.int .i64 120) h_28) <|
ldS h_28 ((⟨r_10,0,none⟩:Addr).add 8) fun x_55 x_55n x_55c =>
bcase (decide ((x_55n:Int) > (16384:Int))) (
K (.int .i64 120) h_28) <|
bcase (decide (area_30 > (1048576:Int))) (
K (.int .i64 120) h_28) <|
K (.int .i64 0) h_28))) (Kp)
def text_caught (C:CallP) (D:CallDP) (run:Value) (h:Heap) (K:VK) (Kp:PK):Prop :=
newC h [.int .i64 0] T_api_Errno fun r_1 h_2 =>
callD C (fun c_10 h_11=>leaveD D (fun h_8 =>
ldI h_8 (⟨r_1,0,none⟩:Addr) .i64 fun r_9 =>
K (.int .i64 r_9) h_8) Kp [{ target := .fn (.func F_text_caught_c1) #[.pointer (some ⟨r_1,0,none⟩)],args:=#[] }] (.panicking c_10) h_11) run [] h_2 fun v_3 h_4 =>
stV h_4 (⟨r_1,0,none⟩:Addr) (.int .i64 0) fun h_5 =>
leaveD D (fun h_6 =>
ldI h_6 (⟨r_1,0,none⟩:Addr) .i64 fun r_7 =>
K (.int .i64 r_7) h_6) Kp [{ target := .fn (.func F_text_caught_c1) #[.pointer (some ⟨r_1,0,none⟩)],args:=#[] }] .returning h_5
def text_Encode_c1 (C:CallP) (cap0:Addr) (cap1:Addr) (cap2:Addr) (h:Heap) (K:VK) (Kp:PK):Prop :=
C F_arith_New #[.int .i64 14337] h (fun v_1 h_2 =>
∃ (r_3:Option Addr),∃ (r_4:Int),v_1 = .tuple #[.pointer r_3, .int .i64 r_4]/\(
C F_text_need #[.int .i64 r_4] h_2 (fun v_5 h_6 =>
ldI h_6 (cap0.add 0) .i64 fun x_7 =>
ldI h_6 (cap0.add 1) .i64 fun x_8 =>
ldI h_6 (cap0.add 2) .i64 fun x_9 =>
ldI h_6 (cap0.add 3) .i64 fun x_10 =>
ldI h_6 (cap0.add 4) .i64 fun x_11 =>
ldB h_6 (cap0.add 5) fun x_12 =>
ldI h_6 (cap0.add 6) .i64 fun x_13 =>
ldI h_6 (cap0.add 7) .i64 fun x_14 =>
ldS h_6 (cap0.add 8) fun x_15 x_15n x_15c =>
ldS h_6 cap1 fun x_16 x_16n x_16c =>
newC h_6 [.pointer r_3, .int .i64 x_7, .int .i64 x_8, .int .i64 x_9, .int .i64 x_10, .int .i64 x_11, .bool x_12, .int .i64 x_13, .int .i64 x_14, .slice x_15 x_15n x_15c, .slice x_16 x_16n x_16c] T_text_coder fun r_17 h_18 =>
C F_text_coder_all #[.pointer (some ⟨r_17,0,none⟩)] h_18 (fun v_19 h_20 =>
C F_arith_Coder_Flush #[.pointer r_3] h_20 (fun v_21 h_22 =>
∃ (r_23:Option Addr) (r_23n:Nat) (r_23c:Nat),∃ (r_24:Int),v_21 = .tuple #[.slice r_23 r_23n r_23c, .int .i64 r_24]/\(
C F_text_need #[.int .i64 r_24] h_22 (fun v_25 h_26 =>
ldI h_26 (cap0.add 0) .i64 fun x_27 =>
ldI h_26 (cap0.add 1) .i64 fun x_28 =>
ldI h_26 (cap0.add 2) .i64 fun x_29 =>
ldI h_26 (cap0.add 3) .i64 fun x_30 =>
ldI h_26 (cap0.add 4) .i64 fun x_31 =>
ldB h_26 (cap0.add 5) fun x_32 =>
ldI h_26 (cap0.add 6) .i64 fun x_33 =>
ldI h_26 (cap0.add 7) .i64 fun x_34 =>
ldS h_26 (cap0.add 8) fun x_35 x_35n x_35c =>
C F_text_head #[.agg #[.int .i64 x_27, .int .i64 x_28, .int .i64 x_29, .int .i64 x_30, .int .i64 x_31, .bool x_32, .int .i64 x_33, .int .i64 x_34, .slice x_35 x_35n x_35c]] h_26 (fun v_36 h_37 =>
∃ (r_38:Option Addr) (r_38n:Nat) (r_38c:Nat),v_36 = .slice r_38 r_38n r_38c/\(
appC h_37 T_uint8 1 1 [.int .u8 0] r_38 (r_38n) (r_38c) r_23 (r_23n) fun q_39 q_39n q_39c h_40 =>
stV h_40 cap2 (.slice q_39 q_39n q_39c) fun h_41 =>
K (.tuple #[]) h_41)) (Kp)) (Kp))) (Kp)) (Kp)) (Kp))) (Kp)
def text_need (C:CallP) (err:Int) (h:Heap) (K:VK) (Kp:PK):Prop :=
bcase (err != (0:Int)) (
Kp [{ v := .iface T_text_fault (.agg #[.int .i64 err]),recovered:=false }] h) <|
K (.tuple #[]) h
def text_coder_all (C:CallP) (c:Option Addr) (h:Heap) (K:VK) (Kp:PK):Prop :=
ptr c fun a_1 =>
ldI h ((a_1.add 1).add 0) .i64 fun x_2 =>
ldI h ((a_1.add 1).add 1) .i64 fun x_3 =>
ldI h ((a_1.add 1).add 2) .i64 fun x_4 =>
ldI h ((a_1.add 1).add 3) .i64 fun x_5 =>
ldI h ((a_1.add 1).add 4) .i64 fun x_6 =>
ldB h ((a_1.add 1).add 5) fun x_7 =>
ldI h ((a_1.add 1).add 6) .i64 fun x_8 =>
ldI h ((a_1.add 1).add 7) .i64 fun x_9 =>
ldS h ((a_1.add 1).add 8) fun x_10 x_10n x_10c =>
C F_text_Sorted #[.agg #[.int .i64 x_2, .int .i64 x_3, .int .i64 x_4, .int .i64 x_5, .int .i64 x_6, .bool x_7, .int .i64 x_8, .int .i64 x_9, .slice x_10 x_10n x_10c]] h (fun v_11 h_12 =>
∃ (r_13:Option Addr) (r_13n:Nat) (r_13c:Nat),v_11 = .slice r_13 r_13n r_13c/\(
∃ J_14:Nat->List Value->Heap->Prop,(∃ n_16,J_14 n_16 [.int .i64 0, .int .i64 0, .int .i64 0] h_12)/\∀ (n_16:Nat) (h_17:Heap) (u_18:Nat->Value) (ahead_19:Int) (first_20:Int) (k_21:Int),J_14 n_16 [.int .i64 ahead_19, .int .i64 first_20, .int .i64 k_21] h_17->(
bcase (decide (k_21<(r_13n:Int))) (
needs (0<=k_21/\k_21<(r_13n:Int)) <|
ptr r_13 fun a_22 =>
ptr c fun a_23 =>
ldI h_17 ((a_22.add (k_21.toNat*7)).add 1) .i64 fun x_24 =>
ldI h_17 ((a_23.add 1).add 7) .i64 fun x_25 =>
needs (0<=x_25) <|
bindI (shrI .i64 x_24 x_25) fun z_26 =>
bindI (IntKind.i64.wrap (z_26-ahead_19)) fun z_27 =>
C F_text_coder_put #[.pointer c, .int .i64 0, .int .i64 z_27] h_17 (fun v_28 h_29 =>
needs (0<=k_21/\k_21<(r_13n:Int)) <|
ptr r_13 fun a_30 =>
ldI h_29 ((a_30.add (k_21.toNat*7)).add 0) .i64 fun x_31 =>
bindI (IntKind.i64.wrap (x_31-first_20)) fun z_32 =>
C F_text_coder_put #[.pointer c, .int .i64 512, .int .i64 z_32] h_29 (fun v_33 h_34 =>
needs (0<=k_21/\k_21<(r_13n:Int)) <|
ptr r_13 fun a_35 =>
ldI h_34 ((a_35.add (k_21.toNat*7)).add 0) .i64 fun x_36 =>
∃ J_37:Nat->List Value->Heap->Prop,(∃ n_39,J_37 n_39 [.int .i64 k_21] h_34)/\∀ (n_39:Nat) (h_40:Heap) (u_41:Nat->Value) (k_42:Int),J_37 n_39 [.int .i64 k_42] h_40->(
needs (0<=k_42/\k_42<(r_13n:Int)) <|
ptr r_13 fun a_43 =>
ldI h_40 ((a_43.add (k_42.toNat*7)).add 0) .i64 fun x_44 =>
ldI h_40 ((a_43.add (k_42.toNat*7)).add 1) .i64 fun x_45 =>
ldI h_40 ((a_43.add (k_42.toNat*7)).add 2) .i64 fun x_46 =>
ldB h_40 ((a_43.add (k_42.toNat*7)).add 3) fun x_47 =>
ldI h_40 ((a_43.add (k_42.toNat*7)).add 4) .i64 fun x_48 =>
ldI h_40 ((a_43.add (k_42.toNat*7)).add 5) .i64 fun x_49 =>
ldS h_40 ((a_43.add (k_42.toNat*7)).add 6) fun x_50 x_50n x_50c =>
C F_text_coder_one #[.pointer c, .agg #[.int .i64 x_44, .int .i64 x_45, .int .i64 x_46, .bool x_47, .int .i64 x_48, .int .i64 x_49, .slice x_50 x_50n x_50c]] h_40 (fun v_51 h_52 =>
bindI (IntKind.i64.wrap (k_42+(1:Int))) fun z_53 =>
bcase (z_53 == (r_13n:Int)) (
ptr c fun a_54 =>
ldP h_52 (a_54.add 0) fun x_55 =>
C F_whole_Put #[.pointer x_55, .int .i64 1024, .agg #[.int .i64 0, .bool true]] h_52 (fun v_56 h_57 =>
∃ (r_58:Int),v_56 = .int .i64 r_58/\(
C F_text_need #[.int .i64 r_58] h_57 (fun v_59 h_60 =>
∃ m_15,m_15<n_16/\J_14 m_15 [.int .i64 z_26, .int .i64 x_36, .int .i64 z_53] h_60) (Kp))) (Kp)) <|
needs (0<=z_53/\z_53<(r_13n:Int)) <|
ptr r_13 fun a_61 =>
ptr c fun a_62 =>
ldI h_52 ((a_61.add (z_53.toNat*7)).add 1) .i64 fun x_63 =>
ldI h_52 ((a_62.add 1).add 7) .i64 fun x_64 =>
needs (0<=x_64) <|
bindI (shrI .i64 x_63 x_64) fun z_65 =>
bcase (z_65 != z_26) (
ptr c fun a_66 =>
ldP h_52 (a_66.add 0) fun x_67 =>
C F_whole_Put #[.pointer x_67, .int .i64 1024, .agg #[.int .i64 0, .bool true]] h_52 (fun v_68 h_69 =>
∃ (r_70:Int),v_68 = .int .i64 r_70/\(
C F_text_need #[.int .i64 r_70] h_69 (fun v_71 h_72 =>
∃ m_15,m_15<n_16/\J_14 m_15 [.int .i64 z_26, .int .i64 x_36, .int .i64 z_53] h_72) (Kp))) (Kp)) <|
needs (0<=z_53/\z_53<(r_13n:Int)) <|
ptr r_13 fun a_73 =>
bindI (IntKind.i64.wrap (z_53-(1:Int))) fun z_74 =>
needs (0<=z_74/\z_74<(r_13n:Int)) <|
ptr r_13 fun a_75 =>
ldI h_52 ((a_73.add (z_53.toNat*7)).add 0) .i64 fun x_76 =>
ldI h_52 ((a_75.add (z_74.toNat*7)).add 0) .i64 fun x_77 =>
bindI (IntKind.i64.wrap (x_76-x_77)) fun z_78 =>
C F_text_coder_put #[.pointer c, .int .i64 1024, .int .i64 z_78] h_52 (fun v_79 h_80 =>
∃ m_38,m_38<n_39/\J_37 m_38 [.int .i64 z_53] h_80) (Kp)) (Kp))) (Kp)) (Kp)) <|
K (.tuple #[]) h_17))) (Kp)
def text_head (C:CallP) (t_1:Int) (t_2:Int) (t_3:Int) (t_4:Int) (t_5:Int) (t_6:Bool) (t_7:Int) (t_8:Int) (t_9:Option Addr) (t_9n:Nat) (t_9c:Nat) (h:Heap) (K:VK) (Kp:PK):Prop :=
newC h [.int .i64 t_1, .int .i64 t_2, .int .i64 t_3, .int .i64 t_4, .int .i64 t_5, .bool t_6, .int .i64 t_7, .int .i64 t_8, .slice t_9 t_9n t_9c] T_api_Text fun r_10 h_11 =>
C F_bits_NewWriter #[.int .i64 67108864] h_11 (fun v_12 h_13 =>
∃ (r_14:Option Addr),∃ (r_15:Int),v_12 = .tuple #[.pointer r_14, .int .i64 r_15]/\(
C F_text_need #[.int .i64 r_15] h_13 (fun v_16 h_17 =>
ldI h_17 ((⟨r_10,0,none⟩:Addr).add 0) .i64 fun x_18 =>
ldI h_17 ((⟨r_10,0,none⟩:Addr).add 1) .i64 fun x_19 =>
ldI h_17 ((⟨r_10,0,none⟩:Addr).add 2) .i64 fun x_20 =>
ldI h_17 ((⟨r_10,0,none⟩:Addr).add 3) .i64 fun x_21 =>
newC h_17 [.int .i64 x_18, .int .i64 x_19, .int .i64 x_20, .int .i64 x_21] T_int fun r_22 h_23 =>
∃ J_24:Nat->List Value->Heap->Prop,(∃ n_26,J_24 n_26 [.int .i64 0] h_23)/\∀ (n_26:Nat) (h_27:Heap) (u_28:Nat->Value) (x_29:Int),J_24 n_26 [.int .i64 x_29] h_27->(
bcase (decide (x_29<((4:Nat):Int))) (
needs (0<=x_29/\x_29<((4:Nat):Int)) <|
ldI h_27 ((⟨r_22,0,none⟩:Addr).add (x_29.toNat*1)) .i64 fun x_30 =>
bindI (IntKind.u64.wrap x_30) fun z_31 =>
C F_bits_Writer_Var #[.pointer r_14, .int .u64 z_31] h_27 (fun v_32 h_33 =>
∃ (r_34:Int),v_32 = .int .i64 r_34/\(
C F_text_need #[.int .i64 r_34] h_33 (fun v_35 h_36 =>
bindI (IntKind.i64.wrap (x_29+(1:Int))) fun z_37 =>
∃ m_25,m_25<n_26/\J_24 m_25 [.int .i64 z_37] h_36) (Kp))) (Kp)) <|
ldI h_27 ((⟨r_10,0,none⟩:Addr).add 4) .i64 fun x_38 =>
ldI h_27 ((⟨r_10,0,none⟩:Addr).add 6) .i64 fun x_39 =>
bindI (IntKind.i64.wrap ((16:Int)*x_39)) fun z_40 =>
bindI (IntKind.i64.wrap (x_38+z_40)) fun z_41 =>
ldI h_27 ((⟨r_10,0,none⟩:Addr).add 7) .i64 fun x_42 =>
bindI (IntKind.i64.wrap ((32:Int)*x_42)) fun z_43 =>
bindI (IntKind.i64.wrap (z_41+z_43)) fun z_44 =>
∃ K_45:List Value->Heap->Prop,(
ldB h_27 ((⟨r_10,0,none⟩:Addr).add 5) fun x_48 =>
bcase x_48 (
bindI (IntKind.i64.wrap (z_44+(8:Int))) fun z_49 =>
K_45 [.int .i64 z_49] h_27) <|
K_45 [.int .i64 z_44] h_27)/\∀ (h_46:Heap) (u_47:Nat->Value) (how_50:Int),K_45 [.int .i64 how_50] h_46->(
bindI (IntKind.u64.wrap how_50) fun z_51 =>
C F_bits_Writer_Put #[.pointer r_14, .int .u64 z_51, .int .i64 8] h_46 (fun v_52 h_53 =>
∃ (r_54:Int),v_52 = .int .i64 r_54/\(
C F_text_need #[.int .i64 r_54] h_53 (fun v_55 h_56 =>
ldS h_56 ((⟨r_10,0,none⟩:Addr).add 8) fun x_57 x_57n x_57c =>
bindI (IntKind.u64.wrap (x_57n:Int)) fun z_58 =>
C F_bits_Writer_Var #[.pointer r_14, .int .u64 z_58] h_56 (fun v_59 h_60 =>
∃ (r_61:Int),v_59 = .int .i64 r_61/\(
C F_text_need #[.int .i64 r_61] h_60 (fun v_62 h_63 =>
C F_bits_Writer_Bytes #[.pointer r_14] h_63 (fun v_64 h_65 =>
∃ (r_66:Option Addr) (r_66n:Nat) (r_66c:Nat),v_64 = .slice r_66 r_66n r_66c/\(
K (.slice r_66 r_66n r_66c) h_65)) (Kp)) (Kp))) (Kp)) (Kp))) (Kp)))) (Kp))) (Kp)
def text_Sorted_c1 (C:CallP) (a_1:Int) (a_2:Int) (a_3:Int) (a_4:Bool) (a_5:Int) (a_6:Int) (a_7:Option Addr) (a_7n:Nat) (a_7c:Nat) (b_8:Int) (b_9:Int) (b_10:Int) (b_11:Bool) (b_12:Int) (b_13:Int) (b_14:Option Addr) (b_14n:Nat) (b_14c:Nat) (cap0:Addr) (h:Heap) (K:VK) (Kp:PK):Prop :=
newC h [.int .i64 a_1, .int .i64 a_2, .int .i64 a_3, .bool a_4, .int .i64 a_5, .int .i64 a_6, .slice a_7 a_7n a_7c] T_api_Instance fun r_15 h_16 =>
newC h_16 [.int .i64 b_8, .int .i64 b_9, .int .i64 b_10, .bool b_11, .int .i64 b_12, .int .i64 b_13, .slice b_14 b_14n b_14c] T_api_Instance fun r_17 h_18 =>
ldI h_18 ((⟨r_15,0,none⟩:Addr).add 1) .i64 fun x_19 =>
ldI h_18 cap0 .i64 fun x_20 =>
needs (0<=x_20) <|
bindI (shrI .i64 x_19 x_20) fun z_21 =>
ldI h_18 ((⟨r_17,0,none⟩:Addr).add 1) .i64 fun x_22 =>
ldI h_18 cap0 .i64 fun x_23 =>
needs (0<=x_23) <|
bindI (shrI .i64 x_22 x_23) fun z_24 =>
ldI h_18 ((⟨r_15,0,none⟩:Addr).add 0) .i64 fun x_25 =>
ldI h_18 ((⟨r_17,0,none⟩:Addr).add 0) .i64 fun x_26 =>
ldI h_18 ((⟨r_15,0,none⟩:Addr).add 1) .i64 fun x_27 =>
ldI h_18 ((⟨r_17,0,none⟩:Addr).add 1) .i64 fun x_28 =>
C F_cmp_Compare_int #[.int .i64 z_21, .int .i64 z_24] h_18 (fun v_29 h_30 =>
∃ (r_31:Int),v_29 = .int .i64 r_31/\(
hext h_18 h_30/\(
C F_cmp_Compare_int #[.int .i64 x_25, .int .i64 x_26] h_30 (fun v_32 h_33 =>
∃ (r_34:Int),v_32 = .int .i64 r_34/\(
hext h_30 h_33/\(
C F_cmp_Compare_int #[.int .i64 x_27, .int .i64 x_28] h_33 (fun v_35 h_36 =>
∃ (r_37:Int),v_35 = .int .i64 r_37/\(
newC h_36 [.int .i64 r_31, .int .i64 r_34, .int .i64 r_37] T_int fun r_38 h_39 =>
C F_cmp_Or_int #[.slice (some ⟨r_38,0,none⟩) 3 3] h_39 (fun v_40 h_41 =>
∃ (r_42:Int),v_40 = .int .i64 r_42/\(
K (.int .i64 r_42) h_41)) (Kp))) (Kp)))) (Kp)))) (Kp)
def text_Decode_c1 (C:CallP) (cap0:Addr) (cap1:Addr) (cap2:Addr) (h:Heap) (K:VK) (Kp:PK):Prop :=
ldS h cap0 fun x_1 x_1n x_1c =>
C F_slices_ContainsFunc_api_Bitmap_api_Bitmap #[.slice x_1 x_1n x_1c, .func (.func F_text_Decode_c1_c1) #[] #[]] h (fun v_2 h_3 =>
∃ (r_4:Bool),v_2 = .bool r_4/\(
C F_text_wrong #[.bool r_4] h_3 (fun v_5 h_6 =>
ldS h_6 cap0 fun x_7 x_7n x_7c =>
C F_text_big #[.bool (decide ((x_7n:Int) > (4096:Int)))] h_6 (fun v_8 h_9 =>
ldS h_9 cap1 fun x_10 x_10n x_10c =>
C F_bits_NewReader #[.slice x_10 x_10n x_10c] h_9 (fun v_11 h_12 =>
∃ (r_13:Option Addr),v_11 = .pointer r_13/\(
∃ R_14:Nat->Prop,(
ldP h_12 cap2 fun x_15 =>
R_14 (cap2:Addr).block/\(
ldP h_12 cap2 fun x_16 =>
R_14 (cap2:Addr).block/\(
ldS h_12 cap0 fun x_17 x_17n x_17c =>
R_14 (cap0:Addr).block/\(
C F_text_opened #[.pointer r_13, .int .i64 (x_17n:Int)] h_12 (fun v_18 h_19 =>
∃ (r_20:Int) (r_21:Int) (r_22:Int) (r_23:Int) (r_24:Int) (r_25:Bool) (r_26:Int) (r_27:Int) (r_28:Option Addr) (r_28n:Nat) (r_28c:Nat),∃ (r_29:Int),v_18 = .tuple #[.agg #[.int .i64 r_20, .int .i64 r_21, .int .i64 r_22, .int .i64 r_23, .int .i64 r_24, .bool r_25, .int .i64 r_26, .int .i64 r_27, .slice r_28 r_28n r_28c], .int .i64 r_29]/\(
hkeep R_14 h_12 h_19/\(
ptr x_15 fun a_30 =>
stVs h_19 (a_30.add 1) 0 [.int .i64 r_20, .int .i64 r_21, .int .i64 r_22, .int .i64 r_23, .int .i64 r_24, .bool r_25, .int .i64 r_26, .int .i64 r_27, .slice r_28 r_28n r_28c] fun h_31 =>
ptr x_16 fun a_32 =>
stV h_31 (a_32.add 11) (.int .i64 r_29) fun h_33 =>
∃ R_34:Nat->Prop,(
ldP h_33 cap2 fun x_35 =>
R_34 (cap2:Addr).block/\(
ldS h_33 cap1 fun x_36 x_36n x_36c =>
R_34 (cap1:Addr).block/\(
ldS h_33 cap1 fun x_37 x_37n x_37c =>
R_34 (cap1:Addr).block/\(
C F_bits_Reader_Left #[.pointer r_13] h_33 (fun v_38 h_39 =>
∃ (r_40:Int),v_38 = .int .i64 r_40/\(
hkeep R_34 h_33 h_39/\(
bindI (IntKind.i64.wrap (r_40.tdiv (8:Int))) fun z_41 =>
bindI (IntKind.i64.wrap ((x_37n:Int)-z_41)) fun z_42 =>
needs (0<=z_42/\z_42<=((x_36n:Nat):Int)) <|
C F_arith_NewDecoder #[.slice (subA x_36 (x_36c) (z_42.toNat) 1) (x_36n-z_42.toNat) (x_36c-z_42.toNat), .int .i64 14337] h_39 (fun v_43 h_44 =>
∃ (r_45:Option Addr),∃ (r_46:Int),v_43 = .tuple #[.pointer r_45, .int .i64 r_46]/\(
hkeep R_34 h_39 h_44/\(
ptr x_35 fun a_47 =>
stV h_44 (a_47.add 0) (.pointer r_45) fun h_48 =>
C F_text_need #[.int .i64 r_46] h_48 (fun v_49 h_50 =>
ldP h_50 cap2 fun x_51 =>
C F_text_reader_all #[.pointer x_51] h_50 (fun v_52 h_53 =>
K (.tuple #[]) h_53) (Kp)) (Kp)))) (Kp)))) (Kp)))))))) (Kp))))))) (Kp)) (Kp)) (Kp))) (Kp)
def text_wrong (C:CallP) (bad:Bool) (h:Heap) (K:VK) (Kp:PK):Prop :=
bcase bad (
Kp [{ v := .iface T_text_fault (.agg #[.int .i64 140]),recovered:=false }] h) <|
K (.tuple #[]) h
def text_Decode_c1_c1 (C:CallP) (b_1:Int) (b_2:Int) (b_3:Option Addr) (b_3n:Nat) (b_3c:Nat) (h:Heap) (K:VK) (Kp:PK):Prop :=
newC h [.int .i64 b_1, .int .i64 b_2, .slice b_3 b_3n b_3c] T_api_Bitmap fun r_4 h_5 =>
ldI h_5 ((⟨r_4,0,none⟩:Addr).add 0) .i64 fun x_6 =>
ldI h_5 ((⟨r_4,0,none⟩:Addr).add 1) .i64 fun x_7 =>
ldS h_5 ((⟨r_4,0,none⟩:Addr).add 2) fun x_8 x_8n x_8c =>
C F_bitmap_Check #[.agg #[.int .i64 x_6, .int .i64 x_7, .slice x_8 x_8n x_8c]] h_5 (fun v_9 h_10 =>
∃ (r_11:Bool),v_9 = .bool r_11/\(
K (.bool (!r_11)) h_10)) (Kp)
def text_big (C:CallP) (bad:Bool) (h:Heap) (K:VK) (Kp:PK):Prop :=
bcase bad (
Kp [{ v := .iface T_text_fault (.agg #[.int .i64 120]),recovered:=false }] h) <|
K (.tuple #[]) h
def text_opened (C:CallP) (inv:Option Addr) (symbols:Int) (h:Heap) (K:VK) (Kp:PK):Prop :=
newC h [.int .i64 0, .int .i64 0, .int .i64 0, .int .i64 0, .int .i64 0, .bool false, .int .i64 0, .int .i64 0, .slice none 0 0] T_api_Text fun r_1 h_2 =>
C F_text_variable #[.pointer inv] h_2 (fun v_3 h_4 =>
∃ (r_5:Int),v_3 = .int .u64 r_5/\(
C F_text_wrong #[.bool (decide (r_5 > (1048576:Int)))] h_4 (fun v_6 h_7 =>
C F_text_variable #[.pointer inv] h_7 (fun v_8 h_9 =>
∃ (r_10:Int),v_8 = .int .u64 r_10/\(
C F_text_wrong #[.bool (decide (r_10 > (1048576:Int)))] h_9 (fun v_11 h_12 =>
C F_text_variable #[.pointer inv] h_12 (fun v_13 h_14 =>
∃ (r_15:Int),v_13 = .int .u64 r_15/\(
C F_text_wrong #[.bool (r_15 == (0:Int))] h_14 (fun v_16 h_17 =>
C F_text_variable #[.pointer inv] h_17 (fun v_18 h_19 =>
∃ (r_20:Int),v_18 = .int .u64 r_20/\(
C F_text_wrong #[.bool (r_20 == (0:Int))] h_19 (fun v_21 h_22 =>
∃ K_23:List Value->Heap->Prop,(
bcase (decide (r_15 > (1048576:Int))) (
C F_text_big #[.bool true] h_22 (fun v_26 h_27 =>
K_23 [] h_27) (Kp)) <|
bcase (decide (r_20 > (1048576:Int))) (
C F_text_big #[.bool true] h_22 (fun v_28 h_29 =>
K_23 [] h_29) (Kp)) <|
bindI (IntKind.u64.wrap (r_15*r_20)) fun z_30 =>
C F_text_big #[.bool (decide (z_30 > (1048576:Int)))] h_22 (fun v_31 h_32 =>
K_23 [] h_32) (Kp))/\∀ (h_24:Heap) (u_25:Nat->Value) ,K_23 [] h_24->(
C F_bits_Reader_Take #[.pointer inv, .int .i64 8] h_24 (fun v_33 h_34 =>
∃ (r_35:Int),∃ (r_36:Int),v_33 = .tuple #[.int .u64 r_35, .int .i64 r_36]/\(
∃ K_37:List Value->Heap->Prop,(
bcase (r_36 != (0:Int)) (
C F_text_wrong #[.bool true] h_34 (fun v_40 h_41 =>
K_37 [] h_41) (Kp)) <|
bindI (bitI .and .u64 r_35 (7:Int)) fun z_42 =>
bcase (decide (z_42 > (4:Int))) (
C F_text_wrong #[.bool true] h_34 (fun v_43 h_44 =>
K_37 [] h_44) (Kp)) <|
C F_text_wrong #[.bool (decide (r_35 > (127:Int)))] h_34 (fun v_45 h_46 =>
K_37 [] h_46) (Kp))/\∀ (h_38:Heap) (u_39:Nat->Value) ,K_37 [] h_38->(
C F_text_variable #[.pointer inv] h_38 (fun v_47 h_48 =>
∃ (r_49:Int),v_47 = .int .u64 r_49/\(
∃ K_50:List Value->Heap->Prop,(
bcase (decide (r_49 > (0:Int))) (
C F_text_wrong #[.bool (symbols == (0:Int))] h_48 (fun v_53 h_54 =>
K_50 [] h_54) (Kp)) <|
C F_text_wrong #[.bool false] h_48 (fun v_55 h_56 =>
K_50 [] h_56) (Kp))/\∀ (h_51:Heap) (u_52:Nat->Value) ,K_50 [] h_51->(
C F_text_big #[.bool (decide (r_49 > (16384:Int)))] h_51 (fun v_57 h_58 =>
bindI (IntKind.i64.wrap r_5) fun z_59 =>
bindI (IntKind.i64.wrap r_10) fun z_60 =>
bindI (IntKind.i64.wrap r_15) fun z_61 =>
bindI (IntKind.i64.wrap r_20) fun z_62 =>
bindI (bitI .and .u64 r_35 (7:Int)) fun z_63 =>
bindI (IntKind.i64.wrap z_63) fun z_64 =>
bindI (bitI .and .u64 r_35 (8:Int)) fun z_65 =>
bindI (shrI .u64 r_35 (4:Int)) fun z_66 =>
bindI (bitI .and .u64 z_66 (1:Int)) fun z_67 =>
bindI (IntKind.i64.wrap z_67) fun z_68 =>
bindI (shrI .u64 r_35 (5:Int)) fun z_69 =>
bindI (IntKind.i64.wrap z_69) fun z_70 =>
stVs h_58 (⟨r_1,0,none⟩:Addr) 0 [.int .i64 z_59, .int .i64 z_60, .int .i64 z_61, .int .i64 z_62, .int .i64 z_64, .bool (z_65 != (0:Int)), .int .i64 z_68, .int .i64 z_70, .slice none 0 0] fun h_71 =>
ldI h_71 ((⟨r_1,0,none⟩:Addr).add 0) .i64 fun x_72 =>
ldI h_71 ((⟨r_1,0,none⟩:Addr).add 1) .i64 fun x_73 =>
ldI h_71 ((⟨r_1,0,none⟩:Addr).add 2) .i64 fun x_74 =>
ldI h_71 ((⟨r_1,0,none⟩:Addr).add 3) .i64 fun x_75 =>
ldI h_71 ((⟨r_1,0,none⟩:Addr).add 4) .i64 fun x_76 =>
ldB h_71 ((⟨r_1,0,none⟩:Addr).add 5) fun x_77 =>
ldI h_71 ((⟨r_1,0,none⟩:Addr).add 6) .i64 fun x_78 =>
ldI h_71 ((⟨r_1,0,none⟩:Addr).add 7) .i64 fun x_79 =>
ldS h_71 ((⟨r_1,0,none⟩:Addr).add 8) fun x_80 x_80n x_80c =>
bindI (IntKind.i64.wrap r_49) fun z_81 =>
stVs h_71 (⟨r_1,0,none⟩:Addr) 0 [.int .i64 x_72, .int .i64 x_73, .int .i64 x_74, .int .i64 x_75, .int .i64 x_76, .bool x_77, .int .i64 x_78, .int .i64 x_79, .slice x_80 x_80n x_80c] fun h_82 =>
ldI h_82 ((⟨r_1,0,none⟩:Addr).add 0) .i64 fun r_83 =>
ldI h_82 ((⟨r_1,0,none⟩:Addr).add 1) .i64 fun r_84 =>
ldI h_82 ((⟨r_1,0,none⟩:Addr).add 2) .i64 fun r_85 =>
ldI h_82 ((⟨r_1,0,none⟩:Addr).add 3) .i64 fun r_86 =>
ldI h_82 ((⟨r_1,0,none⟩:Addr).add 4) .i64 fun r_87 =>
ldB h_82 ((⟨r_1,0,none⟩:Addr).add 5) fun r_88 =>
ldI h_82 ((⟨r_1,0,none⟩:Addr).add 6) .i64 fun r_89 =>
ldI h_82 ((⟨r_1,0,none⟩:Addr).add 7) .i64 fun r_90 =>
ldS h_82 ((⟨r_1,0,none⟩:Addr).add 8) fun r_91 r_91n r_91c =>
K (.tuple #[.agg #[.int .i64 r_83, .int .i64 r_84, .int .i64 r_85, .int .i64 r_86, .int .i64 r_87, .bool r_88, .int .i64 r_89, .int .i64 r_90, .slice r_91 r_91n r_91c], .int .i64 z_81]) h_82) (Kp)))) (Kp)))) (Kp))) (Kp))) (Kp)) (Kp))) (Kp)) (Kp))) (Kp)) (Kp))) (Kp)
def text_reader_all (C:CallP) (r:Option Addr) (h:Heap) (K:VK) (Kp:PK):Prop :=
∃ J_1:Nat->List Value->Heap->Prop,(∃ n_3,J_1 n_3 [.int .i64 0, .int .i64 0, .bool false] h)/\∀ (n_3:Nat) (h_4:Heap) (u_5:Nat->Value) (strip_6:Int) (first_7:Int) (begun_8:Bool),J_1 n_3 [.int .i64 strip_6, .int .i64 first_7, .bool begun_8] h_4->(
ptr r fun a_9 =>
ldI h_4 (a_9.add 11) .i64 fun x_10 =>
bcase (decide (x_10 > (0:Int))) (
C F_text_reader_number #[.pointer r, .int .i64 0] h_4 (fun v_11 h_12 =>
∃ (r_13:Int) (r_14:Bool),v_11 = .agg #[.int .i64 r_13, .bool r_14]/\(
newC h_12 [.int .i64 0, .bool false] T_api_Whole fun r_15 h_16 =>
stV h_16 ((⟨r_15,0,none⟩:Addr).add 0) (.int .i64 r_13) fun h_17 =>
stV h_17 ((⟨r_15,0,none⟩:Addr).add 1) (.bool r_14) fun h_18 =>
∃ K_19:List Value->Heap->Prop,(
ldB h_18 ((⟨r_15,0,none⟩:Addr).add 1) fun x_22 =>
bcase x_22 (
C F_text_wrong #[.bool true] h_18 (fun v_23 h_24 =>
K_19 [] h_24) (Kp)) <|
bcase begun_8 (
ldI h_18 ((⟨r_15,0,none⟩:Addr).add 0) .i64 fun x_25 =>
C F_text_wrong #[.bool (decide (x_25<(1:Int)))] h_18 (fun v_26 h_27 =>
K_19 [] h_27) (Kp)) <|
C F_text_wrong #[.bool false] h_18 (fun v_28 h_29 =>
K_19 [] h_29) (Kp))/\∀ (h_20:Heap) (u_21:Nat->Value) ,K_19 [] h_20->(
ldI h_20 ((⟨r_15,0,none⟩:Addr).add 0) .i64 fun x_30 =>
bindI (IntKind.i64.wrap (strip_6+x_30)) fun z_31 =>
C F_text_reader_number #[.pointer r, .int .i64 512] h_20 (fun v_32 h_33 =>
∃ (r_34:Int) (r_35:Bool),v_32 = .agg #[.int .i64 r_34, .bool r_35]/\(
stV h_33 ((⟨r_15,0,none⟩:Addr).add 0) (.int .i64 r_34) fun h_36 =>
stV h_36 ((⟨r_15,0,none⟩:Addr).add 1) (.bool r_35) fun h_37 =>
ldB h_37 ((⟨r_15,0,none⟩:Addr).add 1) fun x_38 =>
C F_text_wrong #[.bool x_38] h_37 (fun v_39 h_40 =>
ldI h_40 ((⟨r_15,0,none⟩:Addr).add 0) .i64 fun x_41 =>
bindI (IntKind.i64.wrap (first_7+x_41)) fun z_42 =>
∃ J_43:Nat->List Value->Heap->Prop,(∃ n_45,J_43 n_45 [.int .i64 z_42] h_40)/\∀ (n_45:Nat) (h_46:Heap) (u_47:Nat->Value) (x_48:Int),J_43 n_45 [.int .i64 x_48] h_46->(
C F_text_reader_one #[.pointer r, .int .i64 z_31, .int .i64 x_48] h_46 (fun v_49 h_50 =>
C F_text_reader_number #[.pointer r, .int .i64 1024] h_50 (fun v_51 h_52 =>
∃ (r_53:Int) (r_54:Bool),v_51 = .agg #[.int .i64 r_53, .bool r_54]/\(
newC h_52 [.int .i64 0, .bool false] T_api_Whole fun r_55 h_56 =>
stV h_56 ((⟨r_55,0,none⟩:Addr).add 0) (.int .i64 r_53) fun h_57 =>
stV h_57 ((⟨r_55,0,none⟩:Addr).add 1) (.bool r_54) fun h_58 =>
ldB h_58 ((⟨r_55,0,none⟩:Addr).add 1) fun x_59 =>
bcase x_59 (
∃ m_2,m_2<n_3/\J_1 m_2 [.int .i64 z_31, .int .i64 z_42, .bool true] h_58) <|
ptr r fun a_60 =>
ldI h_58 (a_60.add 11) .i64 fun x_61 =>
bcase (x_61 == (0:Int)) (
C F_text_wrong #[.bool true] h_58 (fun v_62 h_63 =>
ldI h_63 ((⟨r_55,0,none⟩:Addr).add 0) .i64 fun x_64 =>
bindI (IntKind.i64.wrap (x_48+x_64)) fun z_65 =>
∃ m_44,m_44<n_45/\J_43 m_44 [.int .i64 z_65] h_63) (Kp)) <|
ldI h_58 ((⟨r_55,0,none⟩:Addr).add 0) .i64 fun x_66 =>
C F_text_wrong #[.bool (decide (x_66<(0:Int)))] h_58 (fun v_67 h_68 =>
ldI h_68 ((⟨r_55,0,none⟩:Addr).add 0) .i64 fun x_69 =>
bindI (IntKind.i64.wrap (x_48+x_69)) fun z_70 =>
∃ m_44,m_44<n_45/\J_43 m_44 [.int .i64 z_70] h_68) (Kp))) (Kp)) (Kp))) (Kp))) (Kp)))) (Kp)) <|
K (.tuple #[]) h_4)
def text_may (C:CallP) (t_1:Int) (t_2:Int) (t_3:Int) (t_4:Int) (t_5:Int) (t_6:Bool) (t_7:Int) (t_8:Int) (t_9:Option Addr) (t_9n:Nat) (t_9c:Nat) (symbols:Option Addr) (symbolsn:Nat) (symbolsc:Nat) (h:Heap) (K:VK) (Kp:PK):Prop :=
newC h [.int .i64 t_1, .int .i64 t_2, .int .i64 t_3, .int .i64 t_4, .int .i64 t_5, .bool t_6, .int .i64 t_7, .int .i64 t_8, .slice t_9 t_9n t_9c] T_api_Text fun r_10 h_11 =>
newC h_11 [.slice symbols symbolsn symbolsc] T_s_api_Bitmap fun r_12 h_13 =>
ldS h_13 (⟨r_12,0,none⟩:Addr) fun x_14 x_14n x_14c =>
C F_slices_ContainsFunc_api_Bitmap_api_Bitmap #[.slice x_14 x_14n x_14c, .func (.func F_text_may_c1) #[] #[]] h_13 (fun v_15 h_16 =>
∃ (r_17:Bool),v_15 = .bool r_17/\(
bcase r_17 (
K (.bool false) h_16) <|
ldI h_16 ((⟨r_10,0,none⟩:Addr).add 2) .i64 fun x_18 =>
ldI h_16 ((⟨r_10,0,none⟩:Addr).add 3) .i64 fun x_19 =>
C F_bitmap_New #[.int .i64 x_18, .int .i64 x_19] h_16 (fun v_20 h_21 =>
∃ (r_22:Option Addr),∃ (r_23:Int),v_20 = .tuple #[.pointer r_22, .int .i64 r_23]/\(
bcase (r_23 != (0:Int)) (
K (.bool false) h_21) <|
ldI h_21 ((⟨r_10,0,none⟩:Addr).add 0) .i64 fun x_24 =>
C F_text_within #[.int .i64 x_24, .int .i64 0] h_21 (fun v_25 h_26 =>
∃ (r_27:Bool),v_25 = .bool r_27/\(
bcase (!r_27) (
K (.bool false) h_26) <|
ldI h_26 ((⟨r_10,0,none⟩:Addr).add 1) .i64 fun x_28 =>
C F_text_within #[.int .i64 x_28, .int .i64 0] h_26 (fun v_29 h_30 =>
∃ (r_31:Bool),v_29 = .bool r_31/\(
bcase (!r_31) (
K (.bool false) h_30) <|
ldI h_30 ((⟨r_10,0,none⟩:Addr).add 4) .i64 fun x_32 =>
bcase (decide (x_32<(0:Int))) (
K (.bool false) h_30) <|
ldI h_30 ((⟨r_10,0,none⟩:Addr).add 4) .i64 fun x_33 =>
bcase (decide (x_33 > (4:Int))) (
K (.bool false) h_30) <|
ldI h_30 ((⟨r_10,0,none⟩:Addr).add 6) .i64 fun x_34 =>
bcase (x_34 != (0:Int)) (
ldI h_30 ((⟨r_10,0,none⟩:Addr).add 6) .i64 fun x_35 =>
bcase (x_35 != (1:Int)) (
K (.bool false) h_30) <|
ldI h_30 ((⟨r_10,0,none⟩:Addr).add 7) .i64 fun x_36 =>
bcase (decide (x_36<(0:Int))) (
K (.bool false) h_30) <|
ldI h_30 ((⟨r_10,0,none⟩:Addr).add 7) .i64 fun x_37 =>
bcase (decide (x_37 > (3:Int))) (
K (.bool false) h_30) <|
ldS h_30 ((⟨r_10,0,none⟩:Addr).add 8) fun x_38 x_38n x_38c =>
C F_slices_ContainsFunc_api_Instance_api_Instance #[.slice x_38 x_38n x_38c, .func (.func F_text_may_c2) #[] #[.pointer (some ⟨r_10,0,none⟩), .pointer (some ⟨r_12,0,none⟩)]] h_30 (fun v_39 h_40 =>
∃ (r_41:Bool),v_39 = .bool r_41/\(
K (.bool (!r_41)) h_40)) (Kp)) <|
ldI h_30 ((⟨r_10,0,none⟩:Addr).add 7) .i64 fun x_42 =>
bcase (decide (x_42<(0:Int))) (
K (.bool false) h_30) <|
ldI h_30 ((⟨r_10,0,none⟩:Addr).add 7) .i64 fun x_43 =>
bcase (decide (x_43 > (3:Int))) (
K (.bool false) h_30) <|
ldS h_30 ((⟨r_10,0,none⟩:Addr).add 8) fun x_44 x_44n x_44c =>
C F_slices_ContainsFunc_api_Instance_api_Instance #[.slice x_44 x_44n x_44c, .func (.func F_text_may_c2) #[] #[.pointer (some ⟨r_10,0,none⟩), .pointer (some ⟨r_12,0,none⟩)]] h_30 (fun v_45 h_46 =>
∃ (r_47:Bool),v_45 = .bool r_47/\(
K (.bool (!r_47)) h_46)) (Kp))) (Kp))) (Kp))) (Kp))) (Kp)
def text_caught_c1 (C:CallP) (cap0:Addr) (u:FrameMode) (h:Heap) (Kd:FrameMode->Heap->Prop) (Kdp:FrameMode->PK):Prop :=
recD u (fun u_1 =>
Kd u_1 h) (fun t_2 x_3 u_4 =>
bcase (Nat.beq t_2 T_text_fault) (
∃ (r_5:Int),x_3 = .agg #[.int .i64 r_5]/\(
newC h [.int .i64 0] T_text_fault fun r_6 h_7 =>
stV h_7 ((⟨r_6,0,none⟩:Addr).add 0) (.int .i64 r_5) fun h_8 =>
ldI h_8 ((⟨r_6,0,none⟩:Addr).add 0) .i64 fun x_9 =>
stV h_8 cap0 (.int .i64 x_9) fun h_10 =>
Kd u_4 h_10)) <|
newC h [.int .i64 0] T_text_fault fun r_11 h_12 =>
stV h_12 ((⟨r_11,0,none⟩:Addr).add 0) (.int .i64 0) fun h_13 =>
Kdp u_4 [{ v := .iface t_2 (x_3),recovered:=false }] h_13)
def text_coder_put (C:CallP) (c:Option Addr) (base:Int) (n:Int) (h:Heap) (K:VK) (Kp:PK):Prop :=
ptr c fun a_1 =>
ldP h (a_1.add 0) fun x_2 =>
C F_whole_Put #[.pointer x_2, .int .i64 base, .agg #[.int .i64 n, .bool false]] h (fun v_3 h_4 =>
∃ (r_5:Int),v_3 = .int .i64 r_5/\(
C F_text_need #[.int .i64 r_5] h_4 (fun v_6 h_7 =>
K (.tuple #[]) h_7) (Kp))) (Kp)
def text_coder_one (C:CallP) (c:Option Addr) (i_1:Int) (i_2:Int) (i_3:Int) (i_4:Bool) (i_5:Int) (i_6:Int) (i_7:Option Addr) (i_7n:Nat) (i_7c:Nat) (h:Heap) (K:VK) (Kp:PK):Prop :=
newC h [.int .i64 i_1, .int .i64 i_2, .int .i64 i_3, .bool i_4, .int .i64 i_5, .int .i64 i_6, .slice i_7 i_7n i_7c] T_api_Instance fun r_8 h_9 =>
∃ K_10:List Value->Heap->Prop,(
ptr c fun a_13 =>
ldI h_9 ((a_13.add 1).add 7) .i64 fun x_14 =>
bcase (decide (x_14 > (0:Int))) (
ptr c fun a_15 =>
ptr c fun a_16 =>
ldI h_9 ((⟨r_8,0,none⟩:Addr).add 1) .i64 fun x_17 =>
ldI h_9 ((⟨r_8,0,none⟩:Addr).add 1) .i64 fun x_18 =>
ldI h_9 ((a_15.add 1).add 7) .i64 fun x_19 =>
needs (0<=x_19) <|
bindI (shrI .i64 x_18 x_19) fun z_20 =>
ldI h_9 ((a_16.add 1).add 7) .i64 fun x_21 =>
needs (0<=x_21) <|
bindI (shlI .i64 z_20 x_21) fun z_22 =>
bindI (IntKind.i64.wrap (x_17-z_22)) fun z_23 =>
C F_text_coder_put #[.pointer c, .int .i64 1536, .int .i64 z_23] h_9 (fun v_24 h_25 =>
K_10 [] h_25) (Kp)) <|
K_10 [] h_9)/\∀ (h_11:Heap) (u_12:Nat->Value) ,K_10 [] h_11->(
ptr c fun a_26 =>
ptr c fun a_27 =>
ldP h_11 (a_26.add 0) fun x_28 =>
ldS h_11 (a_27.add 10) fun x_29 x_29n x_29c =>
ldI h_11 ((⟨r_8,0,none⟩:Addr).add 2) .i64 fun x_30 =>
C F_text_width #[.int .i64 (x_29n:Int)] h_11 (fun v_31 h_32 =>
∃ (r_33:Int),v_31 = .int .i64 r_33/\(
hext h_11 h_32/\(
C F_whole_PutID #[.pointer x_28, .int .i64 2048, .int .i64 r_33, .int .i64 x_30] h_32 (fun v_34 h_35 =>
∃ (r_36:Int),v_34 = .int .i64 r_36/\(
C F_text_need #[.int .i64 r_36] h_35 (fun v_37 h_38 =>
ptr c fun a_39 =>
ldB h_38 ((a_39.add 1).add 5) fun x_40 =>
bcase (!x_40) (
K (.tuple #[]) h_38) <|
ldB h_38 ((⟨r_8,0,none⟩:Addr).add 3) fun x_41 =>
bcase (!x_41) (
ptr c fun a_42 =>
ldP h_38 (a_42.add 0) fun x_43 =>
C F_arith_Coder_Put #[.pointer x_43, .int .i64 6144, .int .i64 0] h_38 (fun v_44 h_45 =>
∃ (r_46:Int),v_44 = .int .i64 r_46/\(
C F_text_need #[.int .i64 r_46] h_45 (fun v_47 h_48 =>
K (.tuple #[]) h_48) (Kp))) (Kp)) <|
ptr c fun a_49 =>
ldP h_38 (a_49.add 0) fun x_50 =>
C F_arith_Coder_Put #[.pointer x_50, .int .i64 6144, .int .i64 1] h_38 (fun v_51 h_52 =>
∃ (r_53:Int),v_51 = .int .i64 r_53/\(
C F_text_need #[.int .i64 r_53] h_52 (fun v_54 h_55 =>
ptr c fun a_56 =>
ptr c fun a_57 =>
ldP h_55 (a_56.add 0) fun x_58 =>
ldI h_55 (((⟨r_8,0,none⟩:Addr).add 4).add 0) .i64 fun x_59 =>
ldI h_55 (((⟨r_8,0,none⟩:Addr).add 4).add 1) .i64 fun x_60 =>
ldS h_55 (((⟨r_8,0,none⟩:Addr).add 4).add 2) fun x_61 x_61n x_61c =>
ldS h_55 (a_57.add 10) fun x_62 x_62n x_62c =>
ldI h_55 ((⟨r_8,0,none⟩:Addr).add 2) .i64 fun x_63 =>
needs (0<=x_63/\x_63<(x_62n:Int)) <|
ptr x_62 fun a_64 =>
ldI h_55 ((a_64.add (x_63.toNat*3)).add 0) .i64 fun x_65 =>
ldI h_55 ((a_64.add (x_63.toNat*3)).add 1) .i64 fun x_66 =>
ldS h_55 ((a_64.add (x_63.toNat*3)).add 2) fun x_67 x_67n x_67c =>
C F_refine_Put #[.pointer x_58, .int .i64 6145, .agg #[.int .i64 x_59, .int .i64 x_60, .slice x_61 x_61n x_61c], .agg #[.int .i64 x_65, .int .i64 x_66, .slice x_67 x_67n x_67c], .int .i64 0, .int .i64 0] h_55 (fun v_68 h_69 =>
∃ (r_70:Int),v_68 = .int .i64 r_70/\(
C F_text_need #[.int .i64 r_70] h_69 (fun v_71 h_72 =>
K (.tuple #[]) h_72) (Kp))) (Kp)) (Kp))) (Kp)) (Kp))) (Kp)))) (Kp))
def text_variable (C:CallP) (inv:Option Addr) (h:Heap) (K:VK) (Kp:PK):Prop :=
C F_bits_Reader_Var #[.pointer inv] h (fun v_1 h_2 =>
∃ (r_3:Int),∃ (r_4:Int),v_1 = .tuple #[.int .u64 r_3, .int .i64 r_4]/\(
C F_text_wrong #[.bool (r_4 != (0:Int))] h_2 (fun v_5 h_6 =>
K (.int .u64 r_3) h_6) (Kp))) (Kp)
def text_reader_number (C:CallP) (r:Option Addr) (base:Int) (h:Heap) (K:VK) (Kp:PK):Prop :=
newC h [.int .i64 0, .bool false] T_api_Whole fun r_1 h_2 =>
ptr r fun a_3 =>
ldP h_2 (a_3.add 0) fun x_4 =>
C F_whole_Get #[.pointer x_4, .int .i64 base] h_2 (fun v_5 h_6 =>
∃ (r_7:Int) (r_8:Bool),∃ (r_9:Int),v_5 = .tuple #[.agg #[.int .i64 r_7, .bool r_8], .int .i64 r_9]/\(
newC h_6 [.int .i64 0, .bool false] T_api_Whole fun r_10 h_11 =>
stV h_11 ((⟨r_10,0,none⟩:Addr).add 0) (.int .i64 r_7) fun h_12 =>
stV h_12 ((⟨r_10,0,none⟩:Addr).add 1) (.bool r_8) fun h_13 =>
C F_text_wrong #[.bool (r_9 == (50:Int))] h_13 (fun v_14 h_15 =>
C F_text_need #[.int .i64 r_9] h_15 (fun v_16 h_17 =>
ldI h_17 ((⟨r_10,0,none⟩:Addr).add 0) .i64 fun x_18 =>
ldB h_17 ((⟨r_10,0,none⟩:Addr).add 1) fun x_19 =>
stV h_17 ((⟨r_1,0,none⟩:Addr).add 0) (.int .i64 x_18) fun h_20 =>
stV h_20 ((⟨r_1,0,none⟩:Addr).add 1) (.bool x_19) fun h_21 =>
ldI h_21 ((⟨r_1,0,none⟩:Addr).add 0) .i64 fun r_22 =>
ldB h_21 ((⟨r_1,0,none⟩:Addr).add 1) fun r_23 =>
K (.agg #[.int .i64 r_22, .bool r_23]) h_21) (Kp)) (Kp))) (Kp)
def text_reader_one (C:CallP) (r:Option Addr) (strip:Int) (x:Int) (h:Heap) (K:VK) (Kp:PK):Prop :=
C F_text_within #[.int .i64 x, .int .i64 (-1048576)] h (fun v_1 h_2 =>
∃ (r_3:Bool),v_1 = .bool r_3/\(
C F_text_wrong #[.bool (!r_3)] h_2 (fun v_4 h_5 =>
ptr r fun a_6 =>
ldI h_5 ((a_6.add 1).add 7) .i64 fun x_7 =>
needs (0<=x_7) <|
bindI (shlI .i64 strip x_7) fun z_8 =>
newC h_5 [.int .i64 0, .int .i64 0, .int .i64 0, .bool false, .int .i64 0, .int .i64 0, .slice none 0 0] T_api_Instance fun r_9 h_10 =>
stV h_10 ((⟨r_9,0,none⟩:Addr).add 0) (.int .i64 x) fun h_11 =>
stV h_11 ((⟨r_9,0,none⟩:Addr).add 1) (.int .i64 z_8) fun h_12 =>
stV h_12 ((⟨r_9,0,none⟩:Addr).add 2) (.int .i64 0) fun h_13 =>
stV h_13 ((⟨r_9,0,none⟩:Addr).add 3) (.bool false) fun h_14 =>
stV h_14 ((⟨r_9,0,none⟩:Addr).add 4) (.int .i64 0) fun h_15 =>
stV h_15 ((⟨r_9,0,none⟩:Addr).add 5) (.int .i64 0) fun h_16 =>
stV h_16 ((⟨r_9,0,none⟩:Addr).add 6) (.slice none 0 0) fun h_17 =>
∃ K_18:List Value->Heap->Prop,(
ptr r fun a_21 =>
ldI h_17 ((a_21.add 1).add 7) .i64 fun x_22 =>
bcase (decide (x_22 > (0:Int))) (
C F_text_reader_number #[.pointer r, .int .i64 1536] h_17 (fun v_23 h_24 =>
∃ (r_25:Int) (r_26:Bool),v_23 = .agg #[.int .i64 r_25, .bool r_26]/\(
newC h_24 [.int .i64 0, .bool false] T_api_Whole fun r_27 h_28 =>
stV h_28 ((⟨r_27,0,none⟩:Addr).add 0) (.int .i64 r_25) fun h_29 =>
stV h_29 ((⟨r_27,0,none⟩:Addr).add 1) (.bool r_26) fun h_30 =>
ldB h_30 ((⟨r_27,0,none⟩:Addr).add 1) fun x_31 =>
bcase x_31 (
C F_text_wrong #[.bool true] h_30 (fun v_32 h_33 =>
ldI h_33 ((⟨r_9,0,none⟩:Addr).add 1) .i64 fun x_34 =>
ldI h_33 ((⟨r_27,0,none⟩:Addr).add 0) .i64 fun x_35 =>
bindI (IntKind.i64.wrap (x_34+x_35)) fun z_36 =>
stV h_33 ((⟨r_9,0,none⟩:Addr).add 1) (.int .i64 z_36) fun h_37 =>
K_18 [] h_37) (Kp)) <|
ldI h_30 ((⟨r_27,0,none⟩:Addr).add 0) .i64 fun x_38 =>
bcase (decide (x_38<(0:Int))) (
C F_text_wrong #[.bool true] h_30 (fun v_39 h_40 =>
ldI h_40 ((⟨r_9,0,none⟩:Addr).add 1) .i64 fun x_41 =>
ldI h_40 ((⟨r_27,0,none⟩:Addr).add 0) .i64 fun x_42 =>
bindI (IntKind.i64.wrap (x_41+x_42)) fun z_43 =>
stV h_40 ((⟨r_9,0,none⟩:Addr).add 1) (.int .i64 z_43) fun h_44 =>
K_18 [] h_44) (Kp)) <|
ptr r fun a_45 =>
ldI h_30 ((⟨r_27,0,none⟩:Addr).add 0) .i64 fun x_46 =>
ldI h_30 ((a_45.add 1).add 7) .i64 fun x_47 =>
needs (0<=x_47) <|
bindI (shlI .i64 (1:Int) x_47) fun z_48 =>
C F_text_wrong #[.bool (decide (x_46≥z_48))] h_30 (fun v_49 h_50 =>
ldI h_50 ((⟨r_9,0,none⟩:Addr).add 1) .i64 fun x_51 =>
ldI h_50 ((⟨r_27,0,none⟩:Addr).add 0) .i64 fun x_52 =>
bindI (IntKind.i64.wrap (x_51+x_52)) fun z_53 =>
stV h_50 ((⟨r_9,0,none⟩:Addr).add 1) (.int .i64 z_53) fun h_54 =>
K_18 [] h_54) (Kp))) (Kp)) <|
K_18 [] h_17)/\∀ (h_19:Heap) (u_20:Nat->Value) ,K_18 [] h_19->(
ldI h_19 ((⟨r_9,0,none⟩:Addr).add 1) .i64 fun x_55 =>
C F_text_within #[.int .i64 x_55, .int .i64 (-1048576)] h_19 (fun v_56 h_57 =>
∃ (r_58:Bool),v_56 = .bool r_58/\(
C F_text_wrong #[.bool (!r_58)] h_57 (fun v_59 h_60 =>
ptr r fun a_61 =>
ptr r fun a_62 =>
ldP h_60 (a_61.add 0) fun x_63 =>
ldS h_60 (a_62.add 10) fun x_64 x_64n x_64c =>
C F_text_width #[.int .i64 (x_64n:Int)] h_60 (fun v_65 h_66 =>
∃ (r_67:Int),v_65 = .int .i64 r_67/\(
hext h_60 h_66/\(
C F_whole_GetID #[.pointer x_63, .int .i64 2048, .int .i64 r_67] h_66 (fun v_68 h_69 =>
∃ (r_70:Int),∃ (r_71:Int),v_68 = .tuple #[.int .i64 r_70, .int .i64 r_71]/\(
stV h_69 ((⟨r_9,0,none⟩:Addr).add 2) (.int .i64 r_70) fun h_72 =>
C F_text_need #[.int .i64 r_71] h_72 (fun v_73 h_74 =>
ptr r fun a_75 =>
ldI h_74 ((⟨r_9,0,none⟩:Addr).add 2) .i64 fun x_76 =>
ldS h_74 (a_75.add 10) fun x_77 x_77n x_77c =>
C F_text_wrong #[.bool (decide (x_76≥(x_77n:Int)))] h_74 (fun v_78 h_79 =>
∃ K_80:List Value->Heap->Prop,(
ptr r fun a_83 =>
ldB h_79 ((a_83.add 1).add 5) fun x_84 =>
bcase x_84 (
ptr r fun a_85 =>
ldP h_79 (a_85.add 0) fun x_86 =>
C F_arith_Decoder_Get #[.pointer x_86, .int .i64 6144] h_79 (fun v_87 h_88 =>
∃ (r_89:Int),∃ (r_90:Int),v_87 = .tuple #[.int .i64 r_89, .int .i64 r_90]/\(
C F_text_need #[.int .i64 r_90] h_88 (fun v_91 h_92 =>
stV h_92 ((⟨r_9,0,none⟩:Addr).add 3) (.bool (r_89 == (1:Int))) fun h_93 =>
K_80 [] h_93) (Kp))) (Kp)) <|
K_80 [] h_79)/\∀ (h_81:Heap) (u_82:Nat->Value) ,K_80 [] h_81->(
∃ K_94:List Value->Heap->Prop,(
ptr r fun a_97 =>
ldS h_81 (a_97.add 10) fun x_98 x_98n x_98c =>
ldI h_81 ((⟨r_9,0,none⟩:Addr).add 2) .i64 fun x_99 =>
needs (0<=x_99/\x_99<(x_98n:Int)) <|
ptr x_98 fun a_100 =>
ldI h_81 ((a_100.add (x_99.toNat*3)).add 0) .i64 fun x_101 =>
ldI h_81 ((a_100.add (x_99.toNat*3)).add 1) .i64 fun x_102 =>
ldS h_81 ((a_100.add (x_99.toNat*3)).add 2) fun x_103 x_103n x_103c =>
newC h_81 [.int .i64 0, .int .i64 0, .slice none 0 0] T_api_Bitmap fun r_104 h_105 =>
stV h_105 ((⟨r_104,0,none⟩:Addr).add 0) (.int .i64 x_101) fun h_106 =>
stV h_106 ((⟨r_104,0,none⟩:Addr).add 1) (.int .i64 x_102) fun h_107 =>
stV h_107 ((⟨r_104,0,none⟩:Addr).add 2) (.slice x_103 x_103n x_103c) fun h_108 =>
ldB h_108 ((⟨r_9,0,none⟩:Addr).add 3) fun x_109 =>
bcase x_109 (
ptr r fun a_110 =>
ldI h_108 (a_110.add 12) .i64 fun x_111 =>
ldI h_108 ((⟨r_104,0,none⟩:Addr).add 0) .i64 fun x_112 =>
ldI h_108 ((⟨r_104,0,none⟩:Addr).add 1) .i64 fun x_113 =>
bindI (IntKind.i64.wrap (x_112*x_113)) fun z_114 =>
bindI (IntKind.i64.wrap (x_111+z_114)) fun z_115 =>
ptr r fun a_116 =>
stV h_108 (a_116.add 12) (.int .i64 z_115) fun h_117 =>
ptr r fun a_118 =>
ldI h_117 (a_118.add 12) .i64 fun x_119 =>
C F_text_big #[.bool (decide (x_119 > (1048576:Int)))] h_117 (fun v_120 h_121 =>
ptr r fun a_122 =>
ldP h_121 (a_122.add 0) fun x_123 =>
ldI h_121 ((⟨r_104,0,none⟩:Addr).add 0) .i64 fun x_124 =>
ldI h_121 ((⟨r_104,0,none⟩:Addr).add 1) .i64 fun x_125 =>
ldI h_121 ((⟨r_104,0,none⟩:Addr).add 0) .i64 fun x_126 =>
ldI h_121 ((⟨r_104,0,none⟩:Addr).add 1) .i64 fun x_127 =>
ldS h_121 ((⟨r_104,0,none⟩:Addr).add 2) fun x_128 x_128n x_128c =>
C F_refine_Get #[.pointer x_123, .int .i64 6145, .int .i64 x_124, .int .i64 x_125, .agg #[.int .i64 x_126, .int .i64 x_127, .slice x_128 x_128n x_128c], .int .i64 0, .int .i64 0] h_121 (fun v_129 h_130 =>
∃ (r_131:Int) (r_132:Int) (r_133:Option Addr) (r_133n:Nat) (r_133c:Nat),∃ (r_134:Int),v_129 = .tuple #[.agg #[.int .i64 r_131, .int .i64 r_132, .slice r_133 r_133n r_133c], .int .i64 r_134]/\(
stV h_130 (((⟨r_9,0,none⟩:Addr).add 4).add 0) (.int .i64 r_131) fun h_135 =>
stV h_135 (((⟨r_9,0,none⟩:Addr).add 4).add 1) (.int .i64 r_132) fun h_136 =>
stV h_136 (((⟨r_9,0,none⟩:Addr).add 4).add 2) (.slice r_133 r_133n r_133c) fun h_137 =>
C F_text_need #[.int .i64 r_134] h_137 (fun v_138 h_139 =>
ldI h_139 (((⟨r_9,0,none⟩:Addr).add 4).add 0) .i64 fun x_140 =>
ldI h_139 (((⟨r_9,0,none⟩:Addr).add 4).add 1) .i64 fun x_141 =>
ldS h_139 (((⟨r_9,0,none⟩:Addr).add 4).add 2) fun x_142 x_142n x_142c =>
ldI h_139 ((⟨r_104,0,none⟩:Addr).add 0) .i64 fun x_143 =>
ldI h_139 ((⟨r_104,0,none⟩:Addr).add 1) .i64 fun x_144 =>
ldS h_139 ((⟨r_104,0,none⟩:Addr).add 2) fun x_145 x_145n x_145c =>
C F_bitmap_Equal #[.agg #[.int .i64 x_140, .int .i64 x_141, .slice x_142 x_142n x_142c], .agg #[.int .i64 x_143, .int .i64 x_144, .slice x_145 x_145n x_145c]] h_139 (fun v_146 h_147 =>
∃ (r_148:Bool),v_146 = .bool r_148/\(
C F_text_wrong #[.bool r_148] h_147 (fun v_149 h_150 =>
K_94 [] h_150) (Kp))) (Kp)) (Kp))) (Kp)) (Kp)) <|
K_94 [] h_108)/\∀ (h_95:Heap) (u_96:Nat->Value) ,K_94 [] h_95->(
ptr r fun a_151 =>
ldS h_95 ((a_151.add 1).add 8) fun x_152 x_152n x_152c =>
ldI h_95 ((⟨r_9,0,none⟩:Addr).add 0) .i64 fun x_153 =>
ldI h_95 ((⟨r_9,0,none⟩:Addr).add 1) .i64 fun x_154 =>
ldI h_95 ((⟨r_9,0,none⟩:Addr).add 2) .i64 fun x_155 =>
ldB h_95 ((⟨r_9,0,none⟩:Addr).add 3) fun x_156 =>
ldI h_95 ((⟨r_9,0,none⟩:Addr).add 4) .i64 fun x_157 =>
ldI h_95 ((⟨r_9,0,none⟩:Addr).add 5) .i64 fun x_158 =>
ldS h_95 ((⟨r_9,0,none⟩:Addr).add 6) fun x_159 x_159n x_159c =>
newC h_95 [.int .i64 x_153, .int .i64 x_154, .int .i64 x_155, .bool x_156, .int .i64 x_157, .int .i64 x_158, .slice x_159 x_159n x_159c] T_api_Instance fun r_160 h_161 =>
appC h_161 T_api_Instance 7 72 [.int .i64 0, .int .i64 0, .int .i64 0, .bool false, .int .i64 0, .int .i64 0, .slice none 0 0] x_152 (x_152n) (x_152c) (some ⟨r_160,0,none⟩) (1) fun q_162 q_162n q_162c h_163 =>
ptr r fun a_164 =>
stV h_163 ((a_164.add 1).add 8) (.slice q_162 q_162n q_162c) fun h_165 =>
ptr r fun a_166 =>
ldI h_165 (a_166.add 11) .i64 fun x_167 =>
bindI (IntKind.i64.wrap (x_167-(1:Int))) fun z_168 =>
ptr r fun a_169 =>
stV h_165 (a_169.add 11) (.int .i64 z_168) fun h_170 =>
K (.tuple #[]) h_170))) (Kp)) (Kp))) (Kp)))) (Kp)) (Kp))) (Kp))) (Kp))) (Kp)
def text_may_c1 (C:CallP) (b_1:Int) (b_2:Int) (b_3:Option Addr) (b_3n:Nat) (b_3c:Nat) (h:Heap) (K:VK) (Kp:PK):Prop :=
newC h [.int .i64 b_1, .int .i64 b_2, .slice b_3 b_3n b_3c] T_api_Bitmap fun r_4 h_5 =>
ldI h_5 ((⟨r_4,0,none⟩:Addr).add 0) .i64 fun x_6 =>
ldI h_5 ((⟨r_4,0,none⟩:Addr).add 1) .i64 fun x_7 =>
ldS h_5 ((⟨r_4,0,none⟩:Addr).add 2) fun x_8 x_8n x_8c =>
C F_bitmap_Check #[.agg #[.int .i64 x_6, .int .i64 x_7, .slice x_8 x_8n x_8c]] h_5 (fun v_9 h_10 =>
∃ (r_11:Bool),v_9 = .bool r_11/\(
K (.bool (!r_11)) h_10)) (Kp)
def text_within (C:CallP) (n:Int) (low:Int) (h:Heap) (K:VK) (Kp:PK):Prop :=
bcase (decide (n≥low)) (
K (.bool (decide (n<=(1048576:Int)))) h) <|
K (.bool false) h
def text_may_c2 (C:CallP) (i_1:Int) (i_2:Int) (i_3:Int) (i_4:Bool) (i_5:Int) (i_6:Int) (i_7:Option Addr) (i_7n:Nat) (i_7c:Nat) (cap0:Addr) (cap1:Addr) (h:Heap) (K:VK) (Kp:PK):Prop :=
newC h [.int .i64 i_1, .int .i64 i_2, .int .i64 i_3, .bool i_4, .int .i64 i_5, .int .i64 i_6, .slice i_7 i_7n i_7c] T_api_Instance fun r_8 h_9 =>
ldI h_9 (cap0.add 0) .i64 fun x_10 =>
ldI h_9 (cap0.add 1) .i64 fun x_11 =>
ldI h_9 (cap0.add 2) .i64 fun x_12 =>
ldI h_9 (cap0.add 3) .i64 fun x_13 =>
ldI h_9 (cap0.add 4) .i64 fun x_14 =>
ldB h_9 (cap0.add 5) fun x_15 =>
ldI h_9 (cap0.add 6) .i64 fun x_16 =>
ldI h_9 (cap0.add 7) .i64 fun x_17 =>
ldS h_9 (cap0.add 8) fun x_18 x_18n x_18c =>
ldS h_9 cap1 fun x_19 x_19n x_19c =>
ldI h_9 ((⟨r_8,0,none⟩:Addr).add 0) .i64 fun x_20 =>
ldI h_9 ((⟨r_8,0,none⟩:Addr).add 1) .i64 fun x_21 =>
ldI h_9 ((⟨r_8,0,none⟩:Addr).add 2) .i64 fun x_22 =>
ldB h_9 ((⟨r_8,0,none⟩:Addr).add 3) fun x_23 =>
ldI h_9 ((⟨r_8,0,none⟩:Addr).add 4) .i64 fun x_24 =>
ldI h_9 ((⟨r_8,0,none⟩:Addr).add 5) .i64 fun x_25 =>
ldS h_9 ((⟨r_8,0,none⟩:Addr).add 6) fun x_26 x_26n x_26c =>
C F_text_instance #[.agg #[.int .i64 x_10, .int .i64 x_11, .int .i64 x_12, .int .i64 x_13, .int .i64 x_14, .bool x_15, .int .i64 x_16, .int .i64 x_17, .slice x_18 x_18n x_18c], .slice x_19 x_19n x_19c, .agg #[.int .i64 x_20, .int .i64 x_21, .int .i64 x_22, .bool x_23, .int .i64 x_24, .int .i64 x_25, .slice x_26 x_26n x_26c]] h_9 (fun v_27 h_28 =>
∃ (r_29:Bool),v_27 = .bool r_29/\(
K (.bool (!r_29)) h_28)) (Kp)
def text_instance (C:CallP) (t_1:Int) (t_2:Int) (t_3:Int) (t_4:Int) (t_5:Int) (t_6:Bool) (t_7:Int) (t_8:Int) (t_9:Option Addr) (t_9n:Nat) (t_9c:Nat) (symbols:Option Addr) (symbolsn:Nat) (symbolsc:Nat) (i_10:Int) (i_11:Int) (i_12:Int) (i_13:Bool) (i_14:Int) (i_15:Int) (i_16:Option Addr) (i_16n:Nat) (i_16c:Nat) (h:Heap) (K:VK) (Kp:PK):Prop :=
newC h [.int .i64 t_1, .int .i64 t_2, .int .i64 t_3, .int .i64 t_4, .int .i64 t_5, .bool t_6, .int .i64 t_7, .int .i64 t_8, .slice t_9 t_9n t_9c] T_api_Text fun r_17 h_18 =>
newC h_18 [.int .i64 i_10, .int .i64 i_11, .int .i64 i_12, .bool i_13, .int .i64 i_14, .int .i64 i_15, .slice i_16 i_16n i_16c] T_api_Instance fun r_19 h_20 =>
ldI h_20 ((⟨r_19,0,none⟩:Addr).add 2) .i64 fun x_21 =>
bcase (decide (x_21<(0:Int))) (
K (.bool false) h_20) <|
ldI h_20 ((⟨r_19,0,none⟩:Addr).add 2) .i64 fun x_22 =>
bcase (decide (x_22≥(symbolsn:Int))) (
K (.bool false) h_20) <|
ldI h_20 ((⟨r_19,0,none⟩:Addr).add 0) .i64 fun x_23 =>
C F_text_within #[.int .i64 x_23, .int .i64 (-1048576)] h_20 (fun v_24 h_25 =>
∃ (r_26:Bool),v_24 = .bool r_26/\(
bcase (!r_26) (
K (.bool false) h_25) <|
ldI h_25 ((⟨r_19,0,none⟩:Addr).add 1) .i64 fun x_27 =>
C F_text_within #[.int .i64 x_27, .int .i64 (-1048576)] h_25 (fun v_28 h_29 =>
∃ (r_30:Bool),v_28 = .bool r_30/\(
bcase (!r_30) (
K (.bool false) h_29) <|
ldB h_29 ((⟨r_19,0,none⟩:Addr).add 3) fun x_31 =>
bcase (!x_31) (
ldI h_29 (((⟨r_19,0,none⟩:Addr).add 4).add 0) .i64 fun x_32 =>
bcase (x_32 == (0:Int)) (
ldI h_29 (((⟨r_19,0,none⟩:Addr).add 4).add 1) .i64 fun x_33 =>
bcase (x_33 == (0:Int)) (
ldS h_29 (((⟨r_19,0,none⟩:Addr).add 4).add 2) fun x_34 x_34n x_34c =>
K (.bool ((x_34n:Int) == (0:Int))) h_29) <|
K (.bool false) h_29) <|
K (.bool false) h_29) <|
ldI h_29 ((⟨r_19,0,none⟩:Addr).add 2) .i64 fun x_35 =>
needs (0<=x_35/\x_35<(symbolsn:Int)) <|
ptr symbols fun a_36 =>
ldI h_29 ((a_36.add (x_35.toNat*3)).add 0) .i64 fun x_37 =>
ldI h_29 ((a_36.add (x_35.toNat*3)).add 1) .i64 fun x_38 =>
ldS h_29 ((a_36.add (x_35.toNat*3)).add 2) fun x_39 x_39n x_39c =>
newC h_29 [.int .i64 0, .int .i64 0, .slice none 0 0] T_api_Bitmap fun r_40 h_41 =>
stV h_41 ((⟨r_40,0,none⟩:Addr).add 0) (.int .i64 x_37) fun h_42 =>
stV h_42 ((⟨r_40,0,none⟩:Addr).add 1) (.int .i64 x_38) fun h_43 =>
stV h_43 ((⟨r_40,0,none⟩:Addr).add 2) (.slice x_39 x_39n x_39c) fun h_44 =>
ldB h_44 ((⟨r_17,0,none⟩:Addr).add 5) fun x_45 =>
bcase x_45 (
ldI h_44 (((⟨r_19,0,none⟩:Addr).add 4).add 0) .i64 fun x_46 =>
ldI h_44 (((⟨r_19,0,none⟩:Addr).add 4).add 1) .i64 fun x_47 =>
ldS h_44 (((⟨r_19,0,none⟩:Addr).add 4).add 2) fun x_48 x_48n x_48c =>
C F_bitmap_Check #[.agg #[.int .i64 x_46, .int .i64 x_47, .slice x_48 x_48n x_48c]] h_44 (fun v_49 h_50 =>
∃ (r_51:Bool),v_49 = .bool r_51/\(
bcase r_51 (
ldI h_50 (((⟨r_19,0,none⟩:Addr).add 4).add 0) .i64 fun x_52 =>
ldI h_50 ((⟨r_40,0,none⟩:Addr).add 0) .i64 fun x_53 =>
bcase (x_52 == x_53) (
ldI h_50 (((⟨r_19,0,none⟩:Addr).add 4).add 1) .i64 fun x_54 =>
ldI h_50 ((⟨r_40,0,none⟩:Addr).add 1) .i64 fun x_55 =>
bcase (x_54 == x_55) (
ldI h_50 (((⟨r_19,0,none⟩:Addr).add 4).add 0) .i64 fun x_56 =>
ldI h_50 (((⟨r_19,0,none⟩:Addr).add 4).add 1) .i64 fun x_57 =>
ldS h_50 (((⟨r_19,0,none⟩:Addr).add 4).add 2) fun x_58 x_58n x_58c =>
ldI h_50 ((⟨r_40,0,none⟩:Addr).add 0) .i64 fun x_59 =>
ldI h_50 ((⟨r_40,0,none⟩:Addr).add 1) .i64 fun x_60 =>
ldS h_50 ((⟨r_40,0,none⟩:Addr).add 2) fun x_61 x_61n x_61c =>
C F_bitmap_Equal #[.agg #[.int .i64 x_56, .int .i64 x_57, .slice x_58 x_58n x_58c], .agg #[.int .i64 x_59, .int .i64 x_60, .slice x_61 x_61n x_61c]] h_50 (fun v_62 h_63 =>
∃ (r_64:Bool),v_62 = .bool r_64/\(
K (.bool (!r_64)) h_63)) (Kp)) <|
K (.bool false) h_50) <|
K (.bool false) h_50) <|
K (.bool false) h_50)) (Kp)) <|
K (.bool false) h_44)) (Kp))) (Kp)
def text_width (C:CallP) (symbols:Int) (h:Heap) (K:VK) (Kp:PK):Prop :=
∃ J_1:Nat->List Value->Heap->Prop,(∃ n_3,J_1 n_3 [.int .i64 0] h)/\∀ (n_3:Nat) (h_4:Heap) (u_5:Nat->Value) (w_6:Int),J_1 n_3 [.int .i64 w_6] h_4->(
needs (0<=w_6) <|
bindI (shlI .i64 (1:Int) w_6) fun z_7 =>
bcase (decide (z_7<symbols)) (
bindI (IntKind.i64.wrap (w_6+(1:Int))) fun z_8 =>
∃ m_2,m_2<n_3/\J_1 m_2 [.int .i64 z_8] h_4) <|
K (.int .i64 w_6) h_4)
end Go.Den.YtbknfejmdekhpaaGreat
namespace Go.Den.YtbknfejmdekhpaaGreat
open Go Go.Den
theorem call_text_Encode {t_1:Int} {t_2:Int} {t_3:Int} {t_4:Int} {t_5:Int} {t_6:Bool} {t_7:Int} {t_8:Int} {t_9:Option Addr} {t_9n:Nat} {t_9c:Nat} {symbols:Option Addr} {symbolsn:Nat} {symbolsc:Nat} {h:Heap} {K:VK} {Kp:PK} (H:text_Encode (CallsHP Go.Proofs.Tryz.prog) t_1 t_2 t_3 t_4 t_5 t_6 t_7 t_8 t_9 t_9n t_9c symbols symbolsn symbolsc h K Kp):CallsHP Go.Proofs.Tryz.prog F_text_Encode #[.agg #[.int .i64 t_1, .int .i64 t_2, .int .i64 t_3, .int .i64 t_4, .int .i64 t_5, .bool t_6, .int .i64 t_7, .int .i64 t_8, .slice t_9 t_9n t_9c], .slice symbols symbolsn symbolsc] h K Kp :=
 callsHP_ofE (Hints.mk (fun i=>none) (fun i=>none) (fun i=>none) []) (by kernel_rfl) Go.Proofs.Tryz.func15 (by kernel_rfl) (fun C=>text_Encode C t_1 t_2 t_3 t_4 t_5 t_6 t_7 t_8 t_9 t_9n t_9c symbols symbolsn symbolsc h K Kp) (fun C=>by kernel_rfl) H
theorem call_text_Draw {t_1:Int} {t_2:Int} {t_3:Int} {t_4:Int} {t_5:Int} {t_6:Bool} {t_7:Int} {t_8:Int} {t_9:Option Addr} {t_9n:Nat} {t_9c:Nat} {symbols:Option Addr} {symbolsn:Nat} {symbolsc:Nat} {h:Heap} {K:VK} {Kp:PK} (H:text_Draw (CallsHP Go.Proofs.Tryz.prog) t_1 t_2 t_3 t_4 t_5 t_6 t_7 t_8 t_9 t_9n t_9c symbols symbolsn symbolsc h K Kp):CallsHP Go.Proofs.Tryz.prog F_text_Draw #[.agg #[.int .i64 t_1, .int .i64 t_2, .int .i64 t_3, .int .i64 t_4, .int .i64 t_5, .bool t_6, .int .i64 t_7, .int .i64 t_8, .slice t_9 t_9n t_9c], .slice symbols symbolsn symbolsc] h K Kp :=
 callsHP_ofE (Hints.mk (fun i=>none) (fun i=>bif Nat.beq i 9 then some ([(44, .int .i64)],2417851639211666163383328) else (none)) (fun i=>bif Nat.beq i 14 then some ([],287104476244869120) else (none)) []) (by kernel_rfl) Go.Proofs.Tryz.func17 (by kernel_rfl) (fun C=>text_Draw C t_1 t_2 t_3 t_4 t_5 t_6 t_7 t_8 t_9 t_9n t_9c symbols symbolsn symbolsc h K Kp) (fun C=>by kernel_rfl) H
theorem call_text_Sorted {t_1:Int} {t_2:Int} {t_3:Int} {t_4:Int} {t_5:Int} {t_6:Bool} {t_7:Int} {t_8:Int} {t_9:Option Addr} {t_9n:Nat} {t_9c:Nat} {h:Heap} {K:VK} {Kp:PK} (H:text_Sorted (CallsHP Go.Proofs.Tryz.prog) t_1 t_2 t_3 t_4 t_5 t_6 t_7 t_8 t_9 t_9n t_9c h K Kp):CallsHP Go.Proofs.Tryz.prog F_text_Sorted #[.agg #[.int .i64 t_1, .int .i64 t_2, .int .i64 t_3, .int .i64 t_4, .int .i64 t_5, .bool t_6, .int .i64 t_7, .int .i64 t_8, .slice t_9 t_9n t_9c]] h K Kp :=
 callsHP_ofE (Hints.mk (fun i=>none) (fun i=>bif Nat.beq i 6 then some ([(19, .int .i64)],34359214112) else (none)) (fun i=>bif Nat.beq i 4 then some ([],16128) else (none)) []) (by kernel_rfl) Go.Proofs.Tryz.func19 (by kernel_rfl) (fun C=>text_Sorted C t_1 t_2 t_3 t_4 t_5 t_6 t_7 t_8 t_9 t_9n t_9c h K Kp) (fun C=>by kernel_rfl) H
theorem call_text_Decode {f:Option Addr} {fn:Nat} {fc:Nat} {symbols:Option Addr} {symbolsn:Nat} {symbolsc:Nat} {h:Heap} {K:VK} {Kp:PK} (H:text_Decode (CallsHP Go.Proofs.Tryz.prog) f fn fc symbols symbolsn symbolsc h K Kp):CallsHP Go.Proofs.Tryz.prog F_text_Decode #[.slice f fn fc, .slice symbols symbolsn symbolsc] h K Kp :=
 callsHP_ofE (Hints.mk (fun i=>bif Nat.beq i 5 then some ([9], .take 0 <| .take 1 <| .take 2 <| .take 3 <| .take 4 <| .go 5 <| .take 6 <| .take 7 <| .take 8 <| .bar 9 [] <| .done) else (none)) (fun i=>none) (fun i=>none) []) (by kernel_rfl) Go.Proofs.Tryz.func30 (by kernel_rfl) (fun C=>text_Decode C f fn fc symbols symbolsn symbolsc h K Kp) (fun C=>by kernel_rfl) H
theorem call_text_checked {t_1:Int} {t_2:Int} {t_3:Int} {t_4:Int} {t_5:Int} {t_6:Bool} {t_7:Int} {t_8:Int} {t_9:Option Addr} {t_9n:Nat} {t_9c:Nat} {symbols:Option Addr} {symbolsn:Nat} {symbolsc:Nat} {h:Heap} {K:VK} {Kp:PK} (H:text_checked (CallsHP Go.Proofs.Tryz.prog) t_1 t_2 t_3 t_4 t_5 t_6 t_7 t_8 t_9 t_9n t_9c symbols symbolsn symbolsc h K Kp):CallsHP Go.Proofs.Tryz.prog F_text_checked #[.agg #[.int .i64 t_1, .int .i64 t_2, .int .i64 t_3, .int .i64 t_4, .int .i64 t_5, .bool t_6, .int .i64 t_7, .int .i64 t_8, .slice t_9 t_9n t_9c], .slice symbols symbolsn symbolsc] h K Kp :=
 callsHP_ofE (Hints.mk (fun i=>none) (fun i=>bif Nat.beq i 5 then some ([(5, .int .i64),(15, .int .i64)],1073709216) else (none)) (fun i=>none) []) (by kernel_rfl) Go.Proofs.Tryz.func43 (by kernel_rfl) (fun C=>text_checked C t_1 t_2 t_3 t_4 t_5 t_6 t_7 t_8 t_9 t_9n t_9c symbols symbolsn symbolsc h K Kp) (fun C=>by kernel_rfl) H
noncomputable def hints_text_caught:Hints:=Hints.mk (fun i=>none)
 (fun i=>none)
 (fun i=>none) []
theorem eq_text_caught (C:CallP) (D:CallDP) (run:Value) (h:Heap) (K:VK) (Kp:PK) :
  fnDD Go.Proofs.Tryz.prog C D hints_text_caught Go.Proofs.Tryz.f44 [run] h K Kp=text_caught C D run h K Kp:=by kernel_rfl
theorem call_text_caught {run:Value} {h:Heap} {K:VK} {Kp:PK} (H:text_caught (CallsHP Go.Proofs.Tryz.prog) (DCalls Go.Proofs.Tryz.prog) run h K Kp):CallsHP Go.Proofs.Tryz.prog F_text_caught #[run] h K Kp :=
 callsHP_ofD hints_text_caught (by kernel_rfl) Go.Proofs.Tryz.func44 (by kernel_rfl) (by rw [eq_text_caught]; exact H)
theorem call_text_Encode_c1 {cap0:Addr} {cap1:Addr} {cap2:Addr} {h:Heap} {K:VK} {Kp:PK} (H:text_Encode_c1 (CallsHP Go.Proofs.Tryz.prog) cap0 cap1 cap2 h K Kp):CallsHP Go.Proofs.Tryz.prog F_text_Encode_c1 #[.pointer (some cap0), .pointer (some cap1), .pointer (some cap2)] h K Kp :=
 callsHP_ofE (Hints.mk (fun i=>none) (fun i=>none) (fun i=>none) []) (by kernel_rfl) Go.Proofs.Tryz.func45 (by kernel_rfl) (fun C=>text_Encode_c1 C cap0 cap1 cap2 h K Kp) (fun C=>by kernel_rfl) H
theorem call_text_need {err:Int} {h:Heap} {K:VK} {Kp:PK} (H:text_need (CallsHP Go.Proofs.Tryz.prog) err h K Kp):CallsHP Go.Proofs.Tryz.prog F_text_need #[.int .i64 err] h K Kp :=
 callsHP_ofE (Hints.mk (fun i=>none) (fun i=>none) (fun i=>none) []) (by kernel_rfl) Go.Proofs.Tryz.func47 (by kernel_rfl) (fun C=>text_need C err h K Kp) (fun C=>by kernel_rfl) H
theorem call_text_coder_all {c:Option Addr} {h:Heap} {K:VK} {Kp:PK} (H:text_coder_all (CallsHP Go.Proofs.Tryz.prog) c h K Kp):CallsHP Go.Proofs.Tryz.prog F_text_coder_all #[.pointer c] h K Kp :=
 callsHP_ofE (Hints.mk (fun i=>bif Nat.beq i 4 then some ([], .take 0 <| .take 1 <| .take 2 <| .take 3 <| .take 5 <| .take 6 <| .take 7 <| .take 8 <| .take 4 <| .take 9 <| .take 10 <| .take 11 <| .done) else (bif Nat.beq i 7 then some ([], .take 0 <| .take 1 <| .take 2 <| .take 3 <| .take 4 <| .take 6 <| .take 5 <| .take 7 <| .done) else (bif Nat.beq i 10 then some ([], .take 0 <| .take 1 <| .take 2 <| .take 3 <| .take 4 <| .take 5 <| .take 6 <| .take 7 <| .take 8 <| .take 10 <| .take 11 <| .take 12 <| .take 13 <| .take 16 <| .take 9 <| .take 14 <| .take 15 <| .take 17 <| .take 18 <| .done) else (bif Nat.beq i 12 then some ([13], .take 0 <| .take 1 <| .take 2 <| .take 3 <| .take 4 <| .take 6 <| .take 7 <| .take 8 <| .take 9 <| .take 10 <| .take 5 <| .take 11 <| .take 12 <| .bar 13 [] <| .done) else (none))))) (fun i=>bif Nat.beq i 3 then some ([(3, .int .i64),(4, .int .i64),(5, .int .i64)],39614081257132168796771971192) else (bif Nat.beq i 8 then some ([(5, .int .i64)],39614081257132028059283619872) else (none))) (fun i=>none) []) (by kernel_rfl) Go.Proofs.Tryz.func48 (by kernel_rfl) (fun C=>text_coder_all C c h K Kp) (fun C=>by kernel_rfl) H
theorem call_text_head {t_1:Int} {t_2:Int} {t_3:Int} {t_4:Int} {t_5:Int} {t_6:Bool} {t_7:Int} {t_8:Int} {t_9:Option Addr} {t_9n:Nat} {t_9c:Nat} {h:Heap} {K:VK} {Kp:PK} (H:text_head (CallsHP Go.Proofs.Tryz.prog) t_1 t_2 t_3 t_4 t_5 t_6 t_7 t_8 t_9 t_9n t_9c h K Kp):CallsHP Go.Proofs.Tryz.prog F_text_head #[.agg #[.int .i64 t_1, .int .i64 t_2, .int .i64 t_3, .int .i64 t_4, .int .i64 t_5, .bool t_6, .int .i64 t_7, .int .i64 t_8, .slice t_9 t_9n t_9c]] h K Kp :=
 callsHP_ofE (Hints.mk (fun i=>none) (fun i=>bif Nat.beq i 4 then some ([(24, .int .i64)],17163092032) else (none)) (fun i=>bif Nat.beq i 11 then some ([(7, .int .i64)],263882790666368) else (none)) []) (by kernel_rfl) Go.Proofs.Tryz.func50 (by kernel_rfl) (fun C=>text_head C t_1 t_2 t_3 t_4 t_5 t_6 t_7 t_8 t_9 t_9n t_9c h K Kp) (fun C=>by kernel_rfl) H
theorem call_text_Sorted_c1 {a_1:Int} {a_2:Int} {a_3:Int} {a_4:Bool} {a_5:Int} {a_6:Int} {a_7:Option Addr} {a_7n:Nat} {a_7c:Nat} {b_8:Int} {b_9:Int} {b_10:Int} {b_11:Bool} {b_12:Int} {b_13:Int} {b_14:Option Addr} {b_14n:Nat} {b_14c:Nat} {cap0:Addr} {h:Heap} {K:VK} {Kp:PK} (H:text_Sorted_c1 (CallsHP Go.Proofs.Tryz.prog) a_1 a_2 a_3 a_4 a_5 a_6 a_7 a_7n a_7c b_8 b_9 b_10 b_11 b_12 b_13 b_14 b_14n b_14c cap0 h K Kp):CallsHP Go.Proofs.Tryz.prog F_text_Sorted_c1 #[.agg #[.int .i64 a_1, .int .i64 a_2, .int .i64 a_3, .bool a_4, .int .i64 a_5, .int .i64 a_6, .slice a_7 a_7n a_7c], .agg #[.int .i64 b_8, .int .i64 b_9, .int .i64 b_10, .bool b_11, .int .i64 b_12, .int .i64 b_13, .slice b_14 b_14n b_14c], .pointer (some cap0)] h K Kp :=
 callsHP_ofE (Hints.mk (fun i=>bif Nat.beq i 1 then some ([18,19,20], .take 0 <| .take 4 <| .take 9 <| .take 11 <| .take 14 <| .take 16 <| .take 1 <| .take 2 <| .take 3 <| .take 5 <| .take 6 <| .take 7 <| .take 10 <| .take 12 <| .take 15 <| .take 17 <| .go 8 <| .go 13 <| .bar 18 [19,20] <| .bar 19 [20] <| .bar 20 [] <| .take 21 <| .done) else (none)) (fun i=>none) (fun i=>none) []) (by kernel_rfl) Go.Proofs.Tryz.func67 (by kernel_rfl) (fun C=>text_Sorted_c1 C a_1 a_2 a_3 a_4 a_5 a_6 a_7 a_7n a_7c b_8 b_9 b_10 b_11 b_12 b_13 b_14 b_14n b_14c cap0 h K Kp) (fun C=>by kernel_rfl) H
theorem call_text_Decode_c1 {cap0:Addr} {cap1:Addr} {cap2:Addr} {h:Heap} {K:VK} {Kp:PK} (H:text_Decode_c1 (CallsHP Go.Proofs.Tryz.prog) cap0 cap1 cap2 h K Kp):CallsHP Go.Proofs.Tryz.prog F_text_Decode_c1 #[.pointer (some cap0), .pointer (some cap1), .pointer (some cap2)] h K Kp :=
 callsHP_ofE (Hints.mk (fun i=>bif Nat.beq i 3 then some ([11,14], .keep <| .take 2 <| .take 0 <| .take 1 <| .take 3 <| .take 4 <| .go 5 <| .take 6 <| .take 7 <| .take 8 <| .take 9 <| .take 10 <| .bar 11 [14] <| .take 12 <| .take 13 <| .bar 14 [] <| .done) else (bif Nat.beq i 5 then some ([15], .keep <| .take 4 <| .take 0 <| .take 1 <| .take 2 <| .take 3 <| .go 5 <| .take 6 <| .take 7 <| .take 8 <| .go 9 <| .take 10 <| .take 11 <| .take 12 <| .take 13 <| .take 14 <| .bar 15 [] <| .take 16 <| .done) else (none))) (fun i=>none) (fun i=>none) []) (by kernel_rfl) Go.Proofs.Tryz.func72 (by kernel_rfl) (fun C=>text_Decode_c1 C cap0 cap1 cap2 h K Kp) (fun C=>by kernel_rfl) H
theorem call_text_wrong {bad:Bool} {h:Heap} {K:VK} {Kp:PK} (H:text_wrong (CallsHP Go.Proofs.Tryz.prog) bad h K Kp):CallsHP Go.Proofs.Tryz.prog F_text_wrong #[.bool bad] h K Kp :=
 callsHP_ofE (Hints.mk (fun i=>none) (fun i=>none) (fun i=>none) []) (by kernel_rfl) Go.Proofs.Tryz.func73 (by kernel_rfl) (fun C=>text_wrong C bad h K Kp) (fun C=>by kernel_rfl) H
theorem call_text_Decode_c1_c1 {b_1:Int} {b_2:Int} {b_3:Option Addr} {b_3n:Nat} {b_3c:Nat} {h:Heap} {K:VK} {Kp:PK} (H:text_Decode_c1_c1 (CallsHP Go.Proofs.Tryz.prog) b_1 b_2 b_3 b_3n b_3c h K Kp):CallsHP Go.Proofs.Tryz.prog F_text_Decode_c1_c1 #[.agg #[.int .i64 b_1, .int .i64 b_2, .slice b_3 b_3n b_3c]] h K Kp :=
 callsHP_ofE (Hints.mk (fun i=>none) (fun i=>none) (fun i=>none) []) (by kernel_rfl) Go.Proofs.Tryz.func75 (by kernel_rfl) (fun C=>text_Decode_c1_c1 C b_1 b_2 b_3 b_3n b_3c h K Kp) (fun C=>by kernel_rfl) H
theorem call_text_big {bad:Bool} {h:Heap} {K:VK} {Kp:PK} (H:text_big (CallsHP Go.Proofs.Tryz.prog) bad h K Kp):CallsHP Go.Proofs.Tryz.prog F_text_big #[.bool bad] h K Kp :=
 callsHP_ofE (Hints.mk (fun i=>none) (fun i=>none) (fun i=>none) []) (by kernel_rfl) Go.Proofs.Tryz.func77 (by kernel_rfl) (fun C=>text_big C bad h K Kp) (fun C=>by kernel_rfl) H
theorem call_text_opened {inv:Option Addr} {symbols:Int} {h:Heap} {K:VK} {Kp:PK} (H:text_opened (CallsHP Go.Proofs.Tryz.prog) inv symbols h K Kp):CallsHP Go.Proofs.Tryz.prog F_text_opened #[.pointer inv, .int .i64 symbols] h K Kp :=
 callsHP_ofE (Hints.mk (fun i=>none) (fun i=>none) (fun i=>bif Nat.beq i 10 then some ([],70360154243072) else (bif Nat.beq i 12 then some ([],9221120237041090560) else (bif Nat.beq i 14 then some ([],4685472994722226110464) else (none)))) []) (by kernel_rfl) Go.Proofs.Tryz.func79 (by kernel_rfl) (fun C=>text_opened C inv symbols h K Kp) (fun C=>by kernel_rfl) H
theorem call_text_reader_all {r:Option Addr} {h:Heap} {K:VK} {Kp:PK} (H:text_reader_all (CallsHP Go.Proofs.Tryz.prog) r h K Kp):CallsHP Go.Proofs.Tryz.prog F_text_reader_all #[.pointer r] h K Kp :=
 callsHP_ofE (Hints.mk (fun i=>none) (fun i=>bif Nat.beq i 2 then some ([(2, .int .i64),(3, .int .i64),(4, .bool)],9223372036854775804) else (bif Nat.beq i 11 then some ([(6, .int .i64)],9223370937343148224) else (none))) (fun i=>bif Nat.beq i 6 then some ([],67076096) else (none)) []) (by kernel_rfl) Go.Proofs.Tryz.func82 (by kernel_rfl) (fun C=>text_reader_all C r h K Kp) (fun C=>by kernel_rfl) H
theorem call_text_may {t_1:Int} {t_2:Int} {t_3:Int} {t_4:Int} {t_5:Int} {t_6:Bool} {t_7:Int} {t_8:Int} {t_9:Option Addr} {t_9n:Nat} {t_9c:Nat} {symbols:Option Addr} {symbolsn:Nat} {symbolsc:Nat} {h:Heap} {K:VK} {Kp:PK} (H:text_may (CallsHP Go.Proofs.Tryz.prog) t_1 t_2 t_3 t_4 t_5 t_6 t_7 t_8 t_9 t_9n t_9c symbols symbolsn symbolsc h K Kp):CallsHP Go.Proofs.Tryz.prog F_text_may #[.agg #[.int .i64 t_1, .int .i64 t_2, .int .i64 t_3, .int .i64 t_4, .int .i64 t_5, .bool t_6, .int .i64 t_7, .int .i64 t_8, .slice t_9 t_9n t_9c], .slice symbols symbolsn symbolsc] h K Kp :=
 callsHP_ofE (Hints.mk (fun i=>none) (fun i=>none) (fun i=>none) []) (by kernel_rfl) Go.Proofs.Tryz.func90 (by kernel_rfl) (fun C=>text_may C t_1 t_2 t_3 t_4 t_5 t_6 t_7 t_8 t_9 t_9n t_9c symbols symbolsn symbolsc h K Kp) (fun C=>by kernel_rfl) H
noncomputable def hints_text_caught_c1:Hints:=Hints.mk (fun i=>none)
 (fun i=>none)
 (fun i=>none) []
theorem eq_text_caught_c1 (C:CallP) (cap0:Addr) (u:FrameMode) (h:Heap) (Kd:FrameMode->Heap->Prop) (Kdp:FrameMode->PK) :
  dfnD Go.Proofs.Tryz.prog C hints_text_caught_c1 Go.Proofs.Tryz.f91 [.pointer (some cap0)] u h Kd Kdp=text_caught_c1 C cap0 u h Kd Kdp:=by kernel_rfl
theorem dcall_text_caught_c1 {cap0:Addr} {u:FrameMode} {h:Heap} {Kd:FrameMode->Heap->Prop} {Kdp:FrameMode->PK} (H:text_caught_c1 (CallsHP Go.Proofs.Tryz.prog) cap0 u h Kd Kdp):DCalls Go.Proofs.Tryz.prog F_text_caught_c1 #[.pointer (some cap0)] u h Kd Kdp :=
 dcalls_of hints_text_caught_c1 (by kernel_rfl) Go.Proofs.Tryz.func91 (by kernel_rfl) (by rw [eq_text_caught_c1]; exact H)
theorem call_text_coder_put {c:Option Addr} {base:Int} {n:Int} {h:Heap} {K:VK} {Kp:PK} (H:text_coder_put (CallsHP Go.Proofs.Tryz.prog) c base n h K Kp):CallsHP Go.Proofs.Tryz.prog F_text_coder_put #[.pointer c, .int .i64 base, .int .i64 n] h K Kp :=
 callsHP_ofE (Hints.mk (fun i=>none) (fun i=>none) (fun i=>none) []) (by kernel_rfl) Go.Proofs.Tryz.func93 (by kernel_rfl) (fun C=>text_coder_put C c base n h K Kp) (fun C=>by kernel_rfl) H
theorem call_text_coder_one {c:Option Addr} {i_1:Int} {i_2:Int} {i_3:Int} {i_4:Bool} {i_5:Int} {i_6:Int} {i_7:Option Addr} {i_7n:Nat} {i_7c:Nat} {h:Heap} {K:VK} {Kp:PK} (H:text_coder_one (CallsHP Go.Proofs.Tryz.prog) c i_1 i_2 i_3 i_4 i_5 i_6 i_7 i_7n i_7c h K Kp):CallsHP Go.Proofs.Tryz.prog F_text_coder_one #[.pointer c, .agg #[.int .i64 i_1, .int .i64 i_2, .int .i64 i_3, .bool i_4, .int .i64 i_5, .int .i64 i_6, .slice i_7 i_7n i_7c]] h K Kp :=
 callsHP_ofE (Hints.mk (fun i=>bif Nat.beq i 2 then some ([18], .take 0 <| .take 1 <| .take 3 <| .take 5 <| .take 6 <| .take 7 <| .take 8 <| .take 11 <| .take 12 <| .take 13 <| .take 14 <| .take 2 <| .take 4 <| .take 9 <| .take 10 <| .take 15 <| .take 16 <| .take 17 <| .bar 18 [] <| .done) else (bif Nat.beq i 3 then some ([12,13], .take 0 <| .take 1 <| .take 2 <| .take 4 <| .take 5 <| .take 6 <| .take 10 <| .take 3 <| .take 7 <| .take 8 <| .take 11 <| .go 9 <| .bar 12 [13] <| .bar 13 [] <| .done) else (bif Nat.beq i 8 then some ([14,15], .take 0 <| .take 1 <| .take 2 <| .take 4 <| .take 6 <| .take 7 <| .take 8 <| .take 10 <| .take 3 <| .take 5 <| .take 9 <| .take 11 <| .take 12 <| .take 13 <| .bar 14 [15] <| .bar 15 [] <| .done) else (none)))) (fun i=>none) (fun i=>bif Nat.beq i 3 then some ([],536870896) else (none)) []) (by kernel_rfl) Go.Proofs.Tryz.func94 (by kernel_rfl) (fun C=>text_coder_one C c i_1 i_2 i_3 i_4 i_5 i_6 i_7 i_7n i_7c h K Kp) (fun C=>by kernel_rfl) H
theorem call_text_variable {inv:Option Addr} {h:Heap} {K:VK} {Kp:PK} (H:text_variable (CallsHP Go.Proofs.Tryz.prog) inv h K Kp):CallsHP Go.Proofs.Tryz.prog F_text_variable #[.pointer inv] h K Kp :=
 callsHP_ofE (Hints.mk (fun i=>none) (fun i=>none) (fun i=>none) []) (by kernel_rfl) Go.Proofs.Tryz.func120 (by kernel_rfl) (fun C=>text_variable C inv h K Kp) (fun C=>by kernel_rfl) H
theorem call_text_reader_number {r:Option Addr} {base:Int} {h:Heap} {K:VK} {Kp:PK} (H:text_reader_number (CallsHP Go.Proofs.Tryz.prog) r base h K Kp):CallsHP Go.Proofs.Tryz.prog F_text_reader_number #[.pointer r, .int .i64 base] h K Kp :=
 callsHP_ofE (Hints.mk (fun i=>none) (fun i=>none) (fun i=>none) []) (by kernel_rfl) Go.Proofs.Tryz.func124 (by kernel_rfl) (fun C=>text_reader_number C r base h K Kp) (fun C=>by kernel_rfl) H
theorem call_text_reader_one {r:Option Addr} {strip:Int} {x:Int} {h:Heap} {K:VK} {Kp:PK} (H:text_reader_one (CallsHP Go.Proofs.Tryz.prog) r strip x h K Kp):CallsHP Go.Proofs.Tryz.prog F_text_reader_one #[.pointer r, .int .i64 strip, .int .i64 x] h K Kp :=
 callsHP_ofE (Hints.mk (fun i=>bif Nat.beq i 4 then some ([18], .take 0 <| .take 1 <| .take 2 <| .take 3 <| .take 4 <| .take 5 <| .take 6 <| .take 7 <| .take 8 <| .take 10 <| .take 11 <| .take 12 <| .take 13 <| .take 9 <| .take 14 <| .take 15 <| .take 16 <| .take 17 <| .bar 18 [] <| .done) else (bif Nat.beq i 8 then some ([10,15], .take 0 <| .take 1 <| .take 2 <| .take 4 <| .take 5 <| .take 6 <| .take 3 <| .take 7 <| .take 8 <| .go 9 <| .bar 10 [15] <| .take 11 <| .take 12 <| .take 13 <| .take 14 <| .bar 15 [] <| .take 16 <| .done) else (bif Nat.beq i 10 then some ([8], .take 0 <| .take 2 <| .take 3 <| .take 4 <| .take 1 <| .take 5 <| .take 6 <| .take 7 <| .bar 8 [] <| .done) else (bif Nat.beq i 15 then some ([9], .take 0 <| .take 1 <| .take 2 <| .take 4 <| .take 3 <| .take 5 <| .take 6 <| .take 7 <| .go 8 <| .bar 9 [] <| .done) else (bif Nat.beq i 17 then some ([12], .take 0 <| .take 1 <| .take 2 <| .take 4 <| .take 6 <| .take 3 <| .take 5 <| .take 7 <| .take 8 <| .take 9 <| .take 10 <| .take 11 <| .bar 12 [] <| .done) else (bif Nat.beq i 19 then some ([9,14], .take 0 <| .take 1 <| .take 2 <| .take 4 <| .take 6 <| .take 3 <| .take 5 <| .take 7 <| .take 8 <| .bar 9 [14] <| .take 10 <| .take 11 <| .take 12 <| .take 13 <| .bar 14 [] <| .take 15 <| .done) else (bif Nat.beq i 22 then some ([8,12], .take 0 <| .take 1 <| .take 2 <| .take 3 <| .take 4 <| .take 5 <| .take 6 <| .go 7 <| .bar 8 [12] <| .take 9 <| .take 10 <| .take 11 <| .bar 12 [] <| .done) else (none)))))))) (fun i=>none) (fun i=>bif Nat.beq i 6 then some ([],288230376118157440) else (bif Nat.beq i 15 then some ([],162258657859193720701440560727552) else (bif Nat.beq i 22 then some ([],91343852333181270128453472831404297150485498112) else (none)))) []) (by kernel_rfl) Go.Proofs.Tryz.func125 (by kernel_rfl) (fun C=>text_reader_one C r strip x h K Kp) (fun C=>by kernel_rfl) H
theorem call_text_may_c1 {b_1:Int} {b_2:Int} {b_3:Option Addr} {b_3n:Nat} {b_3c:Nat} {h:Heap} {K:VK} {Kp:PK} (H:text_may_c1 (CallsHP Go.Proofs.Tryz.prog) b_1 b_2 b_3 b_3n b_3c h K Kp):CallsHP Go.Proofs.Tryz.prog F_text_may_c1 #[.agg #[.int .i64 b_1, .int .i64 b_2, .slice b_3 b_3n b_3c]] h K Kp :=
 callsHP_ofE (Hints.mk (fun i=>none) (fun i=>none) (fun i=>none) []) (by kernel_rfl) Go.Proofs.Tryz.func135 (by kernel_rfl) (fun C=>text_may_c1 C b_1 b_2 b_3 b_3n b_3c h K Kp) (fun C=>by kernel_rfl) H
theorem call_text_within {n:Int} {low:Int} {h:Heap} {K:VK} {Kp:PK} (H:text_within (CallsHP Go.Proofs.Tryz.prog) n low h K Kp):CallsHP Go.Proofs.Tryz.prog F_text_within #[.int .i64 n, .int .i64 low] h K Kp :=
 callsHP_ofE (Hints.mk (fun i=>none) (fun i=>none) (fun i=>none) []) (by kernel_rfl) Go.Proofs.Tryz.func136 (by kernel_rfl) (fun C=>text_within C n low h K Kp) (fun C=>by kernel_rfl) H
theorem call_text_may_c2 {i_1:Int} {i_2:Int} {i_3:Int} {i_4:Bool} {i_5:Int} {i_6:Int} {i_7:Option Addr} {i_7n:Nat} {i_7c:Nat} {cap0:Addr} {cap1:Addr} {h:Heap} {K:VK} {Kp:PK} (H:text_may_c2 (CallsHP Go.Proofs.Tryz.prog) i_1 i_2 i_3 i_4 i_5 i_6 i_7 i_7n i_7c cap0 cap1 h K Kp):CallsHP Go.Proofs.Tryz.prog F_text_may_c2 #[.agg #[.int .i64 i_1, .int .i64 i_2, .int .i64 i_3, .bool i_4, .int .i64 i_5, .int .i64 i_6, .slice i_7 i_7n i_7c], .pointer (some cap0), .pointer (some cap1)] h K Kp :=
 callsHP_ofE (Hints.mk (fun i=>none) (fun i=>none) (fun i=>none) []) (by kernel_rfl) Go.Proofs.Tryz.func138 (by kernel_rfl) (fun C=>text_may_c2 C i_1 i_2 i_3 i_4 i_5 i_6 i_7 i_7n i_7c cap0 cap1 h K Kp) (fun C=>by kernel_rfl) H
theorem call_text_instance {t_1:Int} {t_2:Int} {t_3:Int} {t_4:Int} {t_5:Int} {t_6:Bool} {t_7:Int} {t_8:Int} {t_9:Option Addr} {t_9n:Nat} {t_9c:Nat} {symbols:Option Addr} {symbolsn:Nat} {symbolsc:Nat} {i_10:Int} {i_11:Int} {i_12:Int} {i_13:Bool} {i_14:Int} {i_15:Int} {i_16:Option Addr} {i_16n:Nat} {i_16c:Nat} {h:Heap} {K:VK} {Kp:PK} (H:text_instance (CallsHP Go.Proofs.Tryz.prog) t_1 t_2 t_3 t_4 t_5 t_6 t_7 t_8 t_9 t_9n t_9c symbols symbolsn symbolsc i_10 i_11 i_12 i_13 i_14 i_15 i_16 i_16n i_16c h K Kp):CallsHP Go.Proofs.Tryz.prog F_text_instance #[.agg #[.int .i64 t_1, .int .i64 t_2, .int .i64 t_3, .int .i64 t_4, .int .i64 t_5, .bool t_6, .int .i64 t_7, .int .i64 t_8, .slice t_9 t_9n t_9c], .slice symbols symbolsn symbolsc, .agg #[.int .i64 i_10, .int .i64 i_11, .int .i64 i_12, .bool i_13, .int .i64 i_14, .int .i64 i_15, .slice i_16 i_16n i_16c]] h K Kp :=
 callsHP_ofE (Hints.mk (fun i=>none) (fun i=>none) (fun i=>none) []) (by kernel_rfl) Go.Proofs.Tryz.func139 (by kernel_rfl) (fun C=>text_instance C t_1 t_2 t_3 t_4 t_5 t_6 t_7 t_8 t_9 t_9n t_9c symbols symbolsn symbolsc i_10 i_11 i_12 i_13 i_14 i_15 i_16 i_16n i_16c h K Kp) (fun C=>by kernel_rfl) H
theorem call_text_width {symbols:Int} {h:Heap} {K:VK} {Kp:PK} (H:text_width (CallsHP Go.Proofs.Tryz.prog) symbols h K Kp):CallsHP Go.Proofs.Tryz.prog F_text_width #[.int .i64 symbols] h K Kp :=
 callsHP_ofE (Hints.mk (fun i=>none) (fun i=>bif Nat.beq i 2 then some ([(3, .int .i64)],1016) else (none)) (fun i=>none) []) (by kernel_rfl) Go.Proofs.Tryz.func142 (by kernel_rfl) (fun C=>text_width C symbols h K Kp) (fun C=>by kernel_rfl) H
end Go.Den.YtbknfejmdekhpaaGreat
namespace Go.Bm
open Go Go.Den Go.Den.YtbknfejmdekhpaaGreat
def flo (y:Int) (st:Nat):Int:=y.fdiv (2 ^ st)
def keyI (st:Nat) (t:Ins):Key:=⟨flo t.y st,t.x,t.y⟩
abbrev keyO (st:Nat) (o:OwI):Key:=keyI st o.i
theorem shr_flo {y:Int} {st:Nat} (h:st<=64):shrI .i64 y (st:Nat)=flo y st:=by
 unfold shrI flo
 rw [Int.toNat_natCast,Nat.min_eq_left (by exact h)]
section
variable {hB:Heap} {K:VK} {Kp:PK}
theorem isNaN_ok {x:Int} (hk:K (.bool false) hB):CP F_cmp_isNaN_int #[.int .i64 x] hB K Kp:=by
 refine call_cmp_isNaN_int ?_
 unfold cmp_isNaN_int
 rw [show (x != x)=false by simp]
 exact hk
def CmpR (x y r:Int):Prop:=(r<0↔x<y)/\(r=0↔x=y)
theorem compare_ok {x y:Int} (hk:∀ r,CmpR x y r->K (.int .i64 r) hB):CP F_cmp_Compare_int #[.int .i64 x, .int .i64 y] hB K Kp:=by
 refine call_cmp_Compare_int ?_
 unfold cmp_Compare_int
 refine isNaN_ok ⟨_,rfl,isNaN_ok ⟨_,rfl,bcase_false rfl (bcase_false rfl ?_)⟩⟩
 refine bcase_dec (fun h1=>hk _ ⟨by omega,by omega⟩) fun h1=>?_
 exact bcase_dec (fun h2=>hk _ ⟨by omega,by omega⟩) fun h2=>hk _ ⟨by omega,by omega⟩
theorem or_ok {b:Nat} {r1 r2 r3:Int} (c0:hcell hB ⟨b,0,none⟩=some (.int .i64 r1)) (c1:hcell hB ⟨b,1,none⟩=some (.int .i64 r2)) (c2:hcell hB ⟨b,2,none⟩=some (.int .i64 r3))
  (hk:K (.int .i64 (if r1≠0 then r1 else if r2≠0 then r2 else r3)) hB):CP F_cmp_Or_int #[.slice (some ⟨b,0,none⟩) 3 3] hB K Kp:=by
 refine call_cmp_Or_int ?_
 unfold cmp_Or_int
 refine ⟨fun m vs h'=>∃ i:Nat,i+m=3/\h'=hB/\vs=[.int .i64 (i:Nat)]/\(0<i->r1=0)/\(1<i->r2=0)/\(2<i->r3=0),⟨3,0,rfl,rfl,rfl,by omega,by omega,by omega⟩,?_⟩
 rintro m h u xi ⟨i,hm,rfl,hxx,g1,g2,g3⟩
 injection hxx with hx1 hxx
 injection hx1 with _ hx1
 subst xi
 refine bcase_dec (fun h1=>?_) fun h1=>?_
 ·refine needs_of (by omega) (ptr_of (a:=⟨b,0,none⟩) ?_)
  have step:∀ r:Int,hcell h ⟨b,i,none⟩=some (.int .i64 r)->(r≠0->(if r1≠0 then r1 else if r2≠0 then r2 else r3)=r)->(r=0->(0<i+1->r1=0)/\(1<i+1->r2=0)/\(2<i+1->r3=0))->ldI h ((⟨b,0,none⟩:Addr).add (((i:Nat):Int).toNat*1)) .i64 fun x_8=>bcase (x_8 != (0:Int)) (K (.int .i64 x_8) h)<|bindI (IntKind.i64.wrap ((i:Nat)+(1:Int))) fun z_9=>∃ m_2,m_2<m/\∃ i:Nat,i+m_2=3/\h=h/\[Value.int .i64 z_9]=[.int .i64 (i:Nat)]/\(0<i->r1=0)/\(1<i->r2=0)/\(2<i->r3=0):=fun r hc e1 e2=>by
   rw [Int.toNat_natCast,Nat.mul_one,add_mk,Nat.zero_add]
   refine ldI_of hc (bcase_ne (fun h2=>?_) fun h2=>?_)
   ·rw [<- e1 h2]; exact hk
   ·refine bindI_of ((i+1:Nat):Int) (by exact i64_at _ _ (by omega) (by omega) (by omega)) ?_
    exact ⟨m-1,by omega,i+1,by omega,rfl,rfl,e2 h2⟩
  rcases (by omega:i=0\/i=1\/i=2) with rfl | rfl | rfl
  ·exact step r1 c0 (fun h=>by rw [if_pos h]) fun h=>⟨fun _=>h,by omega,by omega⟩
  ·exact step r2 c1 (fun h=>by rw [if_neg (by simp [g1 (by omega)]),if_pos h]) fun h=>⟨fun _=>g1 (by omega),fun _=>h,by omega⟩
  ·exact step r3 c2 (fun h=>by rw [if_neg (by simp [g1 (by omega)]),if_neg (by simp [g2 (by omega)])]) fun h=>⟨fun _=>g1 (by omega),fun _=>g2 (by omega),fun _=>h⟩
 ·have e:i=3:=by omega
  rw [if_neg (by simp [g1 (by omega)]),if_neg (by simp [g2 (by omega)]),g3 (by omega)] at hk
  exact hk
theorem key_cmp {a b:Key} {r1 r2 r3:Int} (h1:CmpR a.s b.s r1) (h2:CmpR a.x b.x r2) (h3:CmpR a.y b.y r3):(if r1≠0 then r1 else if r2≠0 then r2 else r3)<0↔a.lt b:=by
 unfold CmpR at *
 unfold Key.lt
 split
 ·omega
 ·split <;> omega
end
section
variable {h0:Heap} {F:List Nat} {B:List Ent} {b:Nat} {rest:List Value} {Kp:PK}
theorem cmp_ok {cap0:Addr} {st:Nat} (hst:st<=3) (hcap:∀ h O,Hp h0 F h (IRow b O rest::B)->hcell h cap0=some (.int .i64 (st:Nat))) :
  CmpOk h0 F B b rest (keyO st) (.func (.func F_text_Sorted_c1) #[] #[.pointer (some cap0)]) Kp:=by
 intro h O H o o' K hk
 have hc:=hcap h O H
 show CP F_text_Sorted_c1 #[o.ag,o'.ag, .pointer (some cap0)] h K Kp
 refine call_text_Sorted_c1 ?_
 unfold text_Sorted_c1
 clear H
 have H:=Hp.nil h []
 refine newC_hp H fun r1 h H=>?_
 refine newC_hp H fun r2 h H=>?_
 have H:Hp _ [] h [⟨r1,true,T_api_Instance,o.cs⟩,⟨r2,true,T_api_Instance,o'.cs⟩]:=H
 have hc':=H.hext.cell hc
 refine ldI_of (hpA H 0 rfl rfl) (ldI_of hc' (needs_of (by omega) ?_))
 refine bindI_of _ (shr_flo (by omega)) ?_
 refine ldI_of (hpA H 1 rfl rfl) (ldI_of hc' (needs_of (by omega) ?_))
 refine bindI_of _ (shr_flo (by omega)) ?_
 refine ldI_of (hpA H 0 rfl rfl) (ldI_of (hpA H 1 rfl rfl) (ldI_of (hpA H 0 rfl rfl) (ldI_of (hpA H 1 rfl rfl) ?_)))
 refine compare_ok fun r1 g1=>⟨_,rfl,hext.refl _,?_⟩
 refine compare_ok fun r2 g2=>⟨_,rfl,hext.refl _,?_⟩
 refine compare_ok fun r3 g3=>⟨_,rfl,?_⟩
 refine newC_hp H fun r4 h H=>?_
 have H:Hp _ [] h [⟨_,true,T_api_Instance,o.cs⟩,⟨_,true,T_api_Instance,o'.cs⟩,⟨r4,true,T_int,[.int .i64 r1, .int .i64 r2, .int .i64 r3]⟩]:=H
 refine or_ok (H.cell 2 rfl rfl) (H.cell 2 rfl rfl) (H.cell 2 rfl rfl) ⟨_,rfl,?_⟩
 exact hk _ h (key_cmp (a:=keyO st o) (b:=keyO st o') g1 g2 g3) H.hext
end
end Go.Bm
namespace Go.Bm
open Go Go.Den Go.Den.YtbknfejmdekhpaaGreat
instance (a b:Key):Decidable (Key.lt a b):=by unfold Key.lt; infer_instance
section
variable {α β:Type}
def insK (key:α->Key) (x:α):List α->List α
 | []=>[x]
 | y::l=>if (key y).lt (key x) then y::insK key x l else x::y::l
def srtK (key:α->Key):List α->List α
 | []=>[]
 | x::l=>insK key x (srtK key l)
variable {key:α->Key}
theorem insK_sw (x:α):∀ l,Sw key (x::l) (insK key x l)
 | [] => .refl _
 | y::l=>by
  unfold insK
  split
  ·rename_i h
   have h1:=Sw.swap (key:=key) [] l x y (fun hh=>by rw [hh] at h; exact Key.lt_irrefl _ h)
   have h2:=(insK_sw x l).ctx [y] []
   simp only [List.nil_append,List.append_nil,List.cons_append] at h1 h2
   exact .trans h1 h2
  ·exact .refl _
theorem insK_srt (x:α):∀ {l},Srt key l->Srt key (insK key x l)
 | [],_=>List.pairwise_singleton _ _
 | y::l,h=>by
  have h0:=List.pairwise_cons.1 h
  unfold insK
  split
  ·rename_i h1
   refine List.pairwise_cons.2 ⟨fun z hz=>?_,insK_srt x h0.2⟩
   rcases List.mem_cons.1 (((insK_sw (key:=key) x l).mem z).1 hz) with rfl | hz
   ·exact fun hh=>Key.lt_irrefl _ (Key.lt_trans hh h1)
   ·exact h0.1 z hz
  ·rename_i h1
   refine List.pairwise_cons.2 ⟨fun z hz=>?_,h⟩
   rcases List.mem_cons.1 hz with rfl | hz
   ·exact h1
   ·exact Key.le_trans h1 (h0.1 z hz)
theorem srtK_ok:∀ l:List α,Sw key l (srtK key l)/\Srt key (srtK key l)
 | []=>⟨.refl _,List.Pairwise.nil⟩
 | x::l=>by
  obtain ⟨h1,h2⟩:=srtK_ok l
  have:=h1.ctx [x] []
  simp only [List.nil_append,List.append_nil,List.cons_append] at this
  exact ⟨.trans this (insK_sw x _),insK_srt x h2⟩
theorem srtK_one {l r:List α} (h1:Sw key l r) (h2:Srt key r):r=srtK key l:=Sw.one h1 (srtK_ok l).1 h2 (srtK_ok l).2
theorem Sw.map {f:β->α} {l r:List β} (h:Sw (fun b=>key (f b)) l r):Sw key (l.map f) (r.map f):=by
 induction h with
 | refl=>exact .refl _
 | swap A B a b h =>
  rw [List.map_append,List.map_append]
  exact .swap _ _ _ _ h
 | trans _ _ h1 h2=>exact .trans h1 h2
theorem Srt.map {f:β->α} {l:List β} (h:Srt (fun b=>key (f b)) l):Srt key (l.map f):=List.pairwise_map.2 h
theorem Sw.perm {l r:List α} (h:Sw key l r):l.Perm r:=by
 induction h with
 | refl=>exact .refl _
 | swap A B a b h=>exact List.Perm.append_left A (List.Perm.swap b a B)
 | trans _ _ h1 h2=>exact h1.trans h2
end
def srtI (st:Nat) (l:List Ins):List Ins:=srtK (keyI st) l
structure OwI.Vw (h:Heap) (o:OwI):Prop where
 r:rdO h o.q (o.i.b.ws.length*1) (u64s o.i.b.ws)
 w:W64 o.i.b.ws
 l:o.i.b.ws.length<140737488351300
structure OwI.Ok (o:OwI):Prop where
 s:Slot T_uint64 1 o.D o.q o.i.b.ws.length o.c (u64s o.i.b.ws)
 w:W64 o.i.b.ws
 l:o.i.b.ws.length<140737488351300
theorem OwI.Vw.ext {h h':Heap} {o:OwI} (H:o.Vw h) (e:hext h h'):o.Vw h':=⟨rdO_ext e H.r,H.w,H.l⟩
def InsV (h:Heap) (q:Option Addr) (l:List Ins):Prop:=∃ O:List OwI,O.map OwI.i=l/\rdO h q (l.length*7) (csI O)/\∀ o∈O,o.Vw h
theorem InsV.ext {h h':Heap} {q:Option Addr} {l:List Ins} (H:InsV h q l) (e:hext h h'):InsV h' q l:=by
 obtain ⟨O,h1,h2,h3⟩:=H
 exact ⟨O,h1,rdO_ext e h2,fun o ho=>(h3 o ho).ext e⟩
def dsI (O:List OwI):List Ent:=O.flatMap OwI.D
theorem dsI_w {O:List OwI} (h:∀ o∈O,o.Ok):(dsI O).all Ent.w=true:=List.all_eq_true.2 fun e he=>by
 obtain ⟨o,ho,he⟩:=List.mem_flatMap.1 he
 exact List.all_eq_true.1 (h o ho).s.w e he
theorem dsI_mem {O:List OwI} {o:OwI} (h:o∈O):∀ e∈o.D,e∈dsI O:=fun e he=>List.mem_flatMap.2 ⟨o,h,he⟩
def ListI (R:List Ent) (q:Option Addr) (c:Nat) (l:List Ins):Prop:=∃ O E,(∀ o∈O,o.Ok)/\O.map OwI.i=l/\Slot T_api_Instance 7 E q l.length c (csI O)/\R=dsI O++E
theorem ListI.w {R:List Ent} {q:Option Addr} {c:Nat} {l:List Ins} (h:ListI R q c l):R.all Ent.w=true:=by
 obtain ⟨O,E,h1,h2,h3,rfl⟩:=h
 rw [List.all_append,dsI_w h1,h3.w]
 rfl
theorem ListI.view {h0 h:Heap} {F:List Nat} {L R:List Ent} {q:Option Addr} {c:Nat} {l:List Ins} (hl:ListI R q c l) (H:Hp h0 F h L) (hs:∀ e∈R,e∈L):InsV h q l:=by
 obtain ⟨O,E,h1,h2,h3,rfl⟩:=hl
 exact ⟨O,h2,Slot.rdO' h3 H fun e he=>hs e (List.mem_append_right _ he),fun o ho=>⟨Slot.rdO' (h1 o ho).s H fun e he=>hs e (List.mem_append_left _ (dsI_mem ho e he)),(h1 o ho).w,(h1 o ho).l⟩⟩
theorem ListI.nil:ListI [] none 0 []:=⟨[],[],(fun o ho=>by cases ho),rfl,Slot.nil _ _,rfl⟩
theorem csI_set6:∀ (O:List OwI) (rest:List Value) (i:Nat) (o:OwI) (q:Option Addr) (c:Nat) (D:List Ent),O[i]? = some o->(csI O++rest).set (i*7+6) (.slice q o.i.b.ws.length c)=csI (O.set i ⟨o.i,q,c,D⟩)++rest
 | [],_,i,o,q,c,D,h=>by cases h
 | o'::O,rest,0,o,q,c,D,h=>by
  injection h with h
  subst h
  rfl
 | o'::O,rest,i+1,o,q,c,D,h=>by
  rw [csI_cons,List.append_assoc,csI_setj,csI_set6 O rest i o q c D h]
  rfl
section
variable {hB:Heap} {K:VK} {Kp:PK}
theorem clone7_ok {q:Option Addr} {c:Nat} {O:List OwI} (hr:rdO hB q (O.length*7) (csI O)) (hl:O.length<=1000000) (hk:∀ E q' c' h',Slot T_api_Instance 7 E q' O.length c' (csI O)->Hp hB [] h' E->K (.slice q' O.length c') h') :
  CP F_slices_Clone_api_Instance_api_Instance #[.slice q O.length c] hB K Kp:=by
 refine call_slices_Clone_api_Instance_api_Instance ?_
 unfold slices_Clone_api_Instance_api_Instance
 cases q with
 | none =>
  have h0:csI O=[]:=hr
  have h1:O.length=0:=by
   have:=csI_len O
   rw [h0] at this
   simp only [List.length_nil] at this
   omega
  refine bcase_true (by rfl) ?_
  have hk:=hk [] none 0 hB (by rw [h0,h1]; exact Slot.nil _ _) (Hp.nil hB [])
  rw [h1] at hk
  exact hk
 | some a =>
  refine bcase_false (by rfl) ?_
  have H:=Hp.nil hB []
  refine newC_hp H fun r1 h H=>?_
  have hs0:Slot T_api_Instance 7 [⟨r1,true,T_api_Instance,[]++[]⟩] (some ⟨r1,0,none⟩) 0 0 []:=Slot.one rfl rfl
  have H:Hp hB [] h ([]++([⟨r1,true,T_api_Instance,[]++[]⟩]++[])):=H
  refine Slot.appN (m:=O.length) (new:=csI O) hs0 H rfl (by decide) (H.rdO hr) (csI_len O) (csI_cells O) (by omega) fun D q' c' h' hs H=>?_
  rw [Nat.zero_add,List.nil_append] at hs
  rw [Nat.zero_add]
  rw [List.nil_append,List.append_nil] at H
  exact hk D q' c' h' hs H
theorem sortNil_ok {q:Option Addr} {c:Nat} {cmp:Value} (hk:K (.tuple #[]) hB):CP F_slices_SortStableFunc_api_Instance_api_Instance #[.slice q 0 c,cmp] hB K Kp:=by
 refine call_slices_SortStableFunc_api_Instance_api_Instance ?_
 unfold slices_SortStableFunc_api_Instance_api_Instance
 refine call_slices_stableCmpFunc_api_Instance ?_
 unfold slices_stableCmpFunc_api_Instance
 refine ⟨fun m vs h'=>vs=[.int .i64 0, .int .i64 20]/\h'=hB,⟨0,rfl,rfl⟩,?_⟩
 rintro m h u xa xb ⟨hxx,rfl⟩
 injection hxx with hx1 hxx
 injection hxx with hx2 hxx
 injection hx1 with _ hx1
 injection hx2 with _ hx2
 subst xa xb
 refine bcase_false rfl ?_
 refine call_slices_insertionSortCmpFunc_api_Instance ?_
 unfold slices_insertionSortCmpFunc_api_Instance
 refine bindI_of 1 rfl ?_
 refine ⟨fun m vs h'=>vs=[.int .i64 1]/\h'=h,⟨0,rfl,rfl⟩,?_⟩
 rintro m h' u xi ⟨hxx,rfl⟩
 injection hxx with hx1 hxx
 injection hx1 with _ hx1
 subst xi
 refine bcase_false rfl ?_
 refine ⟨fun m vs h''=>vs=[.int .i64 20]/\h''=h',⟨0,rfl,rfl⟩,?_⟩
 rintro m h u xi ⟨hxx,rfl⟩
 injection hxx with hx1 hxx
 injection hx1 with _ hx1
 subst xi
 exact bcase_false rfl hk
end
end Go.Bm
namespace Go.Bm
open Go Go.Den Go.Den.YtbknfejmdekhpaaGreat
def stOf (s:Int):Nat:=if s<0 then 0 else if s > 3 then 0 else s.toNat
theorem stOf_le (s:Int):stOf s<=3:=by
 unfold stOf
 split
 ·omega
 ·split <;> omega
structure Reg14 where
 x:Int
 y:Int
 w:Int
 h:Int
 op:Int
 rf:Bool
 df:Int
 st:Int
abbrev Reg14.cs (t:Reg14) (q:Option Addr) (n c:Nat):List Value:=[.int .i64 t.x, .int .i64 t.y, .int .i64 t.w, .int .i64 t.h, .int .i64 t.op, .bool t.rf, .int .i64 t.df, .int .i64 t.st, .slice q n c]
abbrev Reg14.ag (t:Reg14) (q:Option Addr) (n c:Nat):Value := .agg #[.int .i64 t.x, .int .i64 t.y, .int .i64 t.w, .int .i64 t.h, .int .i64 t.op, .bool t.rf, .int .i64 t.df, .int .i64 t.st, .slice q n c]
section
variable {hB:Heap} {K:VK} {Kp:PK}
set_option maxHeartbeats 1000000 in
theorem sortedP_ok {t:Reg14} {q:Option Addr} {c:Nat} {l:List Ins} (hv:InsV hB q l) (hl:l.length<=1000000) (hw:∀ t∈l,t.b.ws.length<=1000000000000) (hk:∀ R q' c' h',ListI R q' c' (srtI (stOf t.st) l)->Hp hB [] h' R->K (.slice q' l.length c') h') :
  CP F_text_Sorted #[t.ag q l.length c] hB K Kp:=by
 refine call_text_Sorted ?_
 unfold text_Sorted
 have H:=Hp.nil hB []
 refine newC_hp H fun r10 h H=>?_
 have H:Hp hB [] h [⟨r10,true,T_api_Text,t.cs q l.length c⟩]:=H
 refine ldI_of (hpA H 0 rfl rfl) ?_
 refine newC_hp H fun r13 h H=>?_
 have H:Hp hB [] h [⟨r10,true,T_api_Text,t.cs q l.length c⟩,⟨r13,true,T_int,[.int .i64 0]⟩]:=H
 repeat first | with_reducible refine stA H 1 (by with_unfolding_all exact rfl) (by with_unfolding_all exact rfl) (by with_unfolding_all exact rfl) fun h H=>?_ | with_reducible refine st0 H 1 (by with_unfolding_all exact rfl) (by with_unfolding_all exact rfl) (by with_unfolding_all exact rfl) fun h H=>?_ | with_reducible refine stB H 1 (by with_unfolding_all exact rfl) (by with_unfolding_all exact rfl) (by with_unfolding_all exact rfl) fun h H=>?_
 have H:Hp hB [] h [⟨r10,true,T_api_Text,t.cs q l.length c⟩,⟨r13,true,T_int,[.int .i64 t.st]⟩]:=H
 refine ⟨fun _ h'=>Hp hB [] h' [⟨r10,true,T_api_Text,t.cs q l.length c⟩,⟨r13,true,T_int,[.int .i64 (stOf t.st:Nat)]⟩],?_,?_⟩
 ·refine ldI_of (H.cell 1 rfl rfl) (bcase_dec (fun h1=>?_) fun h1=>?_)
  ·repeat first | with_reducible refine stA H 1 (by with_unfolding_all exact rfl) (by with_unfolding_all exact rfl) (by with_unfolding_all exact rfl) fun h H=>?_ | with_reducible refine st0 H 1 (by with_unfolding_all exact rfl) (by with_unfolding_all exact rfl) (by with_unfolding_all exact rfl) fun h H=>?_ | with_reducible refine stB H 1 (by with_unfolding_all exact rfl) (by with_unfolding_all exact rfl) (by with_unfolding_all exact rfl) fun h H=>?_
   have e:stOf t.st=0:=if_pos h1
   rw [e]
   exact H
  ·refine ldI_of (H.cell 1 rfl rfl) (bcase_dec (fun h2=>?_) fun h2=>?_)
   ·repeat first | with_reducible refine stA H 1 (by with_unfolding_all exact rfl) (by with_unfolding_all exact rfl) (by with_unfolding_all exact rfl) fun h H=>?_ | with_reducible refine st0 H 1 (by with_unfolding_all exact rfl) (by with_unfolding_all exact rfl) (by with_unfolding_all exact rfl) fun h H=>?_ | with_reducible refine stB H 1 (by with_unfolding_all exact rfl) (by with_unfolding_all exact rfl) (by with_unfolding_all exact rfl) fun h H=>?_
    have e:stOf t.st=0:=(if_neg h1).trans (if_pos h2)
    rw [e]
    exact H
   ·have e:stOf t.st=t.st.toNat:=(if_neg h1).trans (if_neg h2)
    have e2:((stOf t.st:Nat):Int)=t.st:=by omega
    rw [e2]
    exact H
 clear H
 intro h u H
 refine ldS_of (hpA H 0 rfl rfl) ?_
 obtain ⟨O,rfl,hr,hvw⟩:=hv
 rw [List.length_map] at hr hl hk H ⊢
 refine clone7_ok (H.rdO hr) hl fun E q' c' h' hsl H'=>?_
 refine ⟨_,_,_,rfl,?_⟩
 replace H:=H.join H' hsl.w
 clear H'
 obtain ⟨hsl1,⟨rfl,rfl,hn0,rfl⟩ | ⟨b,rest,rfl,rfl,hc⟩⟩:=hsl
 ·obtain rfl:=List.eq_nil_of_length_eq_zero hn0
  refine ⟨fun m vs h'=>vs=[.int .i64 0]/\Hp hB [] h' [],⟨0,rfl,Hp.suf (X:=[⟨r10,true,T_api_Text,t.cs q 0 c⟩,⟨r13,true,T_int,[.int .i64 (stOf t.st:Nat)]⟩]) H⟩,?_⟩
  rintro m h u xi ⟨hxx,H⟩
  injection hxx with hx1 hxx
  injection hx1 with _ hx1
  subst xi
  refine bcase_false rfl ?_
  refine sortNil_ok ?_
  exact hk [] none 0 h ListI.nil H
 ·have H:Hp hB [] h' ([⟨r10,true,T_api_Text,t.cs q O.length c⟩,⟨r13,true,T_int,[.int .i64 (stOf t.st:Nat)]⟩]++[IRow b O rest]):=H
  have H:=Hp.rot (X:=[⟨r10,true,T_api_Text,t.cs q O.length c⟩,⟨r13,true,T_int,[.int .i64 (stOf t.st:Nat)]⟩]) (Y:=[IRow b O rest]) H
  have H:Hp hB [] h' (IRow b O rest::([⟨r10,true,T_api_Text,t.cs q O.length c⟩,⟨r13,true,T_int,[.int .i64 (stOf t.st:Nat)]⟩]++dsI (O.take 0))):=H
  obtain ⟨n,hn⟩:∃ n,n=O.length:=⟨_,rfl⟩
  rw [<- hn]
  refine ⟨fun m vs h'=>∃ (i:Nat) (P:List OwI),i+m=n/\P.map OwI.i=O.map OwI.i/\P.length=n/\(∀ o∈P.take i,o.Ok)/\(∀ o∈P.drop i,o.Vw hB)/\vs=[.int .i64 (i:Nat)]/\Hp hB [] h' (IRow b P rest::([⟨r10,true,T_api_Text,t.cs q O.length c⟩,⟨r13,true,T_int,[.int .i64 (stOf t.st:Nat)]⟩]++dsI (P.take i))),
   ⟨n,0,O,by omega,rfl,hn.symm,(fun o ho=>by rw [List.take_zero] at ho; cases ho),hvw,rfl,H⟩,?_⟩
  clear H
  rintro m h u xi ⟨i,P,him,hP,hPl,hok,hvP,hxx,H⟩
  injection hxx with hx1 hxx
  injection hx1 with _ hx1
  subst xi
  refine bcase_dec (fun h1=>?_) fun h1=>?_
  ·obtain ⟨o,ho⟩:∃ o,P[i]? = some o:=⟨_,List.getElem?_eq_getElem (by omega)⟩
   have hov:=hvP o (by
    refine List.mem_iff_getElem?.2 ⟨0,?_⟩
    rw [List.getElem?_drop]
    exact ho)
   refine needs_of (by omega) (ptr_of (a:=⟨b,0,none⟩) ?_)
   rw [Int.toNat_natCast]
   simp only [add_mk,Nat.zero_add]
   have hcell:hcell h ⟨b,i*7+4+2,none⟩=some (.slice o.q o.i.b.ws.length o.c):=H.cell 0 rfl (csI_get P rest i 6 o ho (by decide))
   refine ldS_of hcell ?_
   have hov':=hov.ext H.hext
   refine cloneB_ok (b:=o.i.b) hov'.r hov'.w (hw _ (by rw [<- hP]; exact List.mem_map.2 ⟨o,List.mem_of_getElem? ho,rfl⟩)) fun o1 h' h1ok h1b H'=>?_
   refine ⟨_,_,_,rfl,?_⟩
   replace H:=H.join H' h1ok.s.w
   clear H'
   refine needs_of (by omega) (ptr_of (a:=⟨b,0,none⟩) ?_)
   simp only [add_mk,Nat.zero_add]
   have hlen:(csI P++rest).length=P.length*7+rest.length:=by rw [List.length_append,csI_len]
   refine stV_hp H 0 rfl (by rw [hlen]; omega) rfl fun h _ H=>?_
   refine bindI_of ((i+1:Nat):Int) (by exact i64_at _ _ (by omega) (by omega) (by omega)) ?_
   have hset:(csI P++rest).set (i*7+6) (.slice o1.q o.i.b.ws.length o1.c)=csI (P.set i ⟨o.i,o1.q,o1.c,o1.D⟩)++rest:=csI_set6 P rest i o o1.q o1.c o1.D ho
   have htk:(P.set i ⟨o.i,o1.q,o1.c,o1.D⟩).take (i+1)=P.take i++[⟨o.i,o1.q,o1.c,o1.D⟩]:=by
    rw [take_snocG (x:=⟨o.i,o1.q,o1.c,o1.D⟩) (by rw [List.getElem?_set_self (by omega)]),List.take_set_of_le (Nat.le_refl _)]
   have hok1:(⟨o.i,o1.q,o1.c,o1.D⟩:OwI).Ok:=by
    have g1:=h1ok.s
    rw [h1b] at g1
    exact ⟨g1,hov.w,hov.l⟩
   refine ⟨m-1,by omega,i+1,P.set i ⟨o.i,o1.q,o1.c,o1.D⟩,by omega,?_,by rw [List.length_set]; exact hPl,?_,?_,rfl,?_⟩
   ·rw [List.map_set,<- hP]
    refine List.ext_getElem? fun k=>?_
    rcases Nat.lt_trichotomy k i with hk | hk | hk
    ·rw [List.getElem?_set_ne (by omega)]
    ·subst hk
     rw [List.getElem?_set_self (by rw [List.length_map]; omega),List.getElem?_map,ho]
     rfl
    ·rw [List.getElem?_set_ne (by omega)]
   ·intro x hx
    rw [htk] at hx
    rcases List.mem_append.1 hx with hx | hx
    ·exact hok x hx
    ·rw [List.mem_singleton.1 hx]; exact hok1
   ·intro x hx
    refine hvP x ?_
    rw [List.drop_set_of_lt (by omega)] at hx
    obtain ⟨k,hk⟩:=List.mem_iff_getElem?.1 hx
    rw [List.getElem?_drop] at hk
    refine List.mem_iff_getElem?.2 ⟨k+1,?_⟩
    rw [List.getElem?_drop,<- hk]
    congr 1
    omega
   ·rw [htk]
    have e:dsI (P.take i++[⟨o.i,o1.q,o1.c,o1.D⟩])=dsI (P.take i)++o1.D:=by
     unfold dsI
     rw [List.flatMap_append]
     simp
    rw [e,show IRow b (P.set i ⟨o.i,o1.q,o1.c,o1.D⟩) rest=⟨b,true,T_api_Instance,(csI P++rest).set (i*7+6) (.slice o1.q o.i.b.ws.length o1.c)⟩ from congrArg (Ent.mk b true T_api_Instance) hset.symm]
    exact H
  ·obtain rfl:i=n:=by omega
   rw [List.take_of_length_le (by omega)] at hok H
   refine sortStable_ok (key:=keyO (stOf t.st)) (cmp_ok (stOf_le _) fun h O H=>H.cell 2 rfl rfl) hPl.symm (by omega) H fun Z h' hsw hs H=>?_
   have hZ:Z.map OwI.i=srtI (stOf t.st) (O.map OwI.i):=by
    rw [<- hP]
    exact srtK_one (Sw.map (key:=keyI (stOf t.st)) (f:=OwI.i) hsw) (Srt.map (key:=keyI (stOf t.st)) (f:=OwI.i) hs)
   have hZl:=hsw.length
   have hokZ:∀ o∈Z,o.Ok:=fun o ho=>hok o ((hsw.mem o).1 ho)
   have hrl:(csI Z++rest).length=c'*7:=by
    rw [<- hc,List.length_append,List.length_append,csI_len,csI_len,hZl,hPl,hn]
   have hsl:Slot T_api_Instance 7 [IRow b Z rest] (some ⟨b,0,none⟩) (srtI (stOf t.st) (O.map OwI.i)).length c' (csI Z):=Slot.one (by rw [csI_len,<- hZ,List.length_map]) hrl
   rw [hn]
   refine hk (dsI Z++[IRow b Z rest]) _ _ _ ⟨Z,_,hokZ,hZ,hsl,rfl⟩ ?_
   have H:=Hp.suf (X:=[⟨r10,true,T_api_Text,t.cs q O.length c⟩,⟨r13,true,T_int,[.int .i64 (stOf t.st:Nat)]⟩]) (Y:=dsI P++[IRow b Z rest]) (H.perm (by
    exact List.perm_append_comm (l₁:=[IRow b Z rest]) (l₂:=⟨r10,true,T_api_Text,t.cs q O.length c⟩::⟨r13,true,T_int,[.int .i64 (stOf t.st:Nat)]⟩::dsI P)))
   exact H.perm (List.Perm.append_right _ (List.Perm.flatMap_right _ hsw.perm))
end
end Go.Bm
namespace Go.Den.YtbknfejmdekhpaaGreat
open Go Go.Den
def burinref14_Bad (C:CallP) (t_1:Int) (t_2:Int) (t_3:Int) (t_4:Int) (t_5:Int) (t_6:Bool) (t_7:Int) (t_8:Int) (t_9:Option Addr) (t_9n:Nat) (t_9c:Nat) (symbols:Option Addr) (symbolsn:Nat) (symbolsc:Nat) (h:Heap) (K:VK) (Kp:PK):Prop :=
newC h [.int .i64 t_1, .int .i64 t_2, .int .i64 t_3, .int .i64 t_4, .int .i64 t_5, .bool t_6, .int .i64 t_7, .int .i64 t_8, .slice t_9 t_9n t_9c] T_api_Text fun r_10 h_11 =>
C F_burinref14_mayAll #[.slice symbols symbolsn symbolsc] h_11 (fun v_12 h_13 =>
∃ (r_14:Bool),v_12 = .bool r_14/\(
bcase (!r_14) (
K (.int .i64 140) h_13) <|
ldI h_13 ((⟨r_10,0,none⟩:Addr).add 2) .i64 fun x_15 =>
ldI h_13 ((⟨r_10,0,none⟩:Addr).add 3) .i64 fun x_16 =>
C F_burinref0_Size #[.int .i64 x_15, .int .i64 x_16] h_13 (fun v_17 h_18 =>
∃ (r_19:Bool),v_17 = .bool r_19/\(
bcase (!r_19) (
K (.int .i64 140) h_18) <|
ldI h_18 ((⟨r_10,0,none⟩:Addr).add 0) .i64 fun x_20 =>
bcase (decide (x_20<(0:Int))) (
K (.int .i64 140) h_18) <|
ldI h_18 ((⟨r_10,0,none⟩:Addr).add 1) .i64 fun x_21 =>
bcase (decide (x_21<(0:Int))) (
K (.int .i64 140) h_18) <|
ldI h_18 ((⟨r_10,0,none⟩:Addr).add 0) .i64 fun x_22 =>
bcase (decide (x_22 > (1048576:Int))) (
K (.int .i64 140) h_18) <|
ldI h_18 ((⟨r_10,0,none⟩:Addr).add 1) .i64 fun x_23 =>
bcase (decide (x_23 > (1048576:Int))) (
K (.int .i64 140) h_18) <|
ldI h_18 ((⟨r_10,0,none⟩:Addr).add 4) .i64 fun x_24 =>
bcase (decide (x_24<(0:Int))) (
K (.int .i64 140) h_18) <|
ldI h_18 ((⟨r_10,0,none⟩:Addr).add 4) .i64 fun x_25 =>
bcase (decide (x_25 > (4:Int))) (
K (.int .i64 140) h_18) <|
ldI h_18 ((⟨r_10,0,none⟩:Addr).add 6) .i64 fun x_26 =>
bcase (decide (x_26<(0:Int))) (
K (.int .i64 140) h_18) <|
ldI h_18 ((⟨r_10,0,none⟩:Addr).add 6) .i64 fun x_27 =>
bcase (decide (x_27 > (1:Int))) (
K (.int .i64 140) h_18) <|
ldI h_18 ((⟨r_10,0,none⟩:Addr).add 7) .i64 fun x_28 =>
bcase (decide (x_28<(0:Int))) (
K (.int .i64 140) h_18) <|
ldI h_18 ((⟨r_10,0,none⟩:Addr).add 7) .i64 fun x_29 =>
bcase (decide (x_29 > (3:Int))) (
K (.int .i64 140) h_18) <|
∃ J_30:Nat->List Value->Heap->Prop,(∃ n_32,J_30 n_32 [.int .i64 0, .int .i64 0] h_18)/\∀ (n_32:Nat) (h_33:Heap) (u_34:Nat->Value) (area_35:Int) (i_36:Int),J_30 n_32 [.int .i64 area_35, .int .i64 i_36] h_33->(
ldS h_33 ((⟨r_10,0,none⟩:Addr).add 8) fun x_37 x_37n x_37c =>
bcase (decide (i_36<(x_37n:Int))) (
ldI h_33 ((⟨r_10,0,none⟩:Addr).add 0) .i64 fun x_38 =>
ldI h_33 ((⟨r_10,0,none⟩:Addr).add 1) .i64 fun x_39 =>
ldI h_33 ((⟨r_10,0,none⟩:Addr).add 2) .i64 fun x_40 =>
ldI h_33 ((⟨r_10,0,none⟩:Addr).add 3) .i64 fun x_41 =>
ldI h_33 ((⟨r_10,0,none⟩:Addr).add 4) .i64 fun x_42 =>
ldB h_33 ((⟨r_10,0,none⟩:Addr).add 5) fun x_43 =>
ldI h_33 ((⟨r_10,0,none⟩:Addr).add 6) .i64 fun x_44 =>
ldI h_33 ((⟨r_10,0,none⟩:Addr).add 7) .i64 fun x_45 =>
ldS h_33 ((⟨r_10,0,none⟩:Addr).add 8) fun x_46 x_46n x_46c =>
ldS h_33 ((⟨r_10,0,none⟩:Addr).add 8) fun x_47 x_47n x_47c =>
needs (0<=i_36/\i_36<(x_47n:Int)) <|
ptr x_47 fun a_48 =>
ldI h_33 ((a_48.add (i_36.toNat*7)).add 0) .i64 fun x_49 =>
ldI h_33 ((a_48.add (i_36.toNat*7)).add 1) .i64 fun x_50 =>
ldI h_33 ((a_48.add (i_36.toNat*7)).add 2) .i64 fun x_51 =>
ldB h_33 ((a_48.add (i_36.toNat*7)).add 3) fun x_52 =>
ldI h_33 ((a_48.add (i_36.toNat*7)).add 4) .i64 fun x_53 =>
ldI h_33 ((a_48.add (i_36.toNat*7)).add 5) .i64 fun x_54 =>
ldS h_33 ((a_48.add (i_36.toNat*7)).add 6) fun x_55 x_55n x_55c =>
C F_burinref14_mayInstance #[.agg #[.int .i64 x_38, .int .i64 x_39, .int .i64 x_40, .int .i64 x_41, .int .i64 x_42, .bool x_43, .int .i64 x_44, .int .i64 x_45, .slice x_46 x_46n x_46c], .agg #[.int .i64 x_49, .int .i64 x_50, .int .i64 x_51, .bool x_52, .int .i64 x_53, .int .i64 x_54, .slice x_55 x_55n x_55c], .slice symbols symbolsn symbolsc] h_33 (fun v_56 h_57 =>
∃ (r_58:Bool),v_56 = .bool r_58/\(
bcase (!r_58) (
K (.int .i64 140) h_57) <|
ldS h_57 ((⟨r_10,0,none⟩:Addr).add 8) fun x_59 x_59n x_59c =>
needs (0<=i_36/\i_36<(x_59n:Int)) <|
ptr x_59 fun a_60 =>
ldI h_57 (((a_60.add (i_36.toNat*7)).add 4).add 0) .i64 fun x_61 =>
ldS h_57 ((⟨r_10,0,none⟩:Addr).add 8) fun x_62 x_62n x_62c =>
needs (0<=i_36/\i_36<(x_62n:Int)) <|
ptr x_62 fun a_63 =>
ldI h_57 (((a_63.add (i_36.toNat*7)).add 4).add 1) .i64 fun x_64 =>
bindI (IntKind.i64.wrap (x_61*x_64)) fun z_65 =>
bindI (IntKind.i64.wrap (area_35+z_65)) fun z_66 =>
bindI (IntKind.i64.wrap (i_36+(1:Int))) fun z_67 =>
∃ m_31,m_31<n_32/\J_30 m_31 [.int .i64 z_66, .int .i64 z_67] h_57)) (Kp)) <|
bcase (decide ((symbolsn:Int) > (4096:Int))) (
K (.int .i64 120) h_33) <|
ldS h_33 ((⟨r_10,0,none⟩:Addr).add 8) fun x_68 x_68n x_68c =>
bcase (decide ((x_68n:Int) > (16384:Int))) (
K (.int .i64 120) h_33) <|
bcase (decide (area_35 > (1048576:Int))) (
K (.int .i64 120) h_33) <|
K (.int .i64 0) h_33))) (Kp))) (Kp)
def burinref14_mayAll (C:CallP) (l:Option Addr) (ln:Nat) (lc:Nat) (h:Heap) (K:VK) (Kp:PK):Prop :=
∃ J_1:Nat->List Value->Heap->Prop,(∃ n_3,J_1 n_3 [.int .i64 0] h)/\∀ (n_3:Nat) (h_4:Heap) (u_5:Nat->Value) (i_6:Int),J_1 n_3 [.int .i64 i_6] h_4->(
bcase (decide (i_6<(ln:Int))) (
needs (0<=i_6/\i_6<(ln:Int)) <|
ptr l fun a_7 =>
ldI h_4 ((a_7.add (i_6.toNat*3)).add 0) .i64 fun x_8 =>
ldI h_4 ((a_7.add (i_6.toNat*3)).add 1) .i64 fun x_9 =>
ldS h_4 ((a_7.add (i_6.toNat*3)).add 2) fun x_10 x_10n x_10c =>
C F_burinref0_May #[.agg #[.int .i64 x_8, .int .i64 x_9, .slice x_10 x_10n x_10c]] h_4 (fun v_11 h_12 =>
∃ (r_13:Bool),v_11 = .bool r_13/\(
bcase (!r_13) (
K (.bool false) h_12) <|
bindI (IntKind.i64.wrap (i_6+(1:Int))) fun z_14 =>
∃ m_2,m_2<n_3/\J_1 m_2 [.int .i64 z_14] h_12)) (Kp)) <|
K (.bool true) h_4)
def burinref14_mayInstance (C:CallP) (t_1:Int) (t_2:Int) (t_3:Int) (t_4:Int) (t_5:Int) (t_6:Bool) (t_7:Int) (t_8:Int) (t_9:Option Addr) (t_9n:Nat) (t_9c:Nat) (x_10:Int) (x_11:Int) (x_12:Int) (x_13:Bool) (x_14:Int) (x_15:Int) (x_16:Option Addr) (x_16n:Nat) (x_16c:Nat) (symbols:Option Addr) (symbolsn:Nat) (symbolsc:Nat) (h:Heap) (K:VK) (Kp:PK):Prop :=
newC h [.int .i64 t_1, .int .i64 t_2, .int .i64 t_3, .int .i64 t_4, .int .i64 t_5, .bool t_6, .int .i64 t_7, .int .i64 t_8, .slice t_9 t_9n t_9c] T_api_Text fun r_17 h_18 =>
newC h_18 [.int .i64 x_10, .int .i64 x_11, .int .i64 x_12, .bool x_13, .int .i64 x_14, .int .i64 x_15, .slice x_16 x_16n x_16c] T_api_Instance fun r_19 h_20 =>
ldI h_20 ((⟨r_19,0,none⟩:Addr).add 2) .i64 fun x_21 =>
bcase (decide (x_21<(0:Int))) (
K (.bool false) h_20) <|
ldI h_20 ((⟨r_19,0,none⟩:Addr).add 2) .i64 fun x_22 =>
bcase (decide (x_22≥(symbolsn:Int))) (
K (.bool false) h_20) <|
ldI h_20 ((⟨r_19,0,none⟩:Addr).add 0) .i64 fun x_23 =>
C F_burinref14_near #[.int .i64 x_23] h_20 (fun v_24 h_25 =>
∃ (r_26:Bool),v_24 = .bool r_26/\(
bcase (!r_26) (
K (.bool false) h_25) <|
ldI h_25 ((⟨r_19,0,none⟩:Addr).add 1) .i64 fun x_27 =>
C F_burinref14_near #[.int .i64 x_27] h_25 (fun v_28 h_29 =>
∃ (r_30:Bool),v_28 = .bool r_30/\(
bcase (!r_30) (
K (.bool false) h_29) <|
ldB h_29 ((⟨r_19,0,none⟩:Addr).add 3) fun x_31 =>
bcase (!x_31) (
ldI h_29 (((⟨r_19,0,none⟩:Addr).add 4).add 0) .i64 fun x_32 =>
bcase (x_32 == (0:Int)) (
ldI h_29 (((⟨r_19,0,none⟩:Addr).add 4).add 1) .i64 fun x_33 =>
bcase (x_33 == (0:Int)) (
ldS h_29 (((⟨r_19,0,none⟩:Addr).add 4).add 2) fun x_34 x_34n x_34c =>
K (.bool ((x_34n:Int) == (0:Int))) h_29) <|
K (.bool false) h_29) <|
K (.bool false) h_29) <|
ldI h_29 ((⟨r_19,0,none⟩:Addr).add 2) .i64 fun x_35 =>
needs (0<=x_35/\x_35<(symbolsn:Int)) <|
ptr symbols fun a_36 =>
ldI h_29 ((a_36.add (x_35.toNat*3)).add 0) .i64 fun x_37 =>
ldI h_29 ((a_36.add (x_35.toNat*3)).add 1) .i64 fun x_38 =>
ldS h_29 ((a_36.add (x_35.toNat*3)).add 2) fun x_39 x_39n x_39c =>
newC h_29 [.int .i64 0, .int .i64 0, .slice none 0 0] T_api_Bitmap fun r_40 h_41 =>
stV h_41 ((⟨r_40,0,none⟩:Addr).add 0) (.int .i64 x_37) fun h_42 =>
stV h_42 ((⟨r_40,0,none⟩:Addr).add 1) (.int .i64 x_38) fun h_43 =>
stV h_43 ((⟨r_40,0,none⟩:Addr).add 2) (.slice x_39 x_39n x_39c) fun h_44 =>
ldB h_44 ((⟨r_17,0,none⟩:Addr).add 5) fun x_45 =>
bcase x_45 (
ldI h_44 (((⟨r_19,0,none⟩:Addr).add 4).add 0) .i64 fun x_46 =>
ldI h_44 (((⟨r_19,0,none⟩:Addr).add 4).add 1) .i64 fun x_47 =>
ldS h_44 (((⟨r_19,0,none⟩:Addr).add 4).add 2) fun x_48 x_48n x_48c =>
C F_burinref0_May #[.agg #[.int .i64 x_46, .int .i64 x_47, .slice x_48 x_48n x_48c]] h_44 (fun v_49 h_50 =>
∃ (r_51:Bool),v_49 = .bool r_51/\(
bcase r_51 (
ldI h_50 (((⟨r_19,0,none⟩:Addr).add 4).add 0) .i64 fun x_52 =>
ldI h_50 ((⟨r_40,0,none⟩:Addr).add 0) .i64 fun x_53 =>
bcase (x_52 == x_53) (
ldI h_50 (((⟨r_19,0,none⟩:Addr).add 4).add 1) .i64 fun x_54 =>
ldI h_50 ((⟨r_40,0,none⟩:Addr).add 1) .i64 fun x_55 =>
bcase (x_54 == x_55) (
ldI h_50 (((⟨r_19,0,none⟩:Addr).add 4).add 0) .i64 fun x_56 =>
ldI h_50 (((⟨r_19,0,none⟩:Addr).add 4).add 1) .i64 fun x_57 =>
ldS h_50 (((⟨r_19,0,none⟩:Addr).add 4).add 2) fun x_58 x_58n x_58c =>
ldI h_50 ((⟨r_40,0,none⟩:Addr).add 0) .i64 fun x_59 =>
ldI h_50 ((⟨r_40,0,none⟩:Addr).add 1) .i64 fun x_60 =>
ldS h_50 ((⟨r_40,0,none⟩:Addr).add 2) fun x_61 x_61n x_61c =>
C F_burinref0_EqBitmap #[.agg #[.int .i64 x_56, .int .i64 x_57, .slice x_58 x_58n x_58c], .agg #[.int .i64 x_59, .int .i64 x_60, .slice x_61 x_61n x_61c]] h_50 (fun v_62 h_63 =>
∃ (r_64:Bool),v_62 = .bool r_64/\(
K (.bool (!r_64)) h_63)) (Kp)) <|
K (.bool false) h_50) <|
K (.bool false) h_50) <|
K (.bool false) h_50)) (Kp)) <|
K (.bool false) h_44)) (Kp))) (Kp)
def burinref14_near (C:CallP) (n:Int) (h:Heap) (K:VK) (Kp:PK):Prop :=
bcase (decide (n≥(-1048576:Int))) (
K (.bool (decide (n<=(1048576:Int)))) h) <|
K (.bool false) h
end Go.Den.YtbknfejmdekhpaaGreat
namespace Go.Den.YtbknfejmdekhpaaGreat
open Go Go.Den
theorem call_burinref14_Bad {t_1:Int} {t_2:Int} {t_3:Int} {t_4:Int} {t_5:Int} {t_6:Bool} {t_7:Int} {t_8:Int} {t_9:Option Addr} {t_9n:Nat} {t_9c:Nat} {symbols:Option Addr} {symbolsn:Nat} {symbolsc:Nat} {h:Heap} {K:VK} {Kp:PK} (H:burinref14_Bad (CallsHP Go.Proofs.Tryz.prog) t_1 t_2 t_3 t_4 t_5 t_6 t_7 t_8 t_9 t_9n t_9c symbols symbolsn symbolsc h K Kp):CallsHP Go.Proofs.Tryz.prog F_burinref14_Bad #[.agg #[.int .i64 t_1, .int .i64 t_2, .int .i64 t_3, .int .i64 t_4, .int .i64 t_5, .bool t_6, .int .i64 t_7, .int .i64 t_8, .slice t_9 t_9n t_9c], .slice symbols symbolsn symbolsc] h K Kp :=
 callsHP_ofE (Hints.mk (fun i=>bif Nat.beq i 7 then some ([7], .take 1 <| .take 3 <| .take 6 <| .take 0 <| .take 2 <| .take 4 <| .take 5 <| .bar 7 [] <| .take 8 <| .done) else (bif Nat.beq i 9 then some ([], .take 0 <| .take 1 <| .take 3 <| .take 8 <| .take 10 <| .take 2 <| .take 4 <| .take 5 <| .take 6 <| .take 7 <| .take 9 <| .take 11 <| .take 12 <| .take 13 <| .take 14 <| .take 15 <| .take 16 <| .take 17 <| .done) else (none))) (fun i=>bif Nat.beq i 5 then some ([(5, .int .i64),(6, .int .i64)],2535301200161310897814053585008) else (none)) (fun i=>none) []) (by kernel_rfl) Go.Proofs.Tryz.func35 (by kernel_rfl) (fun C=>burinref14_Bad C t_1 t_2 t_3 t_4 t_5 t_6 t_7 t_8 t_9 t_9n t_9c symbols symbolsn symbolsc h K Kp) (fun C=>by kernel_rfl) H
theorem call_burinref14_mayAll {l:Option Addr} {ln:Nat} {lc:Nat} {h:Heap} {K:VK} {Kp:PK} (H:burinref14_mayAll (CallsHP Go.Proofs.Tryz.prog) l ln lc h K Kp):CallsHP Go.Proofs.Tryz.prog F_burinref14_mayAll #[.slice l ln lc] h K Kp :=
 callsHP_ofE (Hints.mk (fun i=>none) (fun i=>bif Nat.beq i 2 then some ([(3, .int .i64)],65532) else (none)) (fun i=>none) []) (by kernel_rfl) Go.Proofs.Tryz.func83 (by kernel_rfl) (fun C=>burinref14_mayAll C l ln lc h K Kp) (fun C=>by kernel_rfl) H
theorem call_burinref14_mayInstance {t_1:Int} {t_2:Int} {t_3:Int} {t_4:Int} {t_5:Int} {t_6:Bool} {t_7:Int} {t_8:Int} {t_9:Option Addr} {t_9n:Nat} {t_9c:Nat} {x_10:Int} {x_11:Int} {x_12:Int} {x_13:Bool} {x_14:Int} {x_15:Int} {x_16:Option Addr} {x_16n:Nat} {x_16c:Nat} {symbols:Option Addr} {symbolsn:Nat} {symbolsc:Nat} {h:Heap} {K:VK} {Kp:PK} (H:burinref14_mayInstance (CallsHP Go.Proofs.Tryz.prog) t_1 t_2 t_3 t_4 t_5 t_6 t_7 t_8 t_9 t_9n t_9c x_10 x_11 x_12 x_13 x_14 x_15 x_16 x_16n x_16c symbols symbolsn symbolsc h K Kp):CallsHP Go.Proofs.Tryz.prog F_burinref14_mayInstance #[.agg #[.int .i64 t_1, .int .i64 t_2, .int .i64 t_3, .int .i64 t_4, .int .i64 t_5, .bool t_6, .int .i64 t_7, .int .i64 t_8, .slice t_9 t_9n t_9c], .agg #[.int .i64 x_10, .int .i64 x_11, .int .i64 x_12, .bool x_13, .int .i64 x_14, .int .i64 x_15, .slice x_16 x_16n x_16c], .slice symbols symbolsn symbolsc] h K Kp :=
 callsHP_ofE (Hints.mk (fun i=>none) (fun i=>none) (fun i=>none) []) (by kernel_rfl) Go.Proofs.Tryz.func88 (by kernel_rfl) (fun C=>burinref14_mayInstance C t_1 t_2 t_3 t_4 t_5 t_6 t_7 t_8 t_9 t_9n t_9c x_10 x_11 x_12 x_13 x_14 x_15 x_16 x_16n x_16c symbols symbolsn symbolsc h K Kp) (fun C=>by kernel_rfl) H
theorem call_burinref14_near {n:Int} {h:Heap} {K:VK} {Kp:PK} (H:burinref14_near (CallsHP Go.Proofs.Tryz.prog) n h K Kp):CallsHP Go.Proofs.Tryz.prog F_burinref14_near #[.int .i64 n] h K Kp :=
 callsHP_ofE (Hints.mk (fun i=>none) (fun i=>none) (fun i=>none) []) (by kernel_rfl) Go.Proofs.Tryz.func134 (by kernel_rfl) (fun C=>burinref14_near C n h K Kp) (fun C=>by kernel_rfl) H
end Go.Den.YtbknfejmdekhpaaGreat
namespace Go.Bm
open Go Go.Den Go.Den.YtbknfejmdekhpaaGreat
theorem add_addT (a:Addr) (m n:Nat):(a.add m).add n=a.add (m+n):=by
 unfold Addr.add
 by_cases h1:m=0
 ·subst h1; simp
 ·by_cases h2:n=0
  ·subst h2; simp
  ·rw [if_neg h1,if_neg h2,if_neg (by omega)]
   simp [Nat.add_assoc]
theorem csI_get' {O:List OwI} {i j:Nat} {o:OwI} (h:O[i]? = some o) (hj:j<7):(csI O)[i*7+j]? = o.cs[j]?:=by
 have:=csI_get O [] i j o h hj
 rwa [List.append_nil] at this
theorem ins_at {h:Heap} {q:Option Addr} {O:List OwI} {n i:Nat} {o:OwI} (hr:rdO h q n (csI O)) (ho:O[i]? = some o):∃ a,q=some a/\∀ j v,o.cs[j]? = some v->hcell h ((a.add (i*7)).add j)=some v:=by
 cases q with
 | none =>
  have h0:csI O=[]:=hr
  have h1:=csI_get' (j:=0) ho (by decide)
  rw [h0] at h1
  cases h1
 | some a =>
  refine ⟨a,rfl,fun j v hv=>?_⟩
  have hj:j<7:=(List.getElem?_eq_some_iff.1 hv).1
  rw [add_addT]
  exact hr.2 _ _ ((csI_get' ho hj).trans hv)
section
variable {hB:Heap} {K:VK} {Kp:PK}
end
theorem dsI_snoc (O:List OwI) (o:OwI):dsI (O++[o])=dsI O++o.D:=by
 unfold dsI
 rw [List.flatMap_append]
 simp
theorem csI_snoc (O:List OwI) (o:OwI):csI (O++[o])=csI O++o.cs:=by
 rw [csI_app]
 unfold csI
 simp
section
variable {h0 h:Heap} {F:List Nat} {A R:List Ent} {q:Option Addr} {c:Nat} {l:List Ins}
theorem ListI.app (hl:ListI R q c l) {o:OwI} (ho:o.Ok) {r:Nat} (H:Hp h0 F h (A++R++(o.D++[⟨r,true,T_api_Instance,o.cs⟩]))) (hn:l.length<=1000000) {K:Option Addr->Nat->Nat->Heap->Prop}
  (hk:∀ R' q' c' h',ListI R' q' c' (l++[o.i])->Hp h0 F h' (A++R')->K q' (l.length+1) c' h'):appC h T_api_Instance 7 72 [.int .i64 0, .int .i64 0, .int .i64 0, .bool false, .int .i64 0, .int .i64 0, .slice none 0 0] q l.length c (some ⟨r,0,none⟩) 1 K:=by
 obtain ⟨O,E,h1,h2,h3,rfl⟩:=hl
 have H:Hp h0 F h ((A++dsI O)++(E++(o.D++[⟨r,true,T_api_Instance,o.cs⟩]))):=H.as (by simp only [List.append_assoc])
 refine Slot.app (m:=1) (new:=o.cs) h3 H rfl (Hp.rdO_mem (rest:=[]) (cs:=o.cs) H (by rw [List.append_nil]; exact List.mem_append_right _ (List.mem_append_right _ (List.mem_append_right _ (List.mem_singleton.2 rfl)))) rfl) rfl (fun v hv=>csI_cells [o] v (by unfold csI; simpa using hv)) (by decide) (by omega) fun E' q' c' h' hs H=>?_
 rw [<- csI_snoc] at hs
 refine hk (dsI (O++[o])++E') q' c' h' ⟨O++[o],E',fun x hx=>?_,by rw [List.map_append,h2]; rfl,by rw [List.length_append]; exact hs,rfl⟩ ?_
 ·rcases List.mem_append.1 hx with hx | hx
  ·exact h1 x hx
  ·rw [List.mem_singleton.1 hx]; exact ho
 ·have H:Hp h0 F h' ((A++dsI O)++E'++o.D++[⟨r,true,T_api_Instance,o.cs⟩]):=H.as (by simp only [List.append_assoc])
  have H:=(Hp.pre H).swap
  rw [dsI_snoc]
  exact H.as (by simp only [List.append_assoc])
end
end Go.Bm
namespace Go.Bm
open Go Go.Den Go.Den.YtbknfejmdekhpaaGreat
theorem ptr_eq {q:Option Addr} {a:Addr} {K:Addr->Prop} (h:q=some a) (H:K a):ptr q K:=by
 subst h
 exact H
theorem ListI.app' {h0 h:Heap} {F:List Nat} {A R:List Ent} {q:Option Addr} {c n:Nat} {l:List Ins} (hl:ListI R q c l) (hnl:n=l.length) {o:OwI} (ho:o.Ok) {r:Nat} (H:Hp h0 F h (A++R++(o.D++[⟨r,true,T_api_Instance,o.cs⟩]))) (hn:n<=1000000) {K:Option Addr->Nat->Nat->Heap->Prop}
  (hk:∀ R' q' c' h',ListI R' q' c' (l++[o.i])->Hp h0 F h' (A++R')->K q' (n+1) c' h'):appC h T_api_Instance 7 72 [.int .i64 0, .int .i64 0, .int .i64 0, .bool false, .int .i64 0, .int .i64 0, .slice none 0 0] q n c (some ⟨r,0,none⟩) 1 K:=by
 subst hnl
 exact hl.app ho H hn hk
section
variable {hB:Heap} {K:VK} {Kp:PK}
set_option maxHeartbeats 1000000 in
theorem cpText_ok {t:Reg14} {q:Option Addr} {c:Nat} {l:List Ins} (hv:InsV hB q l) (hl:l.length<=1000000) (hw:∀ t∈l,t.b.ws.length<=1000000000000) (hk:∀ R q' c' h',ListI R q' c' l->Hp hB [] h' R->K (t.ag q' l.length c') h') :
  CP F_burinref0_CopyText #[t.ag q l.length c] hB K Kp:=by
 refine call_burinref0_CopyText ?_
 unfold burinref0_CopyText
 have H:=Hp.nil hB []
 refine newC_hp H fun r10 h H=>?_
 refine newC_hp H fun r12 h H=>?_
 have H:Hp hB [] h [⟨r10,true,T_api_Text,t.cs q l.length c⟩,⟨r12,true,T_api_Text,[.int .i64 0, .int .i64 0, .int .i64 0, .int .i64 0, .int .i64 0, .bool false, .int .i64 0, .int .i64 0, .slice none 0 0]⟩]:=H
 repeat first | with_reducible refine ldI_of (by with_unfolding_all first | exact hpA H 0 rfl rfl | exact Hp.cell H 0 rfl rfl | exact hpB H 0 rfl rfl | exact hpC H 0 rfl rfl) ?_ | with_reducible refine ldS_of (by with_unfolding_all first | exact hpA H 0 rfl rfl | exact Hp.cell H 0 rfl rfl | exact hpB H 0 rfl rfl | exact hpC H 0 rfl rfl) ?_ | with_reducible refine ldP_of (by with_unfolding_all first | exact hpA H 0 rfl rfl | exact Hp.cell H 0 rfl rfl | exact hpB H 0 rfl rfl | exact hpC H 0 rfl rfl) ?_ | with_reducible refine ldB_of (by with_unfolding_all first | exact hpA H 0 rfl rfl | exact Hp.cell H 0 rfl rfl | exact hpB H 0 rfl rfl | exact hpC H 0 rfl rfl) ?_ | with_reducible refine ldT_of (by with_unfolding_all first | exact hpA H 0 rfl rfl | exact Hp.cell H 0 rfl rfl | exact hpB H 0 rfl rfl | exact hpC H 0 rfl rfl) ?_
 refine newC_hp H fun r23 h H=>?_
 have H:Hp hB [] h [⟨r10,true,T_api_Text,t.cs q l.length c⟩,⟨r12,true,T_api_Text,[.int .i64 0, .int .i64 0, .int .i64 0, .int .i64 0, .int .i64 0, .bool false, .int .i64 0, .int .i64 0, .slice none 0 0]⟩,⟨r23,true,T_api_Text,[.int .i64 0, .int .i64 0, .int .i64 0, .int .i64 0, .int .i64 0, .bool false, .int .i64 0, .int .i64 0, .slice none 0 0]⟩]:=H
 refine stVsA H 2 rfl rfl rfl fun h H=>?_
 repeat first | with_reducible refine stA H 2 (by with_unfolding_all exact rfl) (by with_unfolding_all exact rfl) (by with_unfolding_all exact rfl) fun h H=>?_ | with_reducible refine st0 H 2 (by with_unfolding_all exact rfl) (by with_unfolding_all exact rfl) (by with_unfolding_all exact rfl) fun h H=>?_ | with_reducible refine stB H 2 (by with_unfolding_all exact rfl) (by with_unfolding_all exact rfl) (by with_unfolding_all exact rfl) fun h H=>?_
 have H:Hp hB [] h ([⟨r10,true,T_api_Text,t.cs q l.length c⟩,⟨r12,true,T_api_Text,[.int .i64 0, .int .i64 0, .int .i64 0, .int .i64 0, .int .i64 0, .bool false, .int .i64 0, .int .i64 0, .slice none 0 0]⟩,⟨r23,true,T_api_Text,t.cs none 0 0⟩]++[]):=H
 obtain ⟨O,rfl,hr,hvw⟩:=hv
 rw [List.length_map] at hr hl hk H
 obtain ⟨Z,hZ⟩:∃ Z:List Value,Z=[.int .i64 0, .int .i64 0, .int .i64 0, .int .i64 0, .int .i64 0, .bool false, .int .i64 0, .int .i64 0, .slice none 0 0]:=⟨_,rfl⟩
 rw [<- hZ] at H
 refine ⟨fun m vs h'=>∃ (i:Nat) (R:List Ent) (q':Option Addr) (c':Nat),i+m=O.length/\ListI R q' c' ((O.take i).map OwI.i)/\vs=[.int .i64 (i:Nat)]/\Hp hB [] h' ([⟨r10,true,T_api_Text,t.cs q O.length c⟩,⟨r12,true,T_api_Text,Z⟩,⟨r23,true,T_api_Text,t.cs q' i c'⟩]++R),
  ⟨O.length,0,[],none,0,by omega,ListI.nil,rfl,H⟩,?_⟩
 clear H
 rintro m h u xi ⟨i,R,q',c',him,hL,hxx,H⟩
 injection hxx with hx1 hxx
 injection hx1 with _ hx1
 subst xi
 refine ldS_of (hpA H 0 rfl rfl) ?_
 refine bcase_dec (fun h1=>?_) fun h1=>?_
 ·obtain ⟨o,ho⟩:∃ o,O[i]? = some o:=⟨_,List.getElem?_eq_getElem (by omega)⟩
  obtain ⟨a,ha,cell⟩:=ins_at (rdO_ext H.hext hr) ho
  have hov:=(hvw o (List.mem_of_getElem? ho)).ext H.hext
  refine ldS_of (hpA H 0 rfl rfl) (needs_of (by omega) ?_)
  refine ptr_eq ha ?_
  rw [Int.toNat_natCast]
  refine ldI_of (cell 0 _ rfl) (ldI_of (cell 1 _ rfl) (ldI_of (cell 2 _ rfl) (ldB_of (cell 3 _ rfl) (ldI_of (cell 4 _ rfl) (ldI_of (cell 5 _ rfl) (ldS_of (cell 6 _ rfl) ?_))))))
  refine newC_hp H fun r43 h H=>?_
  obtain ⟨X,hX⟩:∃ X:List Ent,X=[⟨r10,true,T_api_Text,t.cs q O.length c⟩,⟨r12,true,T_api_Text,Z⟩,⟨r23,true,T_api_Text,t.cs q' i c'⟩]++R:=⟨_,rfl⟩
  rw [<- hX] at H
  have H:=Hp.rot (X:=X) (Y:=[⟨r43,true,T_api_Instance,[.int .i64 0, .int .i64 0, .int .i64 0, .bool false, .int .i64 0, .int .i64 0, .slice none 0 0]⟩]) H
  have H:Hp hB [] h (⟨r43,true,T_api_Instance,[.int .i64 0, .int .i64 0, .int .i64 0, .bool false, .int .i64 0, .int .i64 0, .slice none 0 0]⟩::X):=H
  repeat first | with_reducible refine stA H 0 (by with_unfolding_all exact rfl) (by with_unfolding_all exact rfl) (by with_unfolding_all exact rfl) fun h H=>?_ | with_reducible refine st0 H 0 (by with_unfolding_all exact rfl) (by with_unfolding_all exact rfl) (by with_unfolding_all exact rfl) fun h H=>?_ | with_reducible refine stB H 0 (by with_unfolding_all exact rfl) (by with_unfolding_all exact rfl) (by with_unfolding_all exact rfl) fun h H=>?_
  have H:Hp hB [] h (⟨r43,true,T_api_Instance,o.cs⟩::X):=H
  repeat first | with_reducible refine ldI_of (by with_unfolding_all first | exact hpA H 0 rfl rfl | exact Hp.cell H 0 rfl rfl | exact hpB H 0 rfl rfl | exact hpC H 0 rfl rfl) ?_ | with_reducible refine ldS_of (by with_unfolding_all first | exact hpA H 0 rfl rfl | exact Hp.cell H 0 rfl rfl | exact hpB H 0 rfl rfl | exact hpC H 0 rfl rfl) ?_ | with_reducible refine ldP_of (by with_unfolding_all first | exact hpA H 0 rfl rfl | exact Hp.cell H 0 rfl rfl | exact hpB H 0 rfl rfl | exact hpC H 0 rfl rfl) ?_ | with_reducible refine ldB_of (by with_unfolding_all first | exact hpA H 0 rfl rfl | exact Hp.cell H 0 rfl rfl | exact hpB H 0 rfl rfl | exact hpC H 0 rfl rfl) ?_ | with_reducible refine ldT_of (by with_unfolding_all first | exact hpA H 0 rfl rfl | exact Hp.cell H 0 rfl rfl | exact hpB H 0 rfl rfl | exact hpC H 0 rfl rfl) ?_
  have hov:=(hvw o (List.mem_of_getElem? ho)).ext H.hext
  refine cpB_ok (b:=o.i.b) hov.r hov.w (hw _ (List.mem_map.2 ⟨o,List.mem_of_getElem? ho,rfl⟩)) fun o1 h' h1ok h1b H'=>?_
  replace H:=H.join H' h1ok.s.w
  clear H'
  refine ⟨_,_,_,_,_,rfl,?_⟩
  subst hX
  have H:Hp hB [] h' (⟨r43,true,T_api_Instance,o.cs⟩::⟨r10,true,T_api_Text,t.cs q O.length c⟩::⟨r12,true,T_api_Text,Z⟩::⟨r23,true,T_api_Text,t.cs q' i c'⟩::(R++o1.D)):=H
  repeat first | with_reducible refine stA H 0 (by with_unfolding_all exact rfl) (by with_unfolding_all exact rfl) (by with_unfolding_all exact rfl) fun h H=>?_ | with_reducible refine st0 H 0 (by with_unfolding_all exact rfl) (by with_unfolding_all exact rfl) (by with_unfolding_all exact rfl) fun h H=>?_ | with_reducible refine stB H 0 (by with_unfolding_all exact rfl) (by with_unfolding_all exact rfl) (by with_unfolding_all exact rfl) fun h H=>?_
  obtain ⟨o2,ho2⟩:∃ o2:OwI,o2=⟨o.i,o1.q,o1.c,o1.D⟩:=⟨_,rfl⟩
  have hok2:o2.Ok:=by
   have g1:=h1ok.s
   rw [h1b] at g1
   rw [ho2]
   exact ⟨g1,hov.w,hov.l⟩
  have H:Hp hB [] h (⟨r43,true,T_api_Instance,o2.cs⟩::⟨r10,true,T_api_Text,t.cs q O.length c⟩::⟨r12,true,T_api_Text,Z⟩::⟨r23,true,T_api_Text,t.cs q' i c'⟩::(R++o2.D)):=by
   rw [ho2]
   exact H
  refine ldS_of (hpA H 3 rfl rfl) ?_
  repeat first | with_reducible refine ldI_of (by with_unfolding_all first | exact hpA H 0 rfl rfl | exact Hp.cell H 0 rfl rfl | exact hpB H 0 rfl rfl | exact hpC H 0 rfl rfl) ?_ | with_reducible refine ldS_of (by with_unfolding_all first | exact hpA H 0 rfl rfl | exact Hp.cell H 0 rfl rfl | exact hpB H 0 rfl rfl | exact hpC H 0 rfl rfl) ?_ | with_reducible refine ldP_of (by with_unfolding_all first | exact hpA H 0 rfl rfl | exact Hp.cell H 0 rfl rfl | exact hpB H 0 rfl rfl | exact hpC H 0 rfl rfl) ?_ | with_reducible refine ldB_of (by with_unfolding_all first | exact hpA H 0 rfl rfl | exact Hp.cell H 0 rfl rfl | exact hpB H 0 rfl rfl | exact hpC H 0 rfl rfl) ?_ | with_reducible refine ldT_of (by with_unfolding_all first | exact hpA H 0 rfl rfl | exact Hp.cell H 0 rfl rfl | exact hpB H 0 rfl rfl | exact hpC H 0 rfl rfl) ?_
  refine newC_hp H fun r71 h H=>?_
  have hlt:i=((O.take i).map OwI.i).length:=by rw [List.length_map,List.length_take]; omega
  have H:Hp hB [] h ([⟨r43,true,T_api_Instance,o2.cs⟩,⟨r10,true,T_api_Text,t.cs q O.length c⟩,⟨r12,true,T_api_Text,Z⟩,⟨r23,true,T_api_Text,t.cs q' i c'⟩]++R++(o2.D++[⟨r71,true,T_api_Instance,o2.cs⟩])):=H.as (by simp only [List.cons_append,List.nil_append,List.append_assoc]; rfl)
  refine hL.app' hlt hok2 H (by omega) fun R2 q2 c2 h2 hL2 H=>?_
  have H:Hp hB [] h2 (⟨r43,true,T_api_Instance,o2.cs⟩::⟨r10,true,T_api_Text,t.cs q O.length c⟩::⟨r12,true,T_api_Text,Z⟩::⟨r23,true,T_api_Text,t.cs q' i c'⟩::R2):=H
  repeat first | with_reducible refine stA H 3 (by with_unfolding_all exact rfl) (by with_unfolding_all exact rfl) (by with_unfolding_all exact rfl) fun h H=>?_ | with_reducible refine st0 H 3 (by with_unfolding_all exact rfl) (by with_unfolding_all exact rfl) (by with_unfolding_all exact rfl) fun h H=>?_ | with_reducible refine stB H 3 (by with_unfolding_all exact rfl) (by with_unfolding_all exact rfl) (by with_unfolding_all exact rfl) fun h H=>?_
  refine bindI_of ((i+1:Nat):Int) (by exact i64_at _ _ (by omega) (by omega) (by omega)) ?_
  have e2:o2.i=o.i:=by rw [ho2]
  rw [e2] at hL2
  refine ⟨m-1,by omega,i+1,R2,q2,c2,by omega,by rw [take_snocG ho,List.map_append]; exact hL2,rfl,?_⟩
  have H:=Hp.suf (X:=[⟨r43,true,T_api_Instance,o2.cs⟩]) H
  exact H
 ·obtain rfl:i=O.length:=by omega
  rw [List.take_of_length_le (Nat.le_refl _)] at hL
  have H:Hp hB [] h ([⟨r10,true,T_api_Text,t.cs q O.length c⟩,⟨r12,true,T_api_Text,Z⟩,⟨r23,true,T_api_Text,t.cs q' O.length c'⟩]++R):=H
  repeat first | with_reducible refine ldI_of (by with_unfolding_all first | exact hpA H 2 rfl rfl | exact Hp.cell H 2 rfl rfl | exact hpB H 2 rfl rfl | exact hpC H 2 rfl rfl) ?_ | with_reducible refine ldS_of (by with_unfolding_all first | exact hpA H 2 rfl rfl | exact Hp.cell H 2 rfl rfl | exact hpB H 2 rfl rfl | exact hpC H 2 rfl rfl) ?_ | with_reducible refine ldP_of (by with_unfolding_all first | exact hpA H 2 rfl rfl | exact Hp.cell H 2 rfl rfl | exact hpB H 2 rfl rfl | exact hpC H 2 rfl rfl) ?_ | with_reducible refine ldB_of (by with_unfolding_all first | exact hpA H 2 rfl rfl | exact Hp.cell H 2 rfl rfl | exact hpB H 2 rfl rfl | exact hpC H 2 rfl rfl) ?_ | with_reducible refine ldT_of (by with_unfolding_all first | exact hpA H 2 rfl rfl | exact Hp.cell H 2 rfl rfl | exact hpB H 2 rfl rfl | exact hpC H 2 rfl rfl) ?_
  subst hZ
  refine stVsA H 1 rfl rfl rfl fun h H=>?_
  have H:Hp hB [] h ([⟨r10,true,T_api_Text,t.cs q O.length c⟩,⟨r12,true,T_api_Text,t.cs q' O.length c'⟩,⟨r23,true,T_api_Text,t.cs q' O.length c'⟩]++R):=H
  repeat first | with_reducible refine ldI_of (by with_unfolding_all first | exact hpA H 1 rfl rfl | exact Hp.cell H 1 rfl rfl | exact hpB H 1 rfl rfl | exact hpC H 1 rfl rfl) ?_ | with_reducible refine ldS_of (by with_unfolding_all first | exact hpA H 1 rfl rfl | exact Hp.cell H 1 rfl rfl | exact hpB H 1 rfl rfl | exact hpC H 1 rfl rfl) ?_ | with_reducible refine ldP_of (by with_unfolding_all first | exact hpA H 1 rfl rfl | exact Hp.cell H 1 rfl rfl | exact hpB H 1 rfl rfl | exact hpC H 1 rfl rfl) ?_ | with_reducible refine ldB_of (by with_unfolding_all first | exact hpA H 1 rfl rfl | exact Hp.cell H 1 rfl rfl | exact hpB H 1 rfl rfl | exact hpC H 1 rfl rfl) ?_ | with_reducible refine ldT_of (by with_unfolding_all first | exact hpA H 1 rfl rfl | exact Hp.cell H 1 rfl rfl | exact hpB H 1 rfl rfl | exact hpC H 1 rfl rfl) ?_
  exact hk R q' c' h hL (Hp.suf H)
end
end Go.Bm
namespace Go.Bm
open Go Go.Den Go.Den.YtbknfejmdekhpaaGreat
section
variable {hB:Heap} {K:VK} {Kp:PK}
end
end Go.Bm
namespace Go.Bm
open Go Go.Den Go.Den.YtbknfejmdekhpaaGreat
theorem ld7v {h:Heap} {a:Addr} {o:OwI} (cell:∀ j v,o.cs[j]? = some v->hcell h (a.add j)=some v) {K:Int->Int->Int->Bool->Int->Int->Option Addr->Nat->Nat->Prop}
  (hk:K o.i.x o.i.y o.i.s o.i.d o.i.b.w o.i.b.h o.q o.i.b.ws.length o.c) :
  ldI h (a.add 0) .i64 fun x1=>ldI h (a.add 1) .i64 fun x2=>ldI h (a.add 2) .i64 fun x3=>ldB h (a.add 3) fun x4=>ldI h (a.add 4) .i64 fun x5=>ldI h (a.add 5) .i64 fun x6=>ldS h (a.add 6) fun q n c=>K x1 x2 x3 x4 x5 x6 q n c :=
 ldI_of (cell 0 _ rfl) (ldI_of (cell 1 _ rfl) (ldI_of (cell 2 _ rfl) (ldB_of (cell 3 _ rfl) (ldI_of (cell 4 _ rfl) (ldI_of (cell 5 _ rfl) (ldS_of (cell 6 _ rfl) hk))))))
section
variable {hB:Heap} {K:VK} {Kp:PK}
theorem slEq_ok {a b:Option Addr} {ac bc:Nat} {xs ys:List Nat} (ha:rdO hB a (xs.length*1) (u64s xs)) (hb:rdO hB b (ys.length*1) (u64s ys)) (hlen:xs.length<140737488351300)
  (hk:K (.bool (decide (xs=ys))) hB):CP F_slices_Equal_uint64_uint64 #[.slice a xs.length ac, .slice b ys.length bc] hB K Kp:=by
 refine call_slices_Equal_uint64_uint64 ?_
 unfold slices_Equal_uint64_uint64
 refine bcase_ne (fun h1=>?_) fun h1=>?_
 ·rw [decide_eq_false (fun e=>h1 (by rw [e]))] at hk
  exact hk
 have h1:xs.length=ys.length:=by omega
 refine ⟨fun m vs h'=>∃ i:Nat,i+m=xs.length/\h'=hB/\vs=[.int .i64 (i:Nat)]/\∀ j,j<i->xs[j]? = ys[j]?,⟨xs.length,0,by omega,rfl,rfl,fun j hj=>by omega⟩,?_⟩
 rintro m h u xi ⟨i,him,rfl,hxx,he⟩
 injection hxx with hx1 hxx
 injection hx1 with _ hx1
 subst xi
 refine bcase_dec (fun h2=>?_) fun h2=>?_
 ·obtain ⟨x,hx⟩:∃ x,xs[i]? = some x:=⟨_,List.getElem?_eq_getElem (by omega)⟩
  obtain ⟨y,hy⟩:∃ y,ys[i]? = some y:=⟨_,List.getElem?_eq_getElem (by omega)⟩
  have ca:∃ a',a=some a'/\hcell h (a'.add i)=some (.int .u64 (x:Nat)):=by
   cases a with
   | none =>
    have h0:u64s xs=[]:=ha
    have:=u64s_get hx
    rw [h0] at this
    cases this
   | some a'=>exact ⟨a',rfl,ha.2 _ _ (u64s_get hx)⟩
  have cb:∃ a',b=some a'/\hcell h (a'.add i)=some (.int .u64 (y:Nat)):=by
   cases b with
   | none =>
    have h0:u64s ys=[]:=hb
    have:=u64s_get hy
    rw [h0] at this
    cases this
   | some a'=>exact ⟨a',rfl,hb.2 _ _ (u64s_get hy)⟩
  obtain ⟨a1,rfl,ca⟩:=ca
  obtain ⟨b1,rfl,cb⟩:=cb
  refine needs_of (by omega) (ptr_of (a:=a1) (needs_of (by omega) (ptr_of (a:=b1) ?_)))
  rw [Int.toNat_natCast,Nat.mul_one]
  refine ldI_of ca (ldI_of cb (bcase_ne (fun h3=>?_) fun h3=>?_))
  ·rw [decide_eq_false (fun e=>?_)] at hk
   ·exact hk
   ·subst e
    rw [hx] at hy
    injection hy with hy
    exact h3 (by rw [hy])
  ·refine bindI_of ((i+1:Nat):Int) (by exact i64_at _ _ (by omega) (by omega) (by omega)) ?_
   refine ⟨m-1,by omega,i+1,by omega,rfl,rfl,fun j hj=>?_⟩
   rcases Nat.lt_or_ge j i with h4 | h4
   ·exact he j h4
   ·obtain rfl:j=i:=by omega
    rw [hx,hy]
    congr 1
    omega
 ·have:xs=ys:=by
   apply List.ext_getElem?
   intro j
   rcases Nat.lt_or_ge j i with h4 | h4
   ·exact he j h4
   ·rw [List.getElem?_eq_none (by omega),List.getElem?_eq_none (by omega)]
  rw [decide_eq_true this] at hk
  exact hk
theorem equal_ok {a b:Option Addr} {ac bc:Nat} {b1 b2:Bmp} (ha:rdO hB a (b1.ws.length*1) (u64s b1.ws)) (hb:rdO hB b (b2.ws.length*1) (u64s b2.ws)) (w1:W64 b1.ws) (w2:W64 b2.ws) (l1:b1.ws.length<140737488351300) (l2:b2.ws.length<140737488351300)
  (m1:b1.may) (m2:b2.may) (hk:∀ h',hext hB h'->K (.bool (decide (b1.w=b2.w/\b1.h=b2.h/\b1.ws=b2.ws))) h') :
  CP F_bitmap_Equal #[.agg #[.int .i64 b1.w, .int .i64 b1.h, .slice a b1.ws.length ac], .agg #[.int .i64 b2.w, .int .i64 b2.h, .slice b b2.ws.length bc]] hB K Kp:=by
 refine call_bitmap_Equal ?_
 unfold bitmap_Equal
 have H:=Hp.nil hB []
 refine newC_hp H fun r7 h H=>?_
 refine newC_hp H fun r9 h H=>?_
 have H:Hp hB [] h [⟨r7,true,T_api_Bitmap,[.int .i64 b1.w, .int .i64 b1.h, .slice a b1.ws.length ac]⟩,⟨r9,true,T_api_Bitmap,[.int .i64 b2.w, .int .i64 b2.h, .slice b b2.ws.length bc]⟩]:=H
 refine ldI_of (hpA H 0 rfl rfl) (ldI_of (hpA H 0 rfl rfl) (ldS_of (hpA H 0 rfl rfl) ?_))
 refine check_ok (H.rdO ha) w1 l1 fun r h' hr e=>⟨_,rfl,?_⟩
 replace H:=H.ext e
 refine bcase_true (hr.2 m1) ?_
 refine ldI_of (hpA H 1 rfl rfl) (ldI_of (hpA H 1 rfl rfl) (ldS_of (hpA H 1 rfl rfl) ?_))
 refine check_ok (H.rdO hb) w2 l2 fun r h' hr e=>⟨_,rfl,?_⟩
 replace H:=H.ext e
 have hk:=hk _ H.hext
 refine bcase_true (hr.2 m2) ?_
 refine ldI_of (hpA H 0 rfl rfl) (ldI_of (hpA H 1 rfl rfl) (bcase_eq (fun h1=>?_) fun h1=>?_))
 ·refine ldI_of (hpA H 0 rfl rfl) (ldI_of (hpA H 1 rfl rfl) (bcase_eq (fun h2=>?_) fun h2=>?_))
  ·refine ldS_of (hpA H 0 rfl rfl) (ldS_of (hpA H 1 rfl rfl) ?_)
   refine slEq_ok (H.rdO ha) (H.rdO hb) l1 ⟨_,rfl,?_⟩
   have e:decide (b1.ws=b2.ws)=decide (b1.w=b2.w/\b1.h=b2.h/\b1.ws=b2.ws):=by rw [decide_eq_decide]; simp [h1,h2]
   rw [e]
   exact hk
  ·rw [decide_eq_false (fun e=>h2 e.2.1)] at hk
   exact hk
 ·rw [decide_eq_false (fun e=>h1 e.1)] at hk
  exact hk
end
def symOf (sy:List Bmp) (s:Int):Bmp:=sy.getD s.toNat ⟨0,0,[]⟩
def InsOk (rf:Bool) (sy:List Bmp) (i:Ins):Prop:=(0<=i.s/\i.s<sy.length)/\(-1048576<=i.x/\i.x<=1048576)/\(-1048576<=i.y/\i.y<=1048576) /\
 (i.d=false->i.b.w=0/\i.b.h=0/\i.b.ws=[])/\(i.d=true->rf=true/\i.b.may/\i.b.w=(symOf sy i.s).w/\i.b.h=(symOf sy i.s).h/\i.b.ws≠(symOf sy i.s).ws)
section
variable {hB:Heap} {K:VK} {Kp:PK}
theorem within14_ok {n low:Int} (hk:K (.bool (decide (low<=n/\n<=1048576))) hB):CP F_text_within #[.int .i64 n, .int .i64 low] hB K Kp:=by
 refine call_text_within ?_
 unfold text_within
 refine bcase_dec (fun h1=>?_) fun h1=>?_
 ·rw [show decide (low<=n/\n<=1048576)=decide (n<=1048576) by rw [decide_eq_decide]; omega] at hk
  exact hk
 ·rw [decide_eq_false (by omega)] at hk
  exact hk
theorem near_ok {n:Int} (hk:K (.bool (decide (-1048576<=n/\n<=1048576))) hB):CP F_burinref14_near #[.int .i64 n] hB K Kp:=by
 refine call_burinref14_near ?_
 unfold burinref14_near
 refine bcase_dec (fun h1=>?_) fun h1=>?_
 ·rw [show decide (-1048576<=n/\n<=1048576)=decide (n<=1048576) by rw [decide_eq_decide]; omega] at hk
  exact hk
 ·rw [decide_eq_false (by omega)] at hk
  exact hk
set_option maxHeartbeats 1000000 in
theorem instance_ok {t:Reg14} {q q2:Option Addr} {n c c2:Nat} {sy:List Bmp} {o:OwI} (hs:BmsV hB q2 sy) (hm:MayL sy) (ho:o.Vw hB) (hk:∀ r h',(r=true↔InsOk t.rf sy o.i)->hext hB h'->K (.bool r) h') :
  CP F_text_instance #[t.ag q n c, .slice q2 sy.length c2,o.ag] hB K Kp:=by
 refine call_text_instance ?_
 unfold text_instance
 have H:=Hp.nil hB []
 refine newC_hp H fun r17 h H=>?_
 refine newC_hp H fun r19 h H=>?_
 have H:Hp hB [] h [⟨r17,true,T_api_Text,t.cs q n c⟩,⟨r19,true,T_api_Instance,o.cs⟩]:=H
 have no:∀ {h'},hext hB h'->¬ InsOk t.rf sy o.i->K (.bool false) h':=fun e hn=>hk _ _ ⟨(fun hh=>by cases hh),fun hh=>absurd hh hn⟩ e
 refine ldI_of (hpA H 1 rfl rfl) (bcase_dec (fun h1=>no H.hext fun hh=>by have:=hh.1; omega) fun h1=>?_)
 refine ldI_of (hpA H 1 rfl rfl) (bcase_dec (fun h2=>no H.hext fun hh=>by have:=hh.1; omega) fun h2=>?_)
 refine ldI_of (hpA H 1 rfl rfl) (within14_ok ⟨_,rfl,bcase_ndec (fun h3=>no H.hext fun hh=>h3 hh.2.1) fun h3=>?_⟩)
 refine ldI_of (hpA H 1 rfl rfl) (within14_ok ⟨_,rfl,bcase_ndec (fun h4=>no H.hext fun hh=>h4 hh.2.2.1) fun h4=>?_⟩)
 refine ldB_of (hpA H 1 rfl rfl) (bcase_not (fun hd=>?_) fun hd=>?_)
 ·refine ldI_of (hpB H 1 rfl rfl) (bcase_eq (fun h5=>?_) fun h5=>no H.hext fun hh=>h5 (hh.2.2.2.1 hd).1)
  refine ldI_of (hpB H 1 rfl rfl) (bcase_eq (fun h6=>?_) fun h6=>no H.hext fun hh=>h6 (hh.2.2.2.1 hd).2.1)
  refine ldS_of (hpB H 1 rfl rfl) (hk _ _ ?_ H.hext)
  rw [beq_iff_eq]
  refine ⟨fun hh=>⟨⟨by omega,by omega⟩,h3,h4,fun _=>⟨h5,h6,List.eq_nil_of_length_eq_zero (by omega)⟩,fun hd'=>by rw [hd] at hd'; cases hd'⟩,fun hh=>?_⟩
  rw [(hh.2.2.2.1 hd).2.2]
  rfl
 ·obtain ⟨s,hsy⟩:∃ s,sy[o.i.s.toNat]? = some s:=⟨_,List.getElem?_eq_getElem (by omega)⟩
  have hsym:symOf sy o.i.s=s:=by
   unfold symOf
   rw [List.getD_eq_getElem?_getD,hsy]
   rfl
  have hms:s.may:=hm s (List.mem_of_getElem? hsy)
  obtain ⟨a,q3,c3,rfl,hc0⟩:=hs _ s hsy
  have hc:=hc0.ext H.hext
  refine ldI_of (hpA H 1 rfl rfl) (needs_of (by omega) (ptr_of (a:=a) ?_))
  refine ldI_of hc.c0 (ldI_of hc.c1 (ldS_of hc.c2 ?_))
  refine newC_hp H fun r40 h H=>?_
  have H:Hp hB [] h [⟨r17,true,T_api_Text,t.cs q n c⟩,⟨r19,true,T_api_Instance,o.cs⟩,⟨r40,true,T_api_Bitmap,[.int .i64 0, .int .i64 0, .slice none 0 0]⟩]:=H
  repeat first | with_reducible refine stA H 2 (by with_unfolding_all exact rfl) (by with_unfolding_all exact rfl) (by with_unfolding_all exact rfl) fun h H=>?_ | with_reducible refine st0 H 2 (by with_unfolding_all exact rfl) (by with_unfolding_all exact rfl) (by with_unfolding_all exact rfl) fun h H=>?_ | with_reducible refine stB H 2 (by with_unfolding_all exact rfl) (by with_unfolding_all exact rfl) (by with_unfolding_all exact rfl) fun h H=>?_
  have H:Hp hB [] h [⟨r17,true,T_api_Text,t.cs q n c⟩,⟨r19,true,T_api_Instance,o.cs⟩,⟨r40,true,T_api_Bitmap,[.int .i64 s.w, .int .i64 s.h, .slice q3 s.ws.length c3]⟩]:=H
  refine ldB_of (hpA H 0 rfl rfl) (bcase_of (fun h5=>?_) fun h5=>no H.hext fun hh=>by have:=(hh.2.2.2.2 hd).1; rw [h5] at this; cases this)
  refine ldI_of (hpB H 1 rfl rfl) (ldI_of (hpB H 1 rfl rfl) (ldS_of (hpB H 1 rfl rfl) ?_))
  refine check_ok (H.rdO ho.r) ho.w ho.l fun r h' hr e=>⟨_,rfl,?_⟩
  replace H:=H.ext e
  refine bcase_of (fun h6=>?_) fun h6=>no H.hext fun hh=>by have:=hr.2 (hh.2.2.2.2 hd).2.1; rw [h6] at this; cases this
  have hmo:=hr.1 h6
  refine ldI_of (hpB H 1 rfl rfl) (ldI_of (hpA H 2 rfl rfl) (bcase_eq (fun h7=>?_) fun h7=>no H.hext fun hh=>h7 (by rw [(hh.2.2.2.2 hd).2.2.1,hsym])))
  refine ldI_of (hpB H 1 rfl rfl) (ldI_of (hpA H 2 rfl rfl) (bcase_eq (fun h8=>?_) fun h8=>no H.hext fun hh=>h8 (by rw [(hh.2.2.2.2 hd).2.2.2.1,hsym])))
  refine ldI_of (hpB H 1 rfl rfl) (ldI_of (hpB H 1 rfl rfl) (ldS_of (hpB H 1 rfl rfl) ?_))
  refine ldI_of (hpA H 2 rfl rfl) (ldI_of (hpA H 2 rfl rfl) (ldS_of (hpA H 2 rfl rfl) ?_))
  refine equal_ok (b1:=o.i.b) (b2:=s) (H.rdO ho.r) (H.rdO hc0.r1) ho.w hc0.w1 ho.l hc0.l1 hmo hms fun h' e=>⟨_,rfl,hk _ _ ?_ (H.hext.trans e)⟩
  rw [Bool.not_eq_true',decide_eq_false_iff_not]
  refine ⟨fun hh=>⟨⟨by omega,by omega⟩,h3,h4,(fun hd'=>by rw [hd] at hd'; cases hd'),fun _=>⟨h5,hmo,by rw [hsym]; exact h7,by rw [hsym]; exact h8,fun hw=>hh ⟨h7,h8,by rw [hsym] at hw; exact hw⟩⟩⟩,fun hh hw=>(hh.2.2.2.2 hd).2.2.2.2 (by rw [hsym]; exact hw.2.2)⟩
set_option maxHeartbeats 1000000 in
theorem mayIns_ok {t:Reg14} {q q2:Option Addr} {n c c2:Nat} {sy:List Bmp} {o:OwI} (hs:BmsV hB q2 sy) (hm:MayL sy) (ho:o.Vw hB) (hk:∀ r h',(r=true↔InsOk t.rf sy o.i)->hext hB h'->K (.bool r) h') :
  CP F_burinref14_mayInstance #[t.ag q n c,o.ag, .slice q2 sy.length c2] hB K Kp:=by
 refine call_burinref14_mayInstance ?_
 unfold burinref14_mayInstance
 have H:=Hp.nil hB []
 refine newC_hp H fun r17 h H=>?_
 refine newC_hp H fun r19 h H=>?_
 have H:Hp hB [] h [⟨r17,true,T_api_Text,t.cs q n c⟩,⟨r19,true,T_api_Instance,o.cs⟩]:=H
 have no:∀ {h'},hext hB h'->¬ InsOk t.rf sy o.i->K (.bool false) h':=fun e hn=>hk _ _ ⟨(fun hh=>by cases hh),fun hh=>absurd hh hn⟩ e
 refine ldI_of (hpA H 1 rfl rfl) (bcase_dec (fun h1=>no H.hext fun hh=>by have:=hh.1; omega) fun h1=>?_)
 refine ldI_of (hpA H 1 rfl rfl) (bcase_dec (fun h2=>no H.hext fun hh=>by have:=hh.1; omega) fun h2=>?_)
 refine ldI_of (hpA H 1 rfl rfl) (near_ok ⟨_,rfl,bcase_ndec (fun h3=>no H.hext fun hh=>h3 hh.2.1) fun h3=>?_⟩)
 refine ldI_of (hpA H 1 rfl rfl) (near_ok ⟨_,rfl,bcase_ndec (fun h4=>no H.hext fun hh=>h4 hh.2.2.1) fun h4=>?_⟩)
 refine ldB_of (hpA H 1 rfl rfl) (bcase_not (fun hd=>?_) fun hd=>?_)
 ·refine ldI_of (hpB H 1 rfl rfl) (bcase_eq (fun h5=>?_) fun h5=>no H.hext fun hh=>h5 (hh.2.2.2.1 hd).1)
  refine ldI_of (hpB H 1 rfl rfl) (bcase_eq (fun h6=>?_) fun h6=>no H.hext fun hh=>h6 (hh.2.2.2.1 hd).2.1)
  refine ldS_of (hpB H 1 rfl rfl) (hk _ _ ?_ H.hext)
  rw [beq_iff_eq]
  refine ⟨fun hh=>⟨⟨by omega,by omega⟩,h3,h4,fun _=>⟨h5,h6,List.eq_nil_of_length_eq_zero (by omega)⟩,fun hd'=>by rw [hd] at hd'; cases hd'⟩,fun hh=>?_⟩
  rw [(hh.2.2.2.1 hd).2.2]
  rfl
 ·obtain ⟨s,hsy⟩:∃ s,sy[o.i.s.toNat]? = some s:=⟨_,List.getElem?_eq_getElem (by omega)⟩
  have hsym:symOf sy o.i.s=s:=by
   unfold symOf
   rw [List.getD_eq_getElem?_getD,hsy]
   rfl
  have hms:s.may:=hm s (List.mem_of_getElem? hsy)
  obtain ⟨a,q3,c3,rfl,hc0⟩:=hs _ s hsy
  have hc:=hc0.ext H.hext
  refine ldI_of (hpA H 1 rfl rfl) (needs_of (by omega) (ptr_of (a:=a) ?_))
  refine ldI_of hc.c0 (ldI_of hc.c1 (ldS_of hc.c2 ?_))
  refine newC_hp H fun r40 h H=>?_
  have H:Hp hB [] h [⟨r17,true,T_api_Text,t.cs q n c⟩,⟨r19,true,T_api_Instance,o.cs⟩,⟨r40,true,T_api_Bitmap,[.int .i64 0, .int .i64 0, .slice none 0 0]⟩]:=H
  repeat first | with_reducible refine stA H 2 (by with_unfolding_all exact rfl) (by with_unfolding_all exact rfl) (by with_unfolding_all exact rfl) fun h H=>?_ | with_reducible refine st0 H 2 (by with_unfolding_all exact rfl) (by with_unfolding_all exact rfl) (by with_unfolding_all exact rfl) fun h H=>?_ | with_reducible refine stB H 2 (by with_unfolding_all exact rfl) (by with_unfolding_all exact rfl) (by with_unfolding_all exact rfl) fun h H=>?_
  have H:Hp hB [] h [⟨r17,true,T_api_Text,t.cs q n c⟩,⟨r19,true,T_api_Instance,o.cs⟩,⟨r40,true,T_api_Bitmap,[.int .i64 s.w, .int .i64 s.h, .slice q3 s.ws.length c3]⟩]:=H
  refine ldB_of (hpA H 0 rfl rfl) (bcase_of (fun h5=>?_) fun h5=>no H.hext fun hh=>by have:=(hh.2.2.2.2 hd).1; rw [h5] at this; cases this)
  refine ldI_of (hpB H 1 rfl rfl) (ldI_of (hpB H 1 rfl rfl) (ldS_of (hpB H 1 rfl rfl) ?_))
  refine may_ok (H.rdO ho.r) ho.w ho.l fun r h' hr e=>⟨_,rfl,?_⟩
  replace H:=H.ext e
  refine bcase_of (fun h6=>?_) fun h6=>no H.hext fun hh=>by have:=hr.2 (hh.2.2.2.2 hd).2.1; rw [h6] at this; cases this
  have hmo:=hr.1 h6
  refine ldI_of (hpB H 1 rfl rfl) (ldI_of (hpA H 2 rfl rfl) (bcase_eq (fun h7=>?_) fun h7=>no H.hext fun hh=>h7 (by rw [(hh.2.2.2.2 hd).2.2.1,hsym])))
  refine ldI_of (hpB H 1 rfl rfl) (ldI_of (hpA H 2 rfl rfl) (bcase_eq (fun h8=>?_) fun h8=>no H.hext fun hh=>h8 (by rw [(hh.2.2.2.2 hd).2.2.2.1,hsym])))
  refine ldI_of (hpB H 1 rfl rfl) (ldI_of (hpB H 1 rfl rfl) (ldS_of (hpB H 1 rfl rfl) ?_))
  refine ldI_of (hpA H 2 rfl rfl) (ldI_of (hpA H 2 rfl rfl) (ldS_of (hpA H 2 rfl rfl) ?_))
  refine eqB_ok (H.rdO ho.r) (H.rdO hc0.r1) ho.l fun h' e=>⟨_,rfl,hk _ _ ?_ (H.hext.trans e)⟩
  rw [Bool.not_eq_true',decide_eq_false_iff_not]
  refine ⟨fun hh=>⟨⟨by omega,by omega⟩,h3,h4,(fun hd'=>by rw [hd] at hd'; cases hd'),fun _=>⟨h5,hmo,by rw [hsym]; exact h7,by rw [hsym]; exact h8,fun hw=>hh ⟨h7,h8,by rw [hsym] at hw; exact hw⟩⟩⟩,fun hh hw=>(hh.2.2.2.2 hd).2.2.2.2 (by rw [hsym]; exact hw.2.2)⟩
end
end Go.Bm
