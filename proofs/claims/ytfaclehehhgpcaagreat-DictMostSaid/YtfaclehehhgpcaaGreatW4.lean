/- W4: put together by wip/tools/bundle.py: GnB GnC GnS GnD GnE GnF RdA Mburinref7 Bburinref7 GnG RfR RfS GnH GnI GnJa GnJ GnK RdB RdC GnL GnQ Mbits Bbits PbA PbB RnD PbF PbG PbH Mburinref1 Bburinref1 PbI PbJ PbJb PbC Mlaw15PageEncodes Blaw15PageEncodes PbD PbE. -/
import Derived.Test.YtfaclehehhgpcaaGreatW1
import Derived.Test.YtfaclehehhgpcaaGreatW2
import Derived.Test.YtfaclehehhgpcaaGreatW3
import Derived.Test.YtfaclehehhgpcaaGreatProg
set_option linter.unusedVariables false
set_option linter.unusedSimpArgs false
set_option maxRecDepth 100000
namespace Go.Bm
open Go Go.Den Go.Den.YtfaclehehhgpcaaGreat
structure Wn where
 s:Sp
 b:Nat
def maskW (s:Sp):Nat:=2 ^ spanW s-1
def wnC (w:Wn):List Value:=[.int .i64 w.s.1, .int .i64 w.s.2.1, .int .i64 w.s.2.2, .int .i64 (w.b:Nat), .int .i64 (maskW w.s:Nat)]
def wnsC:List Wn->List Value
 | []=>[]
 | w::l=>wnC w++wnsC l
theorem wnsC_app:∀ (l l':List Wn),wnsC (l++l')=wnsC l++wnsC l'
 | [],_=>rfl
 | w::l,l'=>by
  show wnC w++wnsC (l++l')=(wnC w++wnsC l)++wnsC l'
  rw [wnsC_app l l',List.append_assoc]
theorem wnsC_len:∀ l:List Wn,(wnsC l).length=l.length*5
 | []=>rfl
 | w::l=>by
  show (wnC w++wnsC l).length=_
  rw [List.length_append,wnsC_len l,List.length_cons]
  show 5+_=_
  omega
theorem wnsC_get:∀ {l:List Wn} {i:Nat} {w:Wn},l[i]? = some w->∀ j v,(wnC w)[j]? = some v->(wnsC l)[i*5+j]? = some v
 | [],i,w,h=>by simp at h
 | a::l,0,w,h=>fun j v hv=>by
  simp at h
  subst h
  rw [Nat.zero_mul,Nat.zero_add]
  exact Go.Ar.get_app hv
 | a::l,i+1,w,h=>fun j v hv=>by
  have:=wnsC_get (l:=l) (i:=i) (w:=w) (by simpa using h) j v hv
  show (wnC a++wnsC l)[(i+1)*5+j]? = some v
  rw [show (i+1)*5+j=(wnC a).length+(i*5+j) by show _=5+_; omega,List.getElem?_append_right (by omega),Nat.add_sub_cancel_left]
  exact this
theorem wnsC_set:∀ {l:List Wn} {i:Nat} {w:Wn} (b:Nat),l[i]? = some w->(wnsC l).set (i*5+3) (.int .i64 (b:Nat))=wnsC (l.set i ⟨w.s,b⟩)
 | [],i,w,b,h=>by simp at h
 | a::l,0,w,b,h=>by
  simp at h
  subst h
  rfl
 | a::l,i+1,w,b,h=>by
  have:=wnsC_set (l:=l) (i:=i) (w:=w) b (by simpa using h)
  show (wnC a++wnsC l).set ((i+1)*5+3) _=wnC a++wnsC (l.set i ⟨w.s,b⟩)
  rw [<- this,show (i+1)*5+3=(wnC a).length+(i*5+3) by show _=5+_; omega,List.set_append_right _ _ (by omega),Nat.add_sub_cancel_left]
theorem bitsN_val:∀ (l:List Bool) (n:Nat),bitsN n l=n*2 ^ l.length+bitsN 0 l
 | [],n=>by simp [bitsN]
 | b::l,n=>by
  have h1:=bitsN_val l (2*n+b.toNat)
  have h2:=bitsN_val l (2*0+b.toNat)
  show bitsN (2*n+b.toNat) l=n*2 ^ (l.length+1)+bitsN (2*0+b.toNat) l
  have e:(2*n+b.toNat)*2 ^ l.length=n*2 ^ (l.length+1)+b.toNat*2 ^ l.length:=by
   rw [Nat.add_mul,Nat.pow_succ,Nat.mul_comm (2 ^ l.length) 2,<- Nat.mul_assoc,Nat.mul_comm 2 n]
  rw [h1,h2,Nat.mul_zero,Nat.zero_add,e,Nat.add_assoc]
theorem bits0_lt (l:List Bool):bitsN 0 l<2 ^ l.length:=by
 have:=bitsN_lt l 0 0 (by decide)
 rwa [Nat.zero_add] at this
theorem bits_head (b:Bool) (l:List Bool):bitsN 0 (b::l) % 2 ^ l.length=bitsN 0 l:=by
 show bitsN (2*0+b.toNat) l % _=_
 rw [bitsN_val,Nat.mul_comm,Nat.mul_add_mod]
 exact Nat.mod_eq_of_lt (bits0_lt l)
theorem spl_len (s:Sp) (k:Nat):(spl s k).length=k:=by simp [spl]
theorem pb_len (G:Int->Int->Bool) (x y:Int) (l:List (Int × Int)):(pb G x y l).length=l.length:=by simp [pb]
theorem pb_snoc (G:Int->Int->Bool) (x y:Int) (s:Sp) (k:Nat):pb G x y (spl s (k+1))=pb G x y (spl s k)++[G (x+(s.2.1+(k:Int))) (y+s.1)]:=by
 unfold pb spl
 rw [List.range_succ,List.map_append,List.map_append]
 rfl
theorem bits_snoc (G:Int->Int->Bool) (x y:Int) (s:Sp) (k:Nat):bitsN 0 (pb G x y (spl s (k+1)))=2*bitsN 0 (pb G x y (spl s k))+(G (x+(s.2.1+(k:Int))) (y+s.1)).toNat:=by
 rw [pb_snoc,bitsN_app]
 rfl
theorem pb_head (G:Int->Int->Bool) (x y:Int) (s:Sp) (k:Nat):pb G x y (spl s (k+1))=G (x+s.2.1) (y+s.1)::pb G (x+1) y (spl s k):=by
 unfold pb spl
 rw [List.range_succ_eq_map,List.map_cons,List.map_cons,List.map_map,List.map_map,List.map_map]
 congr 1
 ·simp
 ·refine List.map_congr_left fun j _=>?_
  simp only [Function.comp]
  congr 1
  push_cast
  omega
theorem spanW_pos {s:Sp} (h:SpOk s):1<=spanW s/\spanW s<=8/\((spanW s:Nat):Int)=s.2.2-s.2.1+1:=by
 have h1:=h.f
 have h2:=h.t
 unfold spanW
 omega
theorem mask_add (s:Sp):maskW s+1=2 ^ spanW s:=by
 unfold maskW
 have:=Nat.two_pow_pos (spanW s)
 omega
theorem win_step {G:Int->Int->Bool} {x y:Int} {s:Sp} {b:Nat} (h:SpOk s) (hb:b % 2 ^ (spanW s-1)=bitsN 0 (pb G x y (spl s (spanW s-1)))) :
  (2*b+(G (x+s.2.2) (y+s.1)).toNat) % 2 ^ spanW s=bitsN 0 (pb G x y (spl s (spanW s))):=by
 obtain ⟨h1,h2,h3⟩:=spanW_pos h
 obtain ⟨k,hk⟩:∃ k,spanW s=k+1:=⟨spanW s-1,by omega⟩
 rw [hk,Nat.add_sub_cancel] at hb
 have hg:=toNat_le (G (x+s.2.2) (y+s.1))
 have e:(s.2.1+(k:Int))=s.2.2:=by omega
 rw [hk,bits_snoc,e,<- hb,Nat.pow_succ,Nat.mul_comm _ 2]
 have hp:=Nat.two_pow_pos k
 have hd:=Nat.div_add_mod b (2 ^ k)
 have hm:=Nat.mod_lt b hp
 generalize hq:b / 2 ^ k=q at hd
 generalize hr:b % 2 ^ k=r at hd hm ⊢
 rw [<- hd]
 have e2:2*(2 ^ k*q+r)+(G (x+s.2.2) (y+s.1)).toNat=2*2 ^ k*q+(2*r+(G (x+s.2.2) (y+s.1)).toNat):=by
  rw [Nat.mul_add,Nat.mul_assoc,Nat.add_assoc]
 rw [e2,Nat.mul_add_mod]
 exact Nat.mod_eq_of_lt (by omega)
theorem win_next {G:Int->Int->Bool} {x y:Int} {s:Sp} (h:SpOk s) (bit:Bool):bitsN 0 (pb G x y (spl s (spanW s))) % 2 ^ (spanW s-1)=bitsN 0 (pb (upd G x y bit) (x+1) y (spl s (spanW s-1))):=by
 obtain ⟨h1,h2,h3⟩:=spanW_pos h
 obtain ⟨k,hk⟩:∃ k,spanW s=k+1:=⟨spanW s-1,by omega⟩
 rw [hk,Nat.add_sub_cancel,pb_head]
 have hl:(pb G (x+1) y (spl s k)).length=k:=by rw [pb_len,spl_len]
 have hb:=bits_head (G (x+s.2.1) (y+s.1)) (pb G (x+1) y (spl s k))
 rw [hl] at hb
 rw [hb]
 congr 1
 unfold pb spl
 rw [List.map_map,List.map_map]
 refine List.map_congr_left fun j hj=>?_
 have hj:=List.mem_range.1 hj
 simp only [Function.comp]
 unfold upd
 rw [if_neg]
 rintro ⟨e1,e2⟩
 have h4:=h.z (by omega)
 omega
def WinOk (G:Int->Int->Bool) (x y:Int) (S:List Sp) (i:Nat) (wl:List Wn):Prop:=wl.length=S.length/\∀ j s,S[j]? = some s->∃ b,wl[j]? = some ⟨s,b⟩/\b<2 ^ spanW s /\
 (j<i->b=bitsN 0 (pb G x y (spl s (spanW s))))/\(i<=j->b % 2 ^ (spanW s-1)=bitsN 0 (pb G x y (spl s (spanW s-1))))
theorem WinOk.step {G:Int->Int->Bool} {x y:Int} {S:List Sp} {i:Nat} {wl:List Wn} {s:Sp} (h:WinOk G x y S i wl) (hs:S[i]? = some s):WinOk G x y S (i+1) (wl.set i ⟨s,bitsN 0 (pb G x y (spl s (spanW s)))⟩):=by
 refine ⟨by rw [List.length_set]; exact h.1,fun j s' hj=>?_⟩
 by_cases hji:i=j
 ·subst hji
  obtain rfl:s=s':=Option.some.inj (hs.symm.trans hj)
  have hi:i<wl.length:=by rw [h.1]; exact (List.getElem?_eq_some_iff.1 hs).1
  refine ⟨_,List.getElem?_set_self hi,?_,fun _=>rfl,fun h=>by omega⟩
  have:=bits0_lt (pb G x y (spl s (spanW s)))
  rwa [pb_len,spl_len] at this
 ·obtain ⟨b,h1,h2,h3,h4⟩:=h.2 j s' hj
  exact ⟨b,by rw [List.getElem?_set_ne hji]; exact h1,h2,fun h5=>h3 (by omega),fun h5=>h4 (by omega)⟩
theorem WinOk.next {G:Int->Int->Bool} {x y:Int} {S:List Sp} {wl:List Wn} (h:WinOk G x y S S.length wl) (hS:∀ s∈S,SpOk s) (bit:Bool):WinOk (upd G x y bit) (x+1) y S 0 wl:=by
 refine ⟨h.1,fun j s hj=>?_⟩
 obtain ⟨b,h1,h2,h3,h4⟩:=h.2 j s hj
 have hjl:=(List.getElem?_eq_some_iff.1 hj).1
 refine ⟨b,h1,h2,fun h5=>absurd h5 (Nat.not_lt_zero _),fun _=>?_⟩
 rw [h3 hjl]
 exact win_next (hS s (List.mem_of_getElem? hj)) bit
theorem ctx_step (G:Int->Int->Bool) (x y:Int) {S:List Sp} {i:Nat} {s:Sp} (hs:S[i]? = some s):bitsN 0 (pb G x y (plcs (S.take (i+1))))=bitsN 0 (pb G x y (plcs (S.take i)))*2 ^ spanW s+bitsN 0 (pb G x y (spl s (spanW s))):=by
 have hi:=(List.getElem?_eq_some_iff.1 hs).1
 have e:=(List.getElem?_eq_some_iff.1 hs).2
 rw [List.take_succ_eq_append_getElem hi,e]
 have e2:pb G x y (plcs (S.take i++[s]))=pb G x y (plcs (S.take i))++pb G x y (spl s (spanW s)):=by
  unfold plcs pb
  rw [List.flatMap_append,List.map_append]
  simp
 rw [e2,bitsN_app,bitsN_val,pb_len,spl_len]
section
variable {σ:Type}
def rowG (t:Nat) (step:σ->Nat->Bool->(Bool × σ) ⊕ (Int × σ)) (y:Nat):Nat->(Int->Int->Bool) × σ->((Int->Int->Bool) × σ) ⊕ (Int × σ)
 | 0,g => .inl g
 | k+1,g=>match rowG t step y k g with
  | .inr e => .inr e
  | .inl (G,s)=>match step s (gctx t G (k:Int) (y:Int)) (G (k:Int) (y:Int)) with
   | .inl (bit,s') => .inl (upd G (k:Int) (y:Int) bit,s')
   | .inr e => .inr e
theorem rowG_err {t:Nat} {step:σ->Nat->Bool->(Bool × σ) ⊕ (Int × σ)} {y:Nat} {g:(Int->Int->Bool) × σ} {e:Int × σ} {k:Nat} (h:rowG t step y k g = .inr e):∀ m,k<=m->rowG t step y m g = .inr e:=by
 intro m hm
 induction m with
 | zero=>rw [show k=0 by omega] at h; exact h
 | succ m ih =>
  rcases Nat.lt_or_ge m k with h1 | h1
  ·rw [show k=m+1 by omega] at h; exact h
  ·unfold rowG; rw [ih h1]
def sameB (G:Int->Int->Bool) (W y:Nat):Bool:=(List.range W).all fun x=>G (x:Int) (y:Int) == G (x:Int) ((y:Int)-1)
def copyRow (G:Int->Int->Bool) (y:Nat):Int->Int->Bool:=fun a b=>if b=(y:Int)/\y≠0 then G a ((y:Int)-1) else G a b
def runG (W t:Nat) (skip:Bool) (step:σ->Nat->Bool->(Bool × σ) ⊕ (Int × σ)):Nat->(Int->Int->Bool) × σ->((Int->Int->Bool) × σ) ⊕ (Int × σ)
 | 0,g => .inl g
 | y+1,g=>match runG W t skip step y g with
  | .inr e => .inr e
  | .inl (G,s)=>match skip with
   | false=>rowG t step y W (G,s)
   | true=>match step s (gsize t) (sameB G W y) with
    | .inr e => .inr e
    | .inl (true,s') => .inl (copyRow G y,s')
    | .inl (false,s')=>rowG t step y W (G,s')
theorem runG_err {W t:Nat} {skip:Bool} {step:σ->Nat->Bool->(Bool × σ) ⊕ (Int × σ)} {g:(Int->Int->Bool) × σ} {e:Int × σ} {k:Nat} (h:runG W t skip step k g = .inr e):∀ m,k<=m->runG W t skip step m g = .inr e:=by
 intro m hm
 induction m with
 | zero=>rw [show k=0 by omega] at h; exact h
 | succ m ih =>
  rcases Nat.lt_or_ge m k with h1 | h1
  ·rw [show k=m+1 by omega] at h; exact h
  ·unfold runG; rw [ih h1]
def DecOkI (N:Nat) (base:Int) (S:σ->List Ent->Prop) (Ok:Nat->σ->Prop) (step:σ->Nat->Bool->(Bool × σ) ⊕ (Int × σ)) (fv:Value):Prop :=
 (∃ t v,fv = .iface t v)/\∀ {h0 h:Heap} {FF:List Nat} {s:σ} {n:Nat} {bit:Bool} {K:VK} {Kp:PK},∀ {M:List Ent} {k:Nat},Ok k s->k<N->n<=65536->S s M->Hp h0 FF h M ->
  (∀ bit' s' M' h',step s n bit = .inl (bit',s')->Ok (k+1) s'->S s' M'->Hp h0 FF h' M'->K (.int .i64 (bit'.toNat:Nat)) h') ->
  (∀ e s' M' h',step s n bit = .inr (e,s')->Ok (k+1) s'->S s' M'->Hp h0 FF h' M'->Kp [{ v := .iface T_generic_fault (.agg #[.int .i64 e]),recovered:=false }] h') ->
  invokeD Go.Proofs.Tryz.prog (CallsHP Go.Proofs.Tryz.prog) fv "burin/generic.decide" [.int .i64 (base+(n:Int)), .int .i64 (bit.toNat:Nat)] h K Kp
end
end Go.Bm
namespace Go.Bm
open Go Go.Den Go.Den.YtfaclehehhgpcaaGreat
def procE (r p:Nat) (fv:Value) (base:Int) (t:Nat) (skip:Bool):Ent:=⟨r,true,T_generic_procedure,[fv, .pointer (at0 p), .int .i64 base, .int .i64 (t:Nat), .bool skip]⟩
theorem and_mask (a w:Nat) (ha:a<9223372036854775808) (hw:w<=62):bitI .and .i64 (a:Int) ((2 ^ w-1:Nat):Int)=((a % 2 ^ w:Nat):Int):=by
 have h1:2 ^ w<=2 ^ 62:=Nat.pow_le_pow_right (by decide) hw
 have h2:(2 ^ 62:Nat)=4611686018427387904:=rfl
 rw [and63 _ _ ha (by omega),Nat.and_two_pow_sub_one_eq_mod]
theorem keep_of {h0 h h3:Heap} {FF:List Nat} {A M:List Ent} {M':List Ent} (H:Hp h0 FF h (A++M)) (H':Hp h (M.map Ent.b) h3 M') {e:Ent} (he:e∈A):hkeep (fun b=>b=e.b) h h3 :=
 ⟨H'.fr.1,fun b hb hR=>H'.fr.2 b hb fun hm=>by
  obtain ⟨e',he',hbb⟩:=List.mem_map.1 hm
  exact (List.pairwise_append.1 H.pw).2.2 e he e' he' (by rw [<- hR,hbb])⟩
set_option maxHeartbeats 8000000 in
theorem grow_ok {σ:Type} {S:σ->List Ent->Prop} {Ok:Nat->σ->Prop} {step:σ->Nat->Bool->(Bool × σ) ⊕ (Int × σ)} {fv:Value} {base:Int} {NN:Nat} (hSw:∀ s M,S s M->M.all Ent.w=true) (hdec:DecOkI NN base S Ok step fv) (hb:0<=base/\base<=131072)
  {h0 h:Heap} {FF:List Nat} {rp p q W X N cc t y k0:Nat} {skip:Bool} {rest:List Value} {ws0:List Nat} {s0:σ} {M0:List Ent} (ht:t<4) (hS0:S s0 M0) (H:Hp h0 FF h ([procE rp p fv base t skip,mapE p q W X N cc,⟨q,true,T_uint64,u64s ws0++rest⟩]++M0))
  (hN:ws0.length=N) (hs:SizeP (W:Int) (X:Int)) (hl:N=X*wds W) (hw:W64 ws0) (hz:PadZ W X ws0) (hy:y<X) (hok0:Ok k0 s0) (hk0:k0+W<=NN) {K:VK} {Kp:PK}
  (hgood:∀ ws s M h',S s M->rowG t step y W (getP ws0 W X,s0) = .inl (getP ws W X,s)->ws.length=N->W64 ws->PadZ W X ws->Ok (k0+W) s->Hp h0 FF h' ([procE rp p fv base t skip,mapE p q W X N cc,⟨q,true,T_uint64,u64s ws++rest⟩]++M)->K (.tuple #[]) h')
  (hbad:∀ e ws s M h' k,S s M->rowG t step y W (getP ws0 W X,s0) = .inr (e,s)->ws.length=N->k<=NN->Ok k s->Hp h0 FF h' ([procE rp p fv base t skip,mapE p q W X N cc,⟨q,true,T_uint64,u64s ws++rest⟩]++M) ->
   Kp [{ v := .iface T_generic_fault (.agg #[.int .i64 e]),recovered:=false }] h') :
  CP F_generic_procedure_row #[.pointer (at0 rp), .int .i64 (W:Nat), .int .i64 (y:Nat)] h K Kp:=by
 refine call_generic_procedure_row ?_
 unfold generic_procedure_row
 obtain ⟨W',X',e1,e2,hW1,hW2,hX1,hX2,hWX⟩:=size_nat hs
 obtain rfl:W=W':=by omega
 obtain rfl:X=X':=by omega
 clear e1 e2
 have hSL:=spanL_len ht
 have hSok:=spanL_ok ht
 refine ptr_of (a:=⟨rp,0,none⟩) ?_
 refine ldI_of (hpA H 0 rfl rfl) ?_
 refine gspans_ok ht fun rs h' H'=>?_
 replace H:=(H.join H' rfl).rot
 clear H'
 refine ⟨_,_,_,rfl,?_⟩
 obtain ⟨SL,hSLd⟩:∃ SL,SL=spanL t:=⟨_,rfl⟩
 rw [<- hSLd] at H hSL hSok ⊢
 obtain ⟨G0,hG0⟩:∃ G0,G0=getP ws0 W X:=⟨_,rfl⟩
 obtain ⟨L0,hL0⟩:∃ L0:List Ent,L0=[⟨rs,true,T_generic_span,spC SL⟩,procE rp p fv base t skip,mapE p q W X N cc,⟨q,true,T_uint64,u64s ws0++rest⟩]++M0:=⟨_,rfl⟩
 have H:Hp h0 FF h' L0:=by rw [hL0]; exact H
 refine ⟨fun n vs h'=>∃ (i:Nat) (D:List Ent) (qw:Option Addr) (cw:Nat),i+n=SL.length/\vs=[.slice qw i cw, .int .i64 (i:Nat)] /\
   Slot T_generic_window 5 D qw i cw (wnsC ((SL.take i).map fun s=>⟨s,bitsN 0 (pb G0 0 y (spl s (spanW s-1)))⟩))/\Hp h0 FF h' (L0++D),
  ⟨SL.length,0,[],none,0,by omega,rfl,Slot.nil _ _,H.as (List.append_nil _).symm⟩,?_⟩
 clear H
 rintro n h u a b c d ⟨i,D,qw,cw,hin,hxx,hsl,H⟩
 injection hxx with h1 hxx
 injection hxx with h2 hxx
 injection h1 with h11 h12 h13
 injection h2 with _ h2
 subst a b c d
 refine bcase_dec (fun h3=>?_) fun h3=>?_
 ·
  have hi:i<SL.length:=by omega
  obtain ⟨s,hsi⟩:∃ s,SL[i]? = some s:=⟨_,List.getElem?_eq_getElem hi⟩
  have hso:=hSok s (List.mem_of_getElem? hsi)
  obtain ⟨k0',k1,k2⟩:=spC_get hsi
  have o1:=hso.d
  have o2:=hso.f
  have o3:=hso.t
  obtain ⟨w1,w2,w3⟩:=spanW_pos hso
  refine needs_of (by omega) (ptr_of (a:=⟨rs,0,none⟩) ?_)
  rw [Int.toNat_natCast]
  have H0:Hp h0 FF h ([⟨rs,true,T_generic_span,spC SL⟩,procE rp p fv base t skip,mapE p q W X N cc,⟨q,true,T_uint64,u64s ws0++rest⟩]++(M0++D)):=by
   rw [hL0] at H
   exact H.asc
  refine ldI_of (hpB H0 0 rfl (by rw [Nat.zero_add,Nat.add_zero]; exact k0')) (ldI_of (hpB H0 0 rfl (by rw [Nat.zero_add]; exact k1)) (ldI_of (hpB H0 0 rfl (by rw [Nat.zero_add]; exact k2)) ?_))
  clear H0
  refine newC_hp H fun r17 h H=>?_
  have H:=H.rot
  repeat first | with_reducible refine stA H 0 (by with_unfolding_all exact rfl) (by with_unfolding_all exact rfl) (by with_unfolding_all exact rfl) fun h H=>?_ | with_reducible refine st0 H 0 (by with_unfolding_all exact rfl) (by with_unfolding_all exact rfl) (by with_unfolding_all exact rfl) fun h H=>?_ | with_reducible refine stB H 0 (by with_unfolding_all exact rfl) (by with_unfolding_all exact rfl) (by with_unfolding_all exact rfl) fun h H=>?_
  repeat first | with_reducible refine ldI_of (by with_unfolding_all first | exact hpA H 0 rfl rfl | exact Hp.cell H 0 rfl rfl | exact hpB H 0 rfl rfl | exact hpC H 0 rfl rfl) ?_ | with_reducible refine ldS_of (by with_unfolding_all first | exact hpA H 0 rfl rfl | exact Hp.cell H 0 rfl rfl | exact hpB H 0 rfl rfl | exact hpC H 0 rfl rfl) ?_ | with_reducible refine ldP_of (by with_unfolding_all first | exact hpA H 0 rfl rfl | exact Hp.cell H 0 rfl rfl | exact hpB H 0 rfl rfl | exact hpC H 0 rfl rfl) ?_ | with_reducible refine ldB_of (by with_unfolding_all first | exact hpA H 0 rfl rfl | exact Hp.cell H 0 rfl rfl | exact hpB H 0 rfl rfl | exact hpC H 0 rfl rfl) ?_ | with_reducible refine ldT_of (by with_unfolding_all first | exact hpA H 0 rfl rfl | exact Hp.cell H 0 rfl rfl | exact hpB H 0 rfl rfl | exact hpC H 0 rfl rfl) ?_
  refine bindI_of ((s.2.2-s.2.1)) (by exact i64_in _ (by omega) (by omega)) ?_
  refine bindI_of (((spanW s:Nat):Int)) (by exact i64_at _ _ (by omega) (by omega) (by omega)) ?_
  refine needs_of (by omega) ?_
  have hp8:2 ^ spanW s<=256:=Nat.le_trans (Nat.pow_le_pow_right (n:=2) (by decide) w2) (by decide)
  have hp1:=Nat.two_pow_pos (spanW s)
  refine bindI_of (((2 ^ spanW s:Nat):Int)) (by exact (shlI_of (a:=1) (i:=spanW s) (by omega) (by omega)).trans (by rw [Nat.one_mul])) ?_
  refine bindI_of (((maskW s:Nat):Int)) (by exact i64_at _ _ (by unfold maskW; omega) (by omega) (by unfold maskW; omega)) ?_
  have H:Hp h0 FF h ([⟨r17,true,T_generic_span,[.int .i64 s.1, .int .i64 s.2.1, .int .i64 s.2.2]⟩]++(L0++D)):=H
  refine newC_hp H fun r31 h H=>?_
  have H:=H.rot
  repeat first | with_reducible refine stA H 0 (by with_unfolding_all exact rfl) (by with_unfolding_all exact rfl) (by with_unfolding_all exact rfl) fun h H=>?_ | with_reducible refine st0 H 0 (by with_unfolding_all exact rfl) (by with_unfolding_all exact rfl) (by with_unfolding_all exact rfl) fun h H=>?_ | with_reducible refine stB H 0 (by with_unfolding_all exact rfl) (by with_unfolding_all exact rfl) (by with_unfolding_all exact rfl) fun h H=>?_
  repeat first | with_reducible refine ldI_of (by with_unfolding_all first | exact hpA H 1 rfl rfl | exact Hp.cell H 1 rfl rfl | exact hpB H 1 rfl rfl | exact hpC H 1 rfl rfl) ?_ | with_reducible refine ldS_of (by with_unfolding_all first | exact hpA H 1 rfl rfl | exact Hp.cell H 1 rfl rfl | exact hpB H 1 rfl rfl | exact hpC H 1 rfl rfl) ?_ | with_reducible refine ldP_of (by with_unfolding_all first | exact hpA H 1 rfl rfl | exact Hp.cell H 1 rfl rfl | exact hpB H 1 rfl rfl | exact hpC H 1 rfl rfl) ?_ | with_reducible refine ldB_of (by with_unfolding_all first | exact hpA H 1 rfl rfl | exact Hp.cell H 1 rfl rfl | exact hpB H 1 rfl rfl | exact hpC H 1 rfl rfl) ?_ | with_reducible refine ldT_of (by with_unfolding_all first | exact hpA H 1 rfl rfl | exact Hp.cell H 1 rfl rfl | exact hpB H 1 rfl rfl | exact hpC H 1 rfl rfl) ?_
  have hw0:∀ j,bitsN 0 (pb G0 0 y (spl s j))<2 ^ j:=fun j=>by
   have:=bits0_lt (pb G0 0 y (spl s j))
   rwa [pb_len,spl_len] at this
  have H:Hp h0 FF h ([⟨r31,true,T_generic_window,[.int .i64 s.1, .int .i64 s.2.1, .int .i64 s.2.2, .int .i64 ((bitsN 0 (pb G0 0 y (spl s 0)):Nat):Int), .int .i64 (maskW s:Nat)]⟩,⟨r17,true,T_generic_span,[.int .i64 s.1, .int .i64 s.2.1, .int .i64 s.2.2]⟩]++(L0++D)):=H
  refine ⟨fun n vs h'=>∃ j:Nat,j+n=spanW s-1/\vs=[.int .i64 (s.2.1+(j:Int))] /\
    Hp h0 FF h' ([⟨r31,true,T_generic_window,[.int .i64 s.1, .int .i64 s.2.1, .int .i64 s.2.2, .int .i64 ((bitsN 0 (pb G0 0 y (spl s j)):Nat):Int), .int .i64 (maskW s:Nat)]⟩,⟨r17,true,T_generic_span,[.int .i64 s.1, .int .i64 s.2.1, .int .i64 s.2.2]⟩]++(L0++D)),
   ⟨spanW s-1,0,by omega,by simp,H⟩,?_⟩
  clear H
  rintro n2 h u2 x44 ⟨j,hjn,hxx,H⟩
  injection hxx with hxx
  injection hxx with _ hxx
  subst hxx
  repeat first | with_reducible refine ldI_of (by with_unfolding_all first | exact hpA H 1 rfl rfl | exact Hp.cell H 1 rfl rfl | exact hpB H 1 rfl rfl | exact hpC H 1 rfl rfl) ?_ | with_reducible refine ldS_of (by with_unfolding_all first | exact hpA H 1 rfl rfl | exact Hp.cell H 1 rfl rfl | exact hpB H 1 rfl rfl | exact hpC H 1 rfl rfl) ?_ | with_reducible refine ldP_of (by with_unfolding_all first | exact hpA H 1 rfl rfl | exact Hp.cell H 1 rfl rfl | exact hpB H 1 rfl rfl | exact hpC H 1 rfl rfl) ?_ | with_reducible refine ldB_of (by with_unfolding_all first | exact hpA H 1 rfl rfl | exact Hp.cell H 1 rfl rfl | exact hpB H 1 rfl rfl | exact hpC H 1 rfl rfl) ?_ | with_reducible refine ldT_of (by with_unfolding_all first | exact hpA H 1 rfl rfl | exact Hp.cell H 1 rfl rfl | exact hpB H 1 rfl rfl | exact hpC H 1 rfl rfl) ?_
  refine bcase_dec (fun h4=>?_) fun h4=>?_
  ·refine ⟨fun _=>True,?_⟩
   refine ptr_of (a:=⟨rp,0,none⟩) ?_
   refine ldI_of (hpA H 0 rfl rfl) ⟨trivial,?_⟩
   have hbj:=hw0 j
   have hj8:2 ^ j<=2 ^ 8:=Nat.pow_le_pow_right (by decide) (by omega)
   have hsn:=bits_snoc G0 0 y s j
   rw [Int.zero_add] at hsn
   have hg:=toNat_le (G0 (s.2.1+(j:Int)) ((y:Int)+s.1))
   generalize bitsN 0 (pb G0 0 y (spl s j))=B at hbj hsn H ⊢
   refine bindI_of ((2*B:Nat):Int) ((shl1 (by omega)).trans (by rw [Nat.mul_comm])) ?_
   have HM:Hp h0 FF h ([⟨r31,true,T_generic_window,[.int .i64 s.1, .int .i64 s.2.1, .int .i64 s.2.2, .int .i64 (B:Nat), .int .i64 (maskW s:Nat)]⟩,⟨r17,true,T_generic_span,[.int .i64 s.1, .int .i64 s.2.1, .int .i64 s.2.2]⟩,⟨rs,true,T_generic_span,spC SL⟩,procE rp p fv base t skip,mapE p q W X N cc,⟨q,true,T_uint64,u64s ws0++rest⟩]++(M0++D)):=by
    rw [hL0] at H
    exact H.as (by simp)
   refine ldP_of (hpA HM 3 rfl rfl) ⟨trivial,?_⟩
   refine ldI_of (hpA H 1 rfl rfl) ⟨trivial,?_⟩
   refine bindI_of (((y:Int)+s.1)) (by exact i64_in _ (by omega) (by omega)) ?_
   refine mget_ok (ws:=ws0) (c:=cc) (rest:=rest) HM 4 5 (by rw [hN]; rfl) rfl hs (by rw [hN]; exact hl) hw ?_
   refine ⟨_,rfl,hkeep.refl _ _,?_⟩
   rw [<- hG0]
   refine bindI_of _ (orA (i:=1) (by decide) (by omega) (by omega) (by omega)) ?_
   refine stA H 0 rfl rfl rfl fun h H=>?_
   refine bindI_of ((s.2.1+((j+1:Nat):Int))) (by exact i64_at _ _ (by omega) (by omega) (by omega)) ?_
   refine ⟨n2-1,by omega,j+1,by omega,rfl,?_⟩
   rw [hsn]
   exact H
  ·obtain rfl:j=spanW s-1:=by omega
   repeat first | with_reducible refine ldI_of (by with_unfolding_all first | exact hpA H 0 rfl rfl | exact Hp.cell H 0 rfl rfl | exact hpB H 0 rfl rfl | exact hpC H 0 rfl rfl) ?_ | with_reducible refine ldS_of (by with_unfolding_all first | exact hpA H 0 rfl rfl | exact Hp.cell H 0 rfl rfl | exact hpB H 0 rfl rfl | exact hpC H 0 rfl rfl) ?_ | with_reducible refine ldP_of (by with_unfolding_all first | exact hpA H 0 rfl rfl | exact Hp.cell H 0 rfl rfl | exact hpB H 0 rfl rfl | exact hpC H 0 rfl rfl) ?_ | with_reducible refine ldB_of (by with_unfolding_all first | exact hpA H 0 rfl rfl | exact Hp.cell H 0 rfl rfl | exact hpB H 0 rfl rfl | exact hpC H 0 rfl rfl) ?_ | with_reducible refine ldT_of (by with_unfolding_all first | exact hpA H 0 rfl rfl | exact Hp.cell H 0 rfl rfl | exact hpB H 0 rfl rfl | exact hpC H 0 rfl rfl) ?_
   refine newC_hp H fun r64 h H=>?_
   have hnewc:∀ v∈wnC ⟨s,bitsN 0 (pb G0 0 y (spl s (spanW s-1)))⟩,v.oneCell'=true:=List.all_eq_true.1 (by rfl)
   have hrd:=rdO_hp (H.rot) 0 (b:=r64) (o:=0) (n:=1*5) (w:=true) (t:=T_generic_window) (cs:=wnC ⟨s,bitsN 0 (pb G0 0 y (spl s (spanW s-1)))⟩) rfl (Nat.le_refl _)
   have hrd:rdO h (some ⟨r64,0,none⟩) (1*5) (wnC ⟨s,bitsN 0 (pb G0 0 y (spl s (spanW s-1)))⟩):=hrd
   have H:Hp h0 FF h (L0++(D++[])):=(H.rot).sub (by
    rw [List.append_nil]
    exact List.Sublist.trans (List.sublist_append_right _ _) (List.sublist_append_right _ _))
   refine hsl.app H rfl hrd rfl hnewc (Nat.le_refl _) (by omega) fun D' qw' cw' h' hsl' H=>?_
   refine bindI_of (((i+1:Nat):Int)) (by exact i64_at _ _ (by omega) (by omega) (by omega)) ?_
   refine ⟨n-1,by omega,i+1,D',qw',cw',by omega,rfl,?_,H.as (by rw [List.append_nil])⟩
   have e:=(List.getElem?_eq_some_iff.1 hsi).2
   rw [List.take_succ_eq_append_getElem hi,e,List.map_append,wnsC_app]
   exact hsl'
 ·
  have hi:SL.length<=i:=by omega
  obtain rfl:i=SL.length:=by omega
  rw [List.take_of_length_le (Nat.le_refl _)] at hsl
  obtain ⟨wl0,hwl0⟩:∃ wl0:List Wn,wl0=SL.map fun s=>⟨s,bitsN 0 (pb G0 0 y (spl s (spanW s-1)))⟩:=⟨_,rfl⟩
  rw [<- hwl0] at hsl
  have hwin0:WinOk G0 (0:Nat) y SL 0 wl0:=by
   refine ⟨by rw [hwl0,List.length_map],fun j s hj=>⟨bitsN 0 (pb G0 0 y (spl s (spanW s-1))),by rw [hwl0,List.getElem?_map,hj]; rfl,?_,fun h5=>absurd h5 (Nat.not_lt_zero _),fun _=>?_⟩⟩
   ·have:=bits0_lt (pb G0 0 y (spl s (spanW s-1)))
    rw [pb_len,spl_len] at this
    exact Nat.lt_of_lt_of_le this (Nat.pow_le_pow_right (by decide) (by omega))
   ·have:=bits0_lt (pb G0 0 y (spl s (spanW s-1)))
    rw [pb_len,spl_len] at this
    exact Nat.mod_eq_of_lt this
  obtain ⟨hll,⟨rfl,rfl,hn0,_⟩ | ⟨bw,restw,rfl,rfl,hcw⟩⟩:=hsl
  ·omega
  have H:Hp h0 FF h ([⟨bw,true,T_generic_window,wnsC wl0++restw⟩,procE rp p fv base t skip,mapE p q W X N cc,⟨q,true,T_uint64,u64s ws0++rest⟩]++M0):=by
   rw [hL0] at H
   exact (H.rot).sub (List.Sublist.cons_cons _ (List.Sublist.cons _ (List.Sublist.refl _)))
  have hrow0:rowG t step y 0 (getP ws0 W X,s0) = .inl (getP ws0 W X,s0):=rfl
  rw [hG0] at hwin0
  refine ⟨fun n vs h'=>∃ (x:Nat) (ws:List Nat) (s:σ) (M:List Ent) (wl:List Wn),x+n=W/\vs=[.int .i64 (x:Nat)]/\rowG t step y x (getP ws0 W X,s0) = .inl (getP ws W X,s)/\ws.length=N/\W64 ws/\PadZ W X ws/\Ok (k0+x) s/\S s M/\WinOk (getP ws W X) (x:Nat) y SL 0 wl /\
    Hp h0 FF h' ([⟨bw,true,T_generic_window,wnsC wl++restw⟩,procE rp p fv base t skip,mapE p q W X N cc,⟨q,true,T_uint64,u64s ws++rest⟩]++M),
   ⟨W,0,ws0,s0,M0,wl0,by omega,rfl,hrow0,hN,hw,hz,hok0,hS0,hwin0,H⟩,?_⟩
  clear H hwin0 hwl0 hll hL0
  rintro n h u xx ⟨x,ws,s,M,wl,hxn,hxx,hrow,hlw,hww,hzz,hoks,hM,hwin,H⟩
  injection hxx with hxx
  injection hxx with _ hxx
  subst hxx
  refine bcase_dec (fun h4=>?_) fun h4=>?_
  ·have hx:x<W:=by omega
   have hgl:=gsize_le ht
   obtain ⟨GG,hGG⟩:∃ GG,GG=getP ws W X:=⟨_,rfl⟩
   rw [<- hGG] at hwin
   have hplen:∀ i,(plcs (SL.take i)).length<=16:=fun i=>by rw [hSLd]; exact plcs_small ht
   have hacc:∀ i,bitsN 0 (pb GG (x:Nat) y (plcs (SL.take i)))<65536:=fun i=>by
    have:=bits0_lt (pb GG (x:Nat) y (plcs (SL.take i)))
    rw [pb_len] at this
    exact Nat.lt_of_lt_of_le this (Nat.le_trans (Nat.pow_le_pow_right (n:=2) (by decide) (hplen i)) (by decide))
   refine ⟨fun n vs h'=>∃ (i:Nat) (wl:List Wn),i+n=SL.length/\vs=[.int .i64 ((bitsN 0 (pb GG (x:Nat) y (plcs (SL.take i))):Nat):Int), .int .i64 (i:Nat)]/\WinOk GG (x:Nat) y SL i wl /\
     Hp h0 FF h' ([⟨bw,true,T_generic_window,wnsC wl++restw⟩,procE rp p fv base t skip,mapE p q W X N cc,⟨q,true,T_uint64,u64s ws++rest⟩]++M),⟨SL.length,0,wl,by omega,rfl,hwin,H⟩,?_⟩
   clear H hwin
   rintro n2 h u2 a b ⟨i,wl,hin2,hxx,hwin,H⟩
   injection hxx with h1 hxx
   injection hxx with h2 hxx
   injection h1 with _ h1
   injection h2 with _ h2
   subst h1 h2
   refine bcase_dec (fun h5=>?_) fun h5=>?_
   ·have hi:i<SL.length:=by omega
    obtain ⟨sp,hsi⟩:∃ s,SL[i]? = some s:=⟨_,List.getElem?_eq_getElem hi⟩
    have hso:=hSok sp (List.mem_of_getElem? hsi)
    have o1:=hso.d
    have o2:=hso.f
    have o3:=hso.t
    obtain ⟨w1,w2,w3⟩:=spanW_pos hso
    obtain ⟨B,hB1,hB2,_,hB4⟩:=hwin.2 i sp hsi
    have hB4:=hB4 (Nat.le_refl _)
    have hp8:2 ^ spanW sp<=256:=Nat.le_trans (Nat.pow_le_pow_right (n:=2) (by decide) w2) (by decide)
    have hget:∀ j v,(wnC ⟨sp,B⟩)[j]? = some v->(wnsC wl++restw)[i*5+j]? = some v:=fun j v hv=>Go.Ar.get_app (wnsC_get hB1 j v hv)
    have hst:=win_step hso hB4
    have hctx:=ctx_step GG (x:Nat) y hsi
    have hac1:=hacc i
    have hac2:=hacc (i+1)
    have hnb:bitsN 0 (pb GG (x:Nat) y (spl sp (spanW sp)))<2 ^ spanW sp:=by
     have:=bits0_lt (pb GG (x:Nat) y (spl sp (spanW sp)))
     rwa [pb_len,spl_len] at this
    have hwn:=hwin.step hsi
    have hwlen:i*5+3<(wnsC wl).length:=by
     rw [wnsC_len,hwin.1]
     omega
    refine needs_of (by omega) (ptr_of (a:=⟨bw,0,none⟩) ?_)
    rw [Int.toNat_natCast]
    refine ⟨fun _=>True,?_⟩
    refine ptr_of (a:=⟨rp,0,none⟩) ?_
    refine ldI_of (hpB H 0 rfl (by rw [Nat.zero_add]; exact hget 3 _ rfl)) ⟨trivial,?_⟩
    show bindI (shlI .i64 (B:Int) 1) _
    refine bindI_of ((2*B:Nat):Int) ((shl1 (by omega)).trans (by rw [Nat.mul_comm])) ?_
    refine ldP_of (hpA H 1 rfl rfl) ⟨trivial,?_⟩
    refine ldI_of (hpC H 0 rfl (by rw [Nat.zero_add,Nat.add_zero]; exact hget 2 _ rfl)) ⟨trivial,?_⟩
    refine bindI_of (((x:Int)+sp.2.2)) (by exact i64_at _ _ rfl (by omega) (by omega)) ?_
    refine ldI_of (hpC H 0 rfl (by rw [Nat.zero_add]; exact hget 0 _ rfl)) ⟨trivial,?_⟩
    refine bindI_of (((y:Int)+sp.1)) (by exact i64_at _ _ rfl (by omega) (by omega)) ?_
    refine ldI_of (hpB H 0 rfl (by rw [Nat.zero_add]; exact hget 4 _ rfl)) ⟨trivial,?_⟩
    refine mget_ok (ws:=ws) (c:=cc) (rest:=rest) H 2 3 (by rw [hlw]; rfl) rfl hs (by rw [hlw]; exact hl) hww ?_
    refine ⟨_,rfl,hkeep.refl _ _,?_⟩
    rw [<- hGG]
    have hg:=toNat_le (GG ((x:Int)+sp.2.2) ((y:Int)+sp.1))
    refine bindI_of _ (orA (i:=1) (by decide) (by omega) (by omega) (by omega)) ?_
    have hbt:2*B+(GG ((x:Int)+sp.2.2) ((y:Int)+sp.1)).toNat<9223372036854775808:=by omega
    generalize GG ((x:Int)+sp.2.2) ((y:Int)+sp.1)=gg at hst hg hbt ⊢
    refine bindI_of _ (and_mask _ (spanW sp) hbt (by omega)) ?_
    rw [hst]
    generalize bitsN 0 (pb GG (x:Nat) y (spl sp (spanW sp)))=nb at hnb hctx hwn ⊢
    rw [add_mk,add_mk,Nat.zero_add]
    refine stV_hp H 0 rfl (by rw [List.length_append]; omega) rfl fun h hsz H=>?_
    have hset:(wnsC wl++restw).set (i*5+3) (.int .i64 (nb:Nat))=wnsC (wl.set i ⟨sp,nb⟩)++restw:=by
     rw [List.set_append_left _ _ hwlen,wnsC_set nb hB1]
    rw [hset] at H
    have H:Hp h0 FF h ([⟨bw,true,T_generic_window,wnsC (wl.set i ⟨sp,nb⟩)++restw⟩,procE rp p fv base t skip,mapE p q W X N cc,⟨q,true,T_uint64,u64s ws++rest⟩]++M):=H
    have hil:i<wl.length:=by rw [hwin.1]; exact hi
    have hget2:∀ j v,(wnC ⟨sp,nb⟩)[j]? = some v->(wnsC (wl.set i ⟨sp,nb⟩)++restw)[i*5+j]? = some v:=fun j v hv=>Go.Ar.get_app (wnsC_get (List.getElem?_set_self hil) j v hv)
    refine ldI_of (H.cell 0 rfl (hget2 4 _ rfl)) ?_
    have hma:=mask_add sp
    refine bindI_of (((2 ^ spanW sp:Nat):Int)) (by exact i64_at _ _ (by rw [<- hma]; rfl) (by omega) (by omega)) ?_
    have hmul:bitsN 0 (pb GG (x:Nat) y (plcs (SL.take i)))*2 ^ spanW sp<=65536*256:=Nat.mul_le_mul (by omega) hp8
    generalize bitsN 0 (pb GG (x:Nat) y (plcs (SL.take i)))=acc at hmul hctx hac1 ⊢
    refine bindI_of (((acc*2 ^ spanW sp:Nat):Int)) (by exact i64_at _ _ mul_cast (by omega) (by omega)) ?_
    refine ldI_of (H.cell 0 rfl (hget2 3 _ rfl)) ?_
    refine bindI_of (((bitsN 0 (pb GG (x:Nat) y (plcs (SL.take (i+1)))):Nat):Int)) (by exact i64_at _ _ (by show _+(nb:Int)=_; omega) (by omega) (by omega)) ?_
    refine bindI_of (((i+1:Nat):Int)) (by exact i64_at _ _ (by omega) (by omega) (by omega)) ?_
    exact ⟨n2-1,by omega,i+1,_,by omega,rfl,hwn,H⟩
   ·obtain rfl:i=SL.length:=by omega
    have hctx:bitsN 0 (pb GG (x:Nat) y (plcs (SL.take SL.length)))=gctx t GG (x:Nat) y:=by rw [List.take_of_length_le (Nat.le_refl _),hSLd]; rfl
    rw [hctx]
    have hcl:=gctx_lt t GG (x:Nat) y
    obtain ⟨⟨ft,fx,hfv⟩,hdec⟩:=hdec
    refine ⟨fun b=>b=rp,?_⟩
    refine ptr_of (a:=⟨rp,0,none⟩) (ptr_of (a:=⟨rp,0,none⟩) (ptr_of (a:=⟨rp,0,none⟩) (ptr_of (a:=⟨rp,0,none⟩) ?_)))
    refine ldP_of (hpA H 1 rfl rfl) ⟨rfl,?_⟩
    refine ldV_of (hpA H 1 rfl rfl) ⟨rfl,?_⟩
    have hnil:∀ K:Value->Prop,K fv->nilD fv K:=fun K hk=>by subst hfv; exact hk
    refine hnil _ ?_
    refine ldI_of (hpA H 1 rfl rfl) ⟨rfl,?_⟩
    refine bindI_of ((base+((gctx t GG (x:Nat) y:Nat):Int))) (by exact i64_in _ (by omega) (by omega)) ?_
    refine ldP_of (hpA H 1 rfl rfl) ⟨rfl,?_⟩
    refine mget_ok (ws:=ws) (c:=cc) (rest:=rest) H 2 3 (by rw [hlw]; rfl) rfl hs (by rw [hlw]; exact hl) hww ?_
    refine ⟨_,rfl,hkeep.refl _ _,?_⟩
    rw [<- hGG]
    have hstep:rowG t step y (x+1) (getP ws0 W X,s0)=match step s (gctx t GG (x:Int) (y:Int)) (GG (x:Int) (y:Int)) with
      | .inl (bit,s') => .inl (upd GG (x:Int) (y:Int) bit,s')
      | .inr e => .inr e:=by
     (rw [rowG,hrow,<- hGG]) <;> rfl
    refine hdec hoks (by omega) (by omega) hM H.giveS (fun bit' s' M' h3 hst hok' hM' H'=>?_) fun e s' M' h3 hst hok' hM' H'=>?_
    ·rw [hst] at hstep
     simp only at hstep
     have keep:=keep_of H H' (e:=procE rp p fv base t skip) (by simp)
     have H3:=H.putS (hSw s M hM) H' (hSw s' M' hM')
     refine ⟨_,rfl,keep,?_⟩
     refine mset_ok (ws:=ws) (c:=cc) (rest:=rest) H3 2 3 (by rw [hlw]; rfl) rfl hs (by rw [hlw]; exact hl) hww hx hy fun R h4 k1 k2 k3 H4=>?_
     refine ⟨_,rfl,?_⟩
     refine bindI_of (((x+1:Nat):Int)) (by exact i64_at _ _ (by omega) (by omega) (by omega)) ?_
     have hset:=getP_set hx hy k3
     rw [<- hGG] at hset
     refine ⟨n-1,by omega,x+1,R,s',M',wl,by omega,rfl,by rw [hset]; exact hstep,by rw [k1,hlw],k2,hzz.set hx k3,hok',hM',?_,H4⟩
     rw [hset]
     exact hwin.next hSok bit'
    ·rw [hst] at hstep
     simp only at hstep
     have H3:=H.putS (hSw s M hM) H' (hSw s' M' hM')
     exact hbad e ws s' M' h3 (k0+x+1) hM' (rowG_err hstep _ (by omega)) hlw (by omega) hok' (H3.sub (List.Sublist.append (List.Sublist.cons _ (List.Sublist.refl _)) (List.Sublist.refl _)))
  ·obtain rfl:W=x:=by omega
   exact hgood ws s M h hM hrow hlw hww hzz hoks (H.sub (List.Sublist.append (List.Sublist.cons _ (List.Sublist.refl _)) (List.Sublist.refl _)))
end Go.Bm
namespace Go.Bm
open Go Go.Den Go.Den.YtfaclehehhgpcaaGreat
theorem word_okN {h:Heap} {q:Option Addr} {c:Nat} {ws:List Nat} {n:Nat} (e:ws.length=n) (hr:rdO h q (ws.length*1) (u64s ws)) (hw:W64 ws) (hl:ws.length<1048577) {x:Int} (hx:-1000000000<=x/\x<1000000000) {K:VK} {Kp:PK}
  (hk:∀ V:Nat,V<M64->(∀ j,j<64->V.testBit j=rowB ws (x+(63-(j:Int))))->K (.int .u64 (V:Nat)) h) :
  CP F_bitmap_word #[.slice q n c, .int .i64 x] h K Kp:=by
 subst e
 exact word_ok hr hw hl hx hk
theorem blitS_ok {h0 h:Heap} {FF:List Nat} {p q W X:Nat} {ws:List Nat} {rest:List Value} (H:Hp h0 FF h (mapL p q W X ws rest)) (hs:SizeP (W:Int) (X:Int)) (hl:ws.length=X*wds W) (hw:W64 ws)
  {sx sy w g dx dy:Int} {op:Nat} (hsx:InI sx) (hsy:InI sy) (hwi:InI w) (hgi:InI g) (hdx:InI dx) (hdy:InI dy) (hw0:0<=w) (hg0:0<=g) (hop:op<5) (hg1:g<=1)
  {K:VK} {Kp:PK}
  (hk:∀ R h',R.length=X*wds W->W64 R->(∀ Y,Y<X->∀ x',x'<64*wds W->pix R (wds W) x' Y =
    if dx<=x'/\(x':Int)<dx+w/\x'<W/\dy<=Y/\(Y:Int)<dy+g/\0<=sx+(x'-dx)/\sx+(x'-dx)<W/\0<=sy+(Y-dy)/\sy+(Y-dy)<X then opB op (pix ws (wds W) x' Y) (pix ws (wds W) (sx+(x'-dx)).toNat (sy+(Y-dy)).toNat) else pix ws (wds W) x' Y) ->
   Hp h0 FF h' (mapL p q W X R rest)->K (.int .i64 0) h') :
  CP F_bitmap_Map_Blit #[.pointer (at0 p), .pointer (at0 p), .int .i64 sx, .int .i64 sy, .int .i64 w, .int .i64 g, .int .i64 dx, .int .i64 dy, .int .i64 (op:Nat)] h K Kp:=by
 refine call_bitmap_Map_Blit ?_
 unfold bitmap_Map_Blit
 obtain ⟨W',X',e1,e2,hW1,hW2,hX1,hX2,hWX⟩:=size_nat hs
 obtain rfl:W=W':=by omega
 obtain rfl:X=X':=by omega
 clear e1 e2
 have hhw:=hw_le hW1 hWX
 have hwl:=wds_le hW1
 have hwp2:=wds_pos hW1
 refine bcase_false (by rfl) ?_
 refine bcase_dec (fun h1=>by omega) fun h1=>?_
 refine bcase_dec (fun h2=>by omega) fun h2=>?_
 refine bcase_dec (fun h3=>by omega) fun h3=>?_
 refine bcase_dec (fun h4=>by omega) fun h4=>?_
 clear h1 h2 h3 h4
 try simp only [ptr_some_eq,add_mk,Nat.zero_add,Nat.add_zero]
 refine ldI_of (H.cell 0 rfl (i:=0) rfl) ?_
 refine ldI_of (H.cell 0 rfl rfl) ?_
 refine both_ok hsx hdx hwi (by omega) (by omega) fun f1 t1 l1 c1=>?_
 refine ⟨_,_,_,rfl,?_⟩
 refine ldI_of (H.cell 0 rfl (i:=1) rfl) ?_
 refine ldI_of (H.cell 0 rfl rfl) ?_
 refine both_ok hsy hdy hgi (by omega) (by omega) fun f2 t2 l2 c2=>?_
 refine ⟨_,_,_,rfl,?_⟩
 have none:(l1=0\/l2=0)->K (.int .i64 0) h:=fun hz=>by
  refine hk ws _ hl hw (fun Y hY x' hx'=>?_) H
  rw [if_neg]
  rintro ⟨g1,g2,g3,g4,g5,g6,g7,g8,g9⟩
  rcases hz with hz | hz
  ·rcases c1 with ⟨_,c1⟩ | c1
   ·exact c1 (x'-dx) (by omega) (by omega) (by omega) (by omega) (by omega) (by omega)
   ·omega
  ·rcases c2 with ⟨_,c2⟩ | c2
   ·exact c2 (Y-dy) (by omega) (by omega) (by omega) (by omega) (by omega) (by omega)
   ·omega
 refine bcase_eq (fun h3=>none (.inl h3)) fun h3=>?_
 refine bcase_eq (fun h4=>none (.inr h4)) fun h4=>?_
 clear none
 obtain ⟨a1,a2,a3,a4,a5,a6,a7,a8,a9⟩:=c1.resolve_left (fun h=>h3 h.1)
 obtain ⟨b1,b2,b3,b4,b5,b6,b7,b8,b9⟩:=c2.resolve_left (fun h=>h4 h.1)
 clear c1 c2 h3 h4
 obtain ⟨fx,rfl⟩:∃ n:Nat,f1=(n:Nat):=⟨f1.toNat,by omega⟩
 obtain ⟨tx,rfl⟩:∃ n:Nat,t1=(n:Nat):=⟨t1.toNat,by omega⟩
 obtain ⟨wide,rfl⟩:∃ n:Nat,l1=(n:Nat):=⟨l1.toNat,by omega⟩
 obtain ⟨fy,rfl⟩:∃ n:Nat,f2=(n:Nat):=⟨f2.toNat,by omega⟩
 obtain ⟨ty,rfl⟩:∃ n:Nat,t2=(n:Nat):=⟨t2.toNat,by omega⟩
 obtain ⟨high,rfl⟩:∃ n:Nat,l2=(n:Nat):=⟨l2.toNat,by omega⟩
 refine operations_ok fun o h' H'=>?_
 replace H:=H.join H' rfl
 clear H'
 refine ⟨_,_,_,rfl,?_⟩
 refine needs_of (by omega) ?_
 obtain ⟨fv,hfv,hfc⟩:=opB_cell H 2 rfl hop
 simp only [ptr_some_eq,add_mk,Nat.zero_add,Int.toNat_natCast,Nat.mul_one]
 refine ldV_of hfc ?_
 refine ldI_of (H.cell 0 rfl (i:=2) rfl) ?_
 refine needs_of (by simp; omega) ?_
 simp only [Int.toNat_natCast,u64s_zero]
 refine newC_hp H fun rw h H=>?_
 let G:Nat->Nat->Bool:=fun x' Y=>if tx<=x'/\x'<tx+wide/\ty<=Y/\Y<ty+high then opB op (pix ws (wds W) x' Y) (pix ws (wds W) (fx+(x'-tx)) (fy+(Y-ty))) else pix ws (wds W) x' Y
 have hG:∀ x' Y,G x' Y=if tx<=x'/\x'<tx+wide/\ty<=Y/\Y<ty+high then opB op (pix ws (wds W) x' Y) (pix ws (wds W) (fx+(x'-tx)) (fy+(Y-ty))) else pix ws (wds W) x' Y:=fun _ _=>rfl
 have hlast:(tx+wide-1) / 64<wds W:=by unfold wds; omega
 have hsrc:W<=64*wds W:=by unfold wds; omega
 let D:Nat->Nat->Bool:=fun n Y=>if fy<ty then decide (ty+(high-n)<=Y/\Y<ty+high) else decide (ty<=Y/\Y<ty+n)
 have hD:∀ n Y,D n Y=true↔(fy<ty/\ty+(high-n)<=Y/\Y<ty+high)\/(¬ fy<ty/\ty<=Y/\Y<ty+n):=fun n Y=>by
  show (if fy<ty then _ else _)=true↔_
  by_cases h1:fy<ty
  ·rw [if_pos h1,decide_eq_true_eq]; omega
  ·rw [if_neg h1,decide_eq_true_eq]; omega
 have hrw0:W64 (List.replicate (wds W) 0):=W64.zero _
 refine ⟨fun n vs h=>∃ (j J0:Nat) (R rs:List Nat),(j=0->R=ws)/\j+n=high/\vs=[.int .i64 (j:Int)]/\rs.length=wds W/\Inv X (wds W) G (pix ws (wds W)) (D j) J0 (tx / 64) R/\J0<X /\
   Hp h0 FF h (mapL p q W X R rest++[⟨o,true,T_func_uint64_uint64_uint64,opsV⟩]++[⟨rw,true,T_uint64,u64s rs⟩]),
  ⟨high,0,0,ws,List.replicate (wds W) 0,fun _=>rfl,by omega,rfl,by simp,⟨hl,hw,fun Y hY x' hx'=>?_⟩,by omega,H⟩,?_⟩
 ·by_cases h5:D 0 Y=true\/Y=0/\x' / 64<tx / 64
  ·rw [if_pos h5,hG,if_neg]
   rcases h5 with h5 | h5
   ·have:=(hD 0 Y).1 h5; omega
   ·omega
  ·rw [if_neg h5]
 clear H hrw0
 rintro n h u xx ⟨j,J0,R,rs,hR0,hjn,hxx,hrs,hI,hJ0,H⟩
 injection hxx with hxx
 injection hxx with _ hxx
 subst hxx
 refine bcase_dec (fun h5=>?_) fun h5=>?_
 ·have h5:j<high:=by omega
  have hRws:R=ws:=hR0 (by omega)
  obtain ⟨jj,hjj⟩:∃ jj:Nat,jj=if fy<ty then high-1-j else j:=⟨_,rfl⟩
  have hjj2:fy<ty/\jj+j+1=high\/¬ fy<ty/\jj=j:=by
   by_cases h1:fy<ty
   ·rw [if_pos h1] at hjj; left; omega
   ·rw [if_neg h1] at hjj; right; exact ⟨h1,hjj⟩
  refine ⟨fun vs h'=>h'=h/\vs=[.int .i64 (jj:Int)],?_,?_⟩
  ·refine bcase_dec (fun h6=>?_) fun h6=>?_
   ·refine bindI_of (((high-1:Nat):Int)) (by exact i64_at _ _ (by omega) (by omega) (by omega)) ?_
    refine bindI_of (((jj:Nat):Int)) (by exact i64_at _ _ (by omega) (by omega) (by omega)) ?_
    exact ⟨by first | rfl | trivial,rfl⟩
   ·have:jj=j:=by omega
    rw [this]
    exact ⟨by first | rfl | trivial,rfl⟩
  ·rintro h' u' x39 ⟨rfl,hx39⟩
   injection hx39 with hx39
   injection hx39 with _ hx39
   subst hx39
   have hjh:jj<high:=by omega
   have hsrow:fy+jj<X:=by omega
   have hdrow:ty+jj<X:=by omega
   have hRl0:=hI.1
   have hrow2:(fy+jj+1)*wds W<=X*wds W:=Nat.mul_le_mul_right _ (by omega)
   have hrow2':(fy+jj+1)*wds W=(fy+jj)*wds W+wds W:=by rw [Nat.add_mul,Nat.one_mul]
   refine bindI_of (((fy+jj:Nat):Int)) (by exact i64_at _ _ (by omega) (by omega) (by omega)) ?_
   try simp only [ptr_some_eq,add_mk,Nat.zero_add,Nat.add_zero]
   refine ldI_of (H.cell 0 rfl (i:=2) rfl) ?_
   refine bindI_of ((((fy+jj)*wds W:Nat):Int)) (by exact i64_at _ _ mul_cast (by omega) (by omega)) ?_
   generalize hat:(fy+jj)*wds W=at_ at hrow2 hrow2' ⊢
   refine ldS_of (H.cell 0 rfl (i:=3) rfl) ?_
   refine ldI_of (H.cell 0 rfl (i:=2) rfl) ?_
   refine bindI_of (((at_+wds W:Nat):Int)) (by exact i64_at _ _ (by omega) (by omega) (by omega)) ?_
   refine ldI_of (H.cell 0 rfl (i:=2) rfl) ?_
   refine bindI_of (((at_+wds W:Nat):Int)) (by exact i64_at _ _ (by omega) (by omega) (by omega)) ?_
   refine needs_of (by omega) ?_
   refine needs_of (by omega) ?_
   refine needs_of (by omega) ?_
   simp only [Int.toNat_natCast]
   have hsub:subA (at0 q) (at_+wds W) at_ 1=some ⟨q,at_,none⟩:=by
    unfold subA
    rw [if_neg (by omega)]
    show some ((⟨q,0,none⟩:Addr).add (at_*1))=_
    rw [add_mk]; simp
   rw [hsub]
   have hmin:Nat.min (at_+wds W-at_) (wds W)=wds W:=by
    show min (at_+wds W-at_) (wds W)=_
    omega
   have hnew:((u64s ws++rest).drop at_).take (wds W*1)=u64s (rowW ws (wds W) (fy+jj)):=by
    unfold rowW
    rw [hat,Nat.mul_one,List.drop_append_of_le_length (by rw [u64s_length]; omega),List.take_append_of_le_length (by rw [List.length_drop,u64s_length]; omega)]
    unfold u64s
    rw [List.map_take,List.map_drop]
   have Hs:=H
   rw [hRws] at Hs
   have hrd:=rdO_hp Hs 1 (o:=at_) (n:=wds W*1) rfl (by rw [List.length_append,u64s_length]; omega)
   rw [hnew] at hrd
   have hrl:=rowW_len hl hsrow
   refine ⟨_,by rw [hmin]; exact hrd,?_⟩
   refine stVs_all H 3 rfl (by rw [u64s_length,u64s_length,hrl,hrs]) (u64s_cells _) fun h' hsz H=>?_
   have H:Hp h0 FF h' (mapL p q W X R rest++[⟨o,true,T_func_uint64_uint64_uint64,opsV⟩]++[⟨rw,true,T_uint64,u64s (rowW ws (wds W) (fy+jj))⟩]):=H
   have hrwp:=fun x (hx:x<64*wds W)=>rowW_pix (S:=ws) (swd:=wds W) (r:=fy+jj) hx
   have hrww:=rowW_w hw (wds W) (fy+jj)
   generalize rowW ws (wds W) (fy+jj)=rw2 at H hrl hrwp hrww
   have hDj:D j (ty+jj)=false:=by
    rw [<- Bool.not_eq_true,hD]; omega
   have hI2:Inv X (wds W) G (pix ws (wds W)) (D j) (ty+jj) (tx / 64) R:=by
    refine ⟨hI.1,hI.2.1,fun Y hY x' hx'=>?_⟩
    rw [hI.2.2 Y hY x' hx']
    have e:∀ Y,x' / 64<tx / 64->G x' Y=pix ws (wds W) x' Y:=fun Y h6=>by rw [hG,if_neg (by omega)]
    by_cases h6:D j Y=true
    ·rw [if_pos (.inl h6),if_pos (.inl h6)]
    ·by_cases h7:x' / 64<tx / 64
     ·have:=e Y h7
      split <;> split <;> first | rfl | exact this | exact this.symm
     ·rw [if_neg (by rintro (h8 | h8); exact h6 h8; exact h7 h8.2),if_neg (by rintro (h8 | h8); exact h6 h8; exact h7 h8.2)]
   clear hI
   refine bindI_of (((tx / 64:Nat):Int)) (by exact i64_at _ _ (tdiv_nat tx 64) (by omega) (by omega)) ?_
   refine ⟨fun n vs h=>∃ (i:Nat) (R:List Nat),i+n=(tx+wide-1) / 64+1/\tx / 64<=i/\vs=[.int .i64 (i:Int)]/\Inv X (wds W) G (pix ws (wds W)) (D j) (ty+jj) i R /\
     Hp h0 FF h (mapL p q W X R rest++[⟨o,true,T_func_uint64_uint64_uint64,opsV⟩]++[⟨rw,true,T_uint64,u64s rw2⟩]),
    ⟨(tx+wide-1) / 64+1-tx / 64,tx / 64,R,by omega,Nat.le_refl _,rfl,hI2,H⟩,?_⟩
   clear H hI2
   rintro n2 h u2 xx ⟨i,R,hin,hi,hxx,hI,H⟩
   injection hxx with hxx
   injection hxx with _ hxx
   subst hxx
   refine bindI_of (((tx+wide:Nat):Int)) (by exact i64_at _ _ (by omega) (by omega) (by omega)) ?_
   refine bindI_of (((tx+wide-1:Nat):Int)) (by exact i64_at _ _ (by omega) (by omega) (by omega)) ?_
   refine bindI_of ((((tx+wide-1) / 64:Nat):Int)) (by exact i64_at _ _ (tdiv_nat (tx+wide-1) 64) (by omega) (by omega)) ?_
   refine bcase_dec (fun h6=>?_) fun h6=>?_
   ·have h6:i<=(tx+wide-1) / 64:=by omega
    have hiw:i<wds W:=by omega
    have hidx:=idx_lt hiw hdrow
    have hjw:(ty+jj)*wds W<=X*wds W:=Nat.mul_le_mul_right _ (by omega)
    have hRl:=hI.1
    refine bindI_of (((ty+jj:Nat):Int)) (by exact i64_at _ _ (by omega) (by omega) (by omega)) ?_
    refine ldS_of (H.cell 0 rfl rfl) ?_
    refine ldI_of (H.cell 0 rfl rfl) ?_
    refine bindI_of ((((ty+jj)*wds W:Nat):Int)) (by exact i64_at _ _ mul_cast (by omega) (by omega)) ?_
    refine bindI_of ((((ty+jj)*wds W+i:Nat):Int)) (by exact i64_at _ _ (by omega) (by omega) (by omega)) ?_
    refine needs_of (by omega) ?_
    try simp only [ptr_some_eq,add_mk,Nat.zero_add,Int.toNat_natCast,Nat.mul_one]
    refine mask_ok (by omega) (by omega) fun M hM hMb=>?_
    refine ⟨_,rfl,?_⟩
    refine bindI_of (((64*i:Nat):Int)) (by exact i64_at _ _ (by omega) (by omega) (by omega)) ?_
    refine bindI_of (((fx+64*i:Nat):Int)) (by exact i64_at _ _ (by omega) (by omega) (by omega)) ?_
    refine bindI_of ((((fx+64*i:Nat):Int)-(tx:Nat))) (by exact i64_in _ (by omega) (by omega)) ?_
    have hcell:=H.cell 1 rfl (get_app (u64s_get (getD_get (l:=R) (i:=(ty+jj)*wds W+i) (by omega))))
    have hv:=hI.2.1.get ((ty+jj)*wds W+i)
    refine ldI_of hcell ?_
    refine bindI_of _ (andNot64 _ _ hv hM) ?_
    refine ldI_of hcell ?_
    have hrr:=row_rdO (xs:=rw2) (rest:=[]) H 3 (b:=rw) (w:=true) (t:=T_uint64) (by rw [List.append_nil]; rfl)
    refine word_okN hrl hrr hrww (by omega) (by omega) fun V hV hVb=>?_
    refine ⟨_,rfl,hext.refl _,?_⟩
    refine does_ok hop hv hV hfv fun v hvv hvb=>?_
    refine ⟨_,rfl,hext.refl _,?_⟩
    refine bindI_of _ (and64 _ _ hvv hM) ?_
    refine bindI_of _ (or64 _ _ (and_lt hv) (and_lt hvv)) ?_
    refine stV_hp H 1 rfl (by rw [List.length_append,u64s_length]; omega) rfl fun h hsz H=>?_
    rw [u64s_setr _ _ _ _ (by omega)] at H
    refine bindI_of (((i+1:Nat):Int)) (by exact i64_at _ _ (by omega) (by omega) (by omega)) ?_
    refine ⟨n2-1,by omega,i+1,_,by omega,by omega,rfl,hI.step hdrow hiw (v:=R.getD ((ty+jj)*wds W+i) 0 &&& wnot M ||| v &&& M) (or_lt (and_lt hv) (and_lt hvv)) (fun b hb=>?_),H.as (by simp [mapL,mapE])⟩
    have hwb:=hI.word hDj hdrow hiw hb
    rw [Nat.testBit_or,Nat.testBit_and,Nat.testBit_and,wnot_bit hM hb,hvb b hb,hMb b hb,hVb b hb,hwb,hG]
    by_cases h7:tx<=64*i+(63-b)/\64*i+(63-b)<tx+wide
    ·rw [decide_eq_true h7,if_pos ⟨h7.1,h7.2,by omega,by omega⟩]
     have e1:((fx+64*i:Nat):Int)-(tx:Nat)+(63-(b:Int))=((fx+(64*i+(63-b)-tx):Nat):Int):=by omega
     have e2:ty+jj-ty=jj:=by omega
     rw [e1,hrwp _ (by omega),e2]
     simp
    ·rw [decide_eq_false h7,if_neg (fun h8=>h7 ⟨h8.1,h8.2.1⟩)]
     simp
   ·have h6:(tx+wide-1) / 64<i:=by omega
    refine bindI_of (((j+1:Nat):Int)) (by exact i64_at _ _ (by omega) (by omega) (by omega)) ?_
    refine ⟨n-1,by omega,j+1,ty+jj,R,rw2,fun h=>absurd h (Nat.succ_ne_zero _),by omega,rfl,hrl,hI.row (fun x' h7 h8=>?_) (fun Y=>?_) (fun x' h7 h8=>?_),hdrow,H⟩
    ·rw [hG,if_neg (by omega)]
    ·rw [hD,hD]; omega
    ·rw [hG,if_neg (by omega)]
 ·have h5:j=high:=by omega
  subst h5
  refine hk R _ hI.1 hI.2.1 (fun Y hY x' hx'=>?_) (H.pre.pre)
  rw [hI.2.2 Y hY x' hx']
  have e1:(D j Y=true\/Y=J0/\x' / 64<tx / 64)->G x' Y=if tx<=x'/\x'<tx+wide/\ty<=Y/\Y<ty+j then opB op (pix ws (wds W) x' Y) (pix ws (wds W) (fx+(x'-tx)) (fy+(Y-ty))) else pix ws (wds W) x' Y:=fun _=>hG x' Y
  by_cases h6:tx<=x'/\x'<tx+wide/\ty<=Y/\Y<ty+j
  ·rw [if_pos (.inl ((hD j Y).2 (by omega))),hG,if_pos h6,if_pos (by omega)]
   congr 2 <;> omega
  ·have hno:¬ (dx<=x'/\(x':Int)<dx+w/\x'<W/\dy<=Y/\(Y:Int)<dy+g/\0<=sx+(x'-dx)/\sx+(x'-dx)<W/\0<=sy+(Y-dy)/\sy+(Y-dy)<X):=by
    rintro ⟨g1,g2,g3,g4,g5,g6,g7,g8,g9⟩
    have k1:=a9 (x'-dx) (by omega) (by omega) (by omega) (by omega) (by omega) (by omega)
    have k2:=b9 (Y-dy) (by omega) (by omega) (by omega) (by omega) (by omega) (by omega)
    exact h6 (by omega)
   rw [if_neg hno]
   split
   ·rw [hG,if_neg h6]
   ·rfl
end Go.Bm
namespace Go.Bm
open Go Go.Den Go.Den.YtfaclehehhgpcaaGreat
theorem same_ok {h0 h:Heap} {FF:List Nat} {L:List Ent} {rp p q W X N cc t y:Nat} {fv:Value} {base:Int} {skip:Bool} {ws:List Nat} {rest:List Value} (H:Hp h0 FF h ([procE rp p fv base t skip,mapE p q W X N cc,⟨q,true,T_uint64,u64s ws++rest⟩]++L))
  (hN:ws.length=N) (hs:SizeP (W:Int) (X:Int)) (hl:N=X*wds W) (hw:W64 ws) (hy:y<X) {K:VK} {Kp:PK} (hk:K (.bool (sameB (getP ws W X) W y)) h) :
  CP F_generic_procedure_same #[.pointer (at0 rp), .int .i64 (W:Nat), .int .i64 (y:Nat)] h K Kp:=by
 refine call_generic_procedure_same ?_
 unfold generic_procedure_same
 obtain ⟨W',X',e1,e2,hW1,hW2,hX1,hX2,hWX⟩:=size_nat hs
 obtain rfl:W=W':=by omega
 obtain rfl:X=X':=by omega
 clear e1 e2
 refine ⟨fun n vs h'=>h'=h/\∃ x:Nat,x+n=W/\vs=[.int .i64 (x:Nat)]/\∀ j,j<x->getP ws W X (j:Int) (y:Int)=getP ws W X (j:Int) ((y:Int)-1),⟨W,rfl,0,by omega,rfl,fun j hj=>absurd hj (Nat.not_lt_zero _)⟩,?_⟩
 rintro n h u xx ⟨rfl,x,hxn,hxx,hall⟩
 injection hxx with hxx
 injection hxx with _ hxx
 subst hxx
 refine bcase_dec (fun h4=>?_) fun h4=>?_
 ·refine ptr_of (a:=⟨rp,0,none⟩) (ptr_of (a:=⟨rp,0,none⟩) ?_)
  refine bindI_of (((y:Int)-1)) (by exact i64_in _ (by omega) (by omega)) ?_
  refine ldP_of (hpA H 0 rfl rfl) (ldP_of (hpA H 0 rfl rfl) ?_)
  refine mget_ok (ws:=ws) (c:=cc) (rest:=rest) H 1 2 (by rw [hN]; rfl) rfl hs (by rw [hN]; exact hl) hw ?_
  refine ⟨_,rfl,hext.refl _,?_⟩
  refine mget_ok (ws:=ws) (c:=cc) (rest:=rest) H 1 2 (by rw [hN]; rfl) rfl hs (by rw [hN]; exact hl) hw ?_
  refine ⟨_,rfl,?_⟩
  refine bcase_ne (fun h5=>?_) fun h5=>?_
  ·have hne:getP ws W X (x:Int) (y:Int)≠getP ws W X (x:Int) ((y:Int)-1):=fun e=>h5 (by rw [e])
   have:sameB (getP ws W X) W y=false:=by
    unfold sameB
    rw [<- Bool.not_eq_true,List.all_eq_true]
    intro hh
    have:=hh x (List.mem_range.2 (by omega))
    exact hne (by simpa using this)
   rw [this] at hk
   exact hk
  ·have heq:getP ws W X (x:Int) (y:Int)=getP ws W X (x:Int) ((y:Int)-1):=by
    generalize getP ws W X (x:Int) (y:Int)=a at h5
    generalize getP ws W X (x:Int) ((y:Int)-1)=b at h5
    cases a <;> cases b <;> first | rfl | (exact absurd h5 (by decide))
   refine bindI_of (((x+1:Nat):Int)) (by exact i64_at _ _ (by omega) (by omega) (by omega)) ?_
   refine ⟨n-1,by omega,rfl,x+1,by omega,rfl,fun j hj=>?_⟩
   rcases Nat.lt_or_ge j x with h6 | h6
   ·exact hall j h6
   ·obtain rfl:j=x:=by omega
    exact heq
 ·obtain rfl:W=x:=by omega
  have:sameB (getP ws W X) W y=true:=by
   unfold sameB
   rw [List.all_eq_true]
   intro j hj
   rw [hall j (List.mem_range.1 hj)]
   simp
  rw [this] at hk
  exact hk
set_option maxHeartbeats 4000000 in
theorem grun_ok {σ:Type} {S:σ->List Ent->Prop} {Ok:Nat->σ->Prop} {step:σ->Nat->Bool->(Bool × σ) ⊕ (Int × σ)} {fv:Value} {base:Int} {NN:Nat} (hSw:∀ s M,S s M->M.all Ent.w=true) (hdec:DecOkI NN base S Ok step fv) (hb:0<=base/\base<=131072)
  {h0 h:Heap} {FF:List Nat} {rp p q W X N cc t:Nat} {skip:Bool} {rest:List Value} {ws0:List Nat} {s0:σ} {M0:List Ent} (ht:t<4) (hS0:S s0 M0) (H:Hp h0 FF h ([procE rp p fv base t skip,mapE p q W X N cc,⟨q,true,T_uint64,u64s ws0++rest⟩]++M0))
  (hN:ws0.length=N) (hcc:cc=N+rest.length) (hs:SizeP (W:Int) (X:Int)) (hl:N=X*wds W) (hw:W64 ws0) (hz:PadZ W X ws0) (hok0:Ok 0 s0) (hNN:X*(W+1)<=NN) {K:VK} {Kp:PK}
  (hgood:∀ ws s M h' k,S s M->runG W t skip step X (getP ws0 W X,s0) = .inl (getP ws W X,s)->ws.length=N->W64 ws->PadZ W X ws->k<=X*(W+1)->Ok k s->Hp h0 FF h' ([procE rp p fv base t skip,mapE p q W X N cc,⟨q,true,T_uint64,u64s ws++rest⟩]++M)->K (.tuple #[]) h')
  (hbad:∀ e ws s M h' k,S s M->runG W t skip step X (getP ws0 W X,s0) = .inr (e,s)->ws.length=N->k<=NN->Ok k s->Hp h0 FF h' ([procE rp p fv base t skip,mapE p q W X N cc,⟨q,true,T_uint64,u64s ws++rest⟩]++M) ->
   Kp [{ v := .iface T_generic_fault (.agg #[.int .i64 e]),recovered:=false }] h') :
  CP F_generic_procedure_run #[.pointer (at0 rp), .int .i64 (gsize t:Nat)] h K Kp:=by
 refine call_generic_procedure_run ?_
 unfold generic_procedure_run
 obtain ⟨W',X',e1,e2,hW1,hW2,hX1,hX2,hWX⟩:=size_nat hs
 obtain rfl:W=W':=by omega
 obtain rfl:X=X':=by omega
 clear e1 e2
 have hgs:=gsize_le ht
 refine ptr_of (a:=⟨rp,0,none⟩) ?_
 refine ldP_of (hpA H 0 rfl rfl) ?_
 refine msize_ok (ws:=ws0) (c:=cc) H 1 (by rw [hN]; rfl) ?_
 refine ⟨_,_,rfl,?_⟩
 refine ⟨fun n vs h'=>∃ (y:Nat) (ws:List Nat) (s:σ) (M:List Ent) (k:Nat),y+n=X/\vs=[.int .i64 (y:Nat)]/\S s M/\runG W t skip step y (getP ws0 W X,s0) = .inl (getP ws W X,s)/\ws.length=N/\W64 ws/\PadZ W X ws/\k<=y*(W+1)/\Ok k s /\
   Hp h0 FF h' ([procE rp p fv base t skip,mapE p q W X N cc,⟨q,true,T_uint64,u64s ws++rest⟩]++M),⟨X,0,ws0,s0,M0,0,by omega,rfl,hS0,rfl,hN,hw,hz,by omega,hok0,H⟩,?_⟩
 clear H
 rintro n h u xx ⟨y,ws,s,M,k,hyn,hxx,hM,hrun,hlw,hww,hzz,hky,hok,H⟩
 injection hxx with hxx
 injection hxx with _ hxx
 subst hxx
 refine bcase_dec (fun h1=>?_) fun h1=>?_
 ·have hy:y<X:=by omega
  have hkX:(y+1)*(W+1)<=X*(W+1):=Nat.mul_le_mul_right _ (by omega)
  rw [Nat.add_mul,Nat.one_mul] at hkX
  have hnext:runG W t skip step (y+1) (getP ws0 W X,s0)=match skip with
    | false=>rowG t step y W (getP ws W X,s)
    | true=>match step s (gsize t) (sameB (getP ws W X) W y) with
     | .inr e => .inr e
     | .inl (true,s') => .inl (copyRow (getP ws W X) y,s')
     | .inl (false,s')=>rowG t step y W (getP ws W X,s'):=by
   rw [runG,hrun]
   cases skip <;> rfl
  refine ptr_of (a:=⟨rp,0,none⟩) ?_
  cases skip with
  | true =>
   simp only at hnext
   refine ldB_of (hpA H 0 rfl rfl) ?_
   refine bcase_true rfl ?_
   refine ⟨fun vs h'=>h'=h/\vs=[.int .i64 ((sameB (getP ws W X) W y).toNat:Nat)],?_,?_⟩
   ·refine same_ok H hlw hs hl hww hy ?_
    refine ⟨_,rfl,?_⟩
    cases hsm:sameB (getP ws W X) W y with
    | true=>exact bcase_true rfl ⟨rfl,rfl⟩
    | false=>exact bcase_false rfl ⟨rfl,rfl⟩
   ·rintro h' u' bb ⟨rfl,hbb⟩
    injection hbb with hbb
    injection hbb with _ hbb
    subst hbb
    obtain ⟨⟨ft,fx,hfv⟩,hdc⟩:=id hdec
    refine ptr_of (a:=⟨rp,0,none⟩) (ptr_of (a:=⟨rp,0,none⟩) ?_)
    refine ldV_of (hpA H 0 rfl rfl) ?_
    have hnil:∀ K:Value->Prop,K fv->nilD fv K:=fun K hk=>by subst hfv; exact hk
    refine hnil _ ?_
    refine ldI_of (hpA H 0 rfl rfl) ?_
    refine bindI_of ((base+((gsize t:Nat):Int))) (by exact i64_in _ (by omega) (by omega)) ?_
    refine hdc hok (by omega) (by omega) hM H.giveS (fun bit' s' M' h3 hst hok' hM' H'=>?_) fun e s' M' h3 hst hok' hM' H'=>?_
    ·rw [hst] at hnext
     have H:=H.putS (hSw s M hM) H' (hSw s' M' hM')
     clear H'
     refine ⟨_,rfl,?_⟩
     cases bit' with
     | true =>
      simp only at hnext
      refine bcase_eq (fun _=>?_) fun h5=>absurd rfl h5
      refine ptr_of (a:=⟨rp,0,none⟩) (ptr_of (a:=⟨rp,0,none⟩) ?_)
      refine bindI_of (((y:Int)-1)) (by exact i64_in _ (by omega) (by omega)) ?_
      refine ldP_of (hpA H 0 rfl rfl) (ldP_of (hpA H 0 rfl rfl) ?_)
      have hmL:mapL p q W X ws rest=[mapE p q W X N cc,⟨q,true,T_uint64,u64s ws++rest⟩]:=by
       unfold mapL
       rw [hlw,hcc]
      have Hg:=H.give [1,2] (A:=mapL p q W X ws rest) (by decide) (by rw [hmL]; rfl)
      refine blitS_ok (sx:=0) (sy:=(y:Int)-1) (w:=(W:Nat)) (g:=1) (dx:=0) (dy:=(y:Nat)) (op:=4) Hg hs (by rw [hlw]; exact hl) hww ⟨by omega,by omega⟩ ⟨by omega,by omega⟩ ⟨by omega,by omega⟩ ⟨by omega,by omega⟩ ⟨by omega,by omega⟩ ⟨by omega,by omega⟩ (by omega) (by omega) (by decide) (by omega) fun R h4 k1 k2 k3 H4=>?_
      have hmR:mapL p q W X R rest=[mapE p q W X N cc,⟨q,true,T_uint64,u64s R++rest⟩]:=by
       unfold mapL
       rw [k1,<- hl,hcc]
      have H:=H.put [1,2] (by decide) (by rw [hmL]; rfl) (by rw [hmL]; rfl) H4 (by rw [hmR]; rfl) (by rw [hmR]; rfl)
      rw [hmR] at H
      clear H4 Hg
      refine ⟨_,rfl,?_⟩
      refine bindI_of (((y+1:Nat):Int)) (by exact i64_at _ _ (by omega) (by omega) (by omega)) ?_
      have k4:∀ Y,Y<X->∀ x',x'<64*wds W->pix R (wds W) x' Y=if x'<W/\Y=y/\y≠0 then pix ws (wds W) x' (y-1) else pix ws (wds W) x' Y:=fun Y hY x' hx'=>by
       rw [k3 Y hY x' hx']
       by_cases hc:x'<W/\Y=y/\y≠0
       ·rw [if_pos hc,if_pos (by omega)]
        show pix ws (wds W) _ _=_
        congr 1 <;> omega
       ·rw [if_neg hc,if_neg (by omega)]
      have hcopy:getP R W X=copyRow (getP ws W X) y:=by
       funext a b
       unfold copyRow getP
       by_cases hin:0<=a/\0<=b/\a<W/\b<X
       ·rw [decide_eq_true hin,Bool.true_and,k4 b.toNat (by omega) a.toNat (by unfold wds; omega)]
        by_cases hc:b=(y:Int)/\y≠0
        ·rw [if_pos (by omega),if_pos hc,decide_eq_true (by omega),Bool.true_and]
         congr 1
         omega
        ·rw [if_neg (by omega),if_neg hc,Bool.true_and]
       ·rw [decide_eq_false hin,Bool.false_and]
        by_cases hc:b=(y:Int)/\y≠0
        ·rw [if_pos hc,decide_eq_false (by omega),Bool.false_and]
        ·rw [if_neg hc,Bool.false_and]
      refine ⟨n-1,by omega,y+1,R,s',M',k+1,by omega,rfl,hM',by rw [hcopy]; exact hnext,by rw [k1,hl],k2,fun Y hY x' h6 h7=>?_,by rw [Nat.add_mul,Nat.one_mul]; omega,hok',H⟩
      rw [k4 Y hY x' h7,if_neg (by omega)]
      exact hzz Y hY x' h6 h7
     | false =>
      simp only at hnext
      refine bcase_eq (fun h5=>absurd h5 (by decide)) fun h5=>?_
      refine grow_ok hSw hdec hb ht hM' H hlw hs hl hww hzz hy hok' (by omega) (fun ws2 s2 M2 h4 hM2 hrow hl2 hw2 hz2 hok2 H=>?_) fun e ws2 s2 M2 h4 k2 hM2 hrow hl2 hk2 hok2 H=>?_
      ·rw [hrow] at hnext
       refine bindI_of (((y+1:Nat):Int)) (by exact i64_at _ _ (by omega) (by omega) (by omega)) ?_
       exact ⟨n-1,by omega,y+1,ws2,s2,M2,k+1+W,by omega,rfl,hM2,hnext,hl2,hw2,hz2,by rw [Nat.add_mul,Nat.one_mul]; omega,hok2,H⟩
      ·rw [hrow] at hnext
       exact hbad e ws2 s2 M2 h4 k2 hM2 (runG_err hnext _ (by omega)) hl2 hk2 hok2 H
    ·rw [hst] at hnext
     simp only at hnext
     have H3:=H.putS (hSw s M hM) H' (hSw s' M' hM')
     exact hbad e ws s' M' h3 (k+1) hM' (runG_err hnext _ (by omega)) hlw (by omega) hok' H3
  | false =>
   simp only at hnext
   refine ldB_of (hpA H 0 rfl rfl) ?_
   refine bcase_false rfl ?_
   refine grow_ok hSw hdec hb ht hM H hlw hs hl hww hzz hy hok (by omega) (fun ws2 s2 M2 h4 hM2 hrow hl2 hw2 hz2 hok2 H=>?_) fun e ws2 s2 M2 h4 k2 hM2 hrow hl2 hk2 hok2 H=>?_
   ·rw [hrow] at hnext
    refine bindI_of (((y+1:Nat):Int)) (by exact i64_at _ _ (by omega) (by omega) (by omega)) ?_
    exact ⟨n-1,by omega,y+1,ws2,s2,M2,k+W,by omega,rfl,hM2,hnext,hl2,hw2,hz2,by rw [Nat.add_mul,Nat.one_mul]; omega,hok2,H⟩
   ·rw [hrow] at hnext
    exact hbad e ws2 s2 M2 h4 k2 hM2 (runG_err hnext _ (by omega)) hl2 hk2 hok2 H
 ·obtain rfl:X=y:=by omega
  exact hgood ws s M h k hM hrun hlw hww hzz hky hok H
theorem gcatch_idle {h:Heap} {r:Nat} {Kd:FrameMode->Heap->Prop} {Kdp:FrameMode->PK} (hk:Kd .returning h):DCalls Go.Proofs.Tryz.prog F_generic_caught_c1 #[.pointer (some ⟨r,0,none⟩)] .returning h Kd Kdp :=
 dcall_generic_caught_c1 (cap0:=⟨r,0,none⟩) (by unfold generic_caught_c1 recD; exact hk)
theorem gcatch {h0 h:Heap} {FF:List Nat} {L:List Ent} {r:Nat} {K:VK} {Kp:PK} {e x:Int} (H:Hp h0 FF h ([⟨r,true,T_api_Errno,[.int .i64 x]⟩]++L)) (hk:∀ h',Hp h0 FF h' L->K (.int .i64 e) h') :
  leaveD (DCalls Go.Proofs.Tryz.prog) (fun h=>ldI h ⟨r,0,none⟩ .i64 fun v=>K (.int .i64 v) h) Kp [{ target := .fn (.func F_generic_caught_c1) #[.pointer (some ⟨r,0,none⟩)],args:=#[] }] (.panicking [{ v := .iface T_generic_fault (.agg #[.int .i64 e]),recovered:=false }]) h:=by
 show DCalls Go.Proofs.Tryz.prog F_generic_caught_c1 #[.pointer (some ⟨r,0,none⟩)] _ h _ _
 refine dcall_generic_caught_c1 (cap0:=⟨r,0,none⟩) ?_
 unfold generic_caught_c1
 refine recD_iface ?_
 refine bcase_true (by decide) ?_
 refine ⟨e,rfl,?_⟩
 refine newC_hp H fun r6 h H=>?_
 have H:=H.rot
 refine stA H 0 rfl rfl rfl fun h H=>?_
 refine ldI_of (hpA H 0 rfl rfl) ?_
 refine st0 H 1 rfl rfl rfl fun h H=>?_
 show ldI h ⟨r,0,none⟩ .i64 _
 refine ldI_of (H.cell 1 rfl rfl) ?_
 have H:Hp h0 FF h ([⟨r6,true,T_generic_fault,[.int .i64 e]⟩,⟨r,true,T_api_Errno,[.int .i64 e]⟩]++L):=H
 exact hk h (Hp.suf H)
theorem caught_ok {h0 h:Heap} {FF:List Nat} {L:List Ent} {run:Value} {K:VK} {Kp:PK} (Post:List Ent->Prop) (PostB:Int->List Ent->Prop) (H:Hp h0 FF h L)
  (hrun:∀ {r:Nat} {h1:Heap} {K1:VK} {Kp1:PK},Hp h0 FF h1 ([⟨r,true,T_api_Errno,[.int .i64 0]⟩]++L)->(∀ h2 L2,Post L2->Hp h0 FF h2 ([⟨r,true,T_api_Errno,[.int .i64 0]⟩]++L2)->K1 (.tuple #[]) h2) ->
   (∀ e h2 L2,PostB e L2->Hp h0 FF h2 ([⟨r,true,T_api_Errno,[.int .i64 0]⟩]++L2)->Kp1 [{ v := .iface T_generic_fault (.agg #[.int .i64 e]),recovered:=false }] h2)->callD (CallsHP Go.Proofs.Tryz.prog) Kp1 run [] h1 K1)
  (hk0:∀ h' L',Post L'->Hp h0 FF h' L'->K (.int .i64 0) h') (hke:∀ e h' L',PostB e L'->Hp h0 FF h' L'->K (.int .i64 e) h'):CP F_generic_caught #[run] h K Kp:=by
 refine call_generic_caught ?_
 unfold generic_caught
 refine newC_hp H fun r1 h H=>?_
 have H:=H.rot
 refine hrun H (fun h2 L2 hp H=>?_) fun e h2 L2 hp H=>?_
 ·refine st0 H 0 rfl rfl rfl fun h H=>?_
  show DCalls Go.Proofs.Tryz.prog F_generic_caught_c1 #[.pointer (some ⟨r1,0,none⟩)] .returning h _ _
  refine gcatch_idle ?_
  show ldI h ⟨r1,0,none⟩ .i64 _
  refine ldI_of (H.cell 0 rfl rfl) ?_
  have H:Hp h0 FF h ([⟨r1,true,T_api_Errno,[.int .i64 0]⟩]++L2):=H
  exact hk0 h L2 hp (Hp.suf H)
 ·exact gcatch H fun h' H=>hke e h' L2 hp H
end Go.Bm
namespace Go.Bm
open Go Go.Den Go.Den.YtfaclehehhgpcaaGreat
open Go.Ar (Cod CodOk Dec codL decL BOk idx putM_ok getD_ok getD_bit)
def fvC (p:Nat):Value := .iface T_generic_coding (.agg #[.pointer (at0 p)])
def fvD (p:Nat):Value := .iface T_generic_decoding (.agg #[.pointer (at0 p)])
theorem inv_coding {x:Value} {args:List Value} {h:Heap} {K:VK} {Kp:PK} (H:CallsHP Go.Proofs.Tryz.prog F_generic_coding_decide (x::args).toArray h K Kp) :
  invokeD Go.Proofs.Tryz.prog (CallsHP Go.Proofs.Tryz.prog) (.iface T_generic_coding x) "burin/generic.decide" args h K Kp:=by
 have hm:methD Go.Proofs.Tryz.prog T_generic_coding "burin/generic.decide" = some F_generic_coding_decide:=by kernel_rfl
 unfold invokeD
 simp only [hm]
 exact H
theorem inv_decoding {x:Value} {args:List Value} {h:Heap} {K:VK} {Kp:PK} (H:CallsHP Go.Proofs.Tryz.prog F_generic_decoding_decide (x::args).toArray h K Kp) :
  invokeD Go.Proofs.Tryz.prog (CallsHP Go.Proofs.Tryz.prog) (.iface T_generic_decoding x) "burin/generic.decide" args h K Kp:=by
 have hm:methD Go.Proofs.Tryz.prog T_generic_decoding "burin/generic.decide" = some F_generic_decoding_decide:=by kernel_rfl
 unfold invokeD
 simp only [hm]
 exact H
def codS (p q:Nat) (s:Cod) (M:List Ent):Prop:=∃ r rest,M=codL p q r s rest
def decS (p q:Nat) (e:Ent) (bp:Option Addr) (bc:Nat) (s:Dec) (M:List Ent):Prop:=BOk e bp s.b/\M=decL p q e bp bc s
theorem codS.w {p q:Nat}:∀ s M,codS p q s M->M.all Ent.w=true:=fun s M ⟨r,rest,h⟩=>by subst h; rfl
theorem decS.w {p q:Nat} {e:Ent} {bp:Option Addr} {bc:Nat}:∀ s M,decS p q e bp bc s M->M.all Ent.w=true:=fun s M ⟨h1,h⟩=>by subst h; simp [decL,Go.Ar.decE,h1.1]
theorem codI_ok {p q m n0 NN:Nat} {base:Int} (hb:0<=base/\base<=131072) (hm1:1<=m) (hm2:m<=131072) (hN:n0+NN<=16777216):DecOkI NN base (codS p q) (fun k s=>CodOk m (n0+k) s) (stepP m base) (fvC p):=by
 refine ⟨⟨_,_,rfl⟩,?_⟩
 intro h0 h FF s n bit K Kp M k hok hk hn hM H hgood hbad
 obtain ⟨r,rest,rfl⟩:=hM
 refine inv_coding ?_
 refine call_generic_coding_decide ?_
 unfold generic_coding_decide
 refine newC_hp H fun r2 h H=>?_
 refine ldP_of (hpA H 3 rfl rfl) ?_
 refine Go.Ar.put_ok (bit:=bit.toNat) (H.give [0,1,2] (by decide) rfl) hok.wf hok.done (by rw [hok.n]; omega) (by rw [hok.len]; exact hm1) (by rw [hok.len]; exact hm2) (toNat_le _) fun r3 rest3 h' H'=>?_
 replace H:=H.put [0,1,2] (by decide) rfl rfl H' rfl rfl
 clear H'
 refine ⟨_,rfl,?_⟩
 refine bcase_false (by rfl) ?_
 rw [hok.len] at H
 exact hgood bit _ _ h' rfl (putM_ok hok _ _ (by omega)) ⟨r3,rest3,rfl⟩ (H.take 3)
theorem decI_ok {p q m n0 NN:Nat} {e:Ent} {bp:Option Addr} {bc:Nat} {base:Int} {bytes:List Nat} (hbl:bytes.length<140737488351300) (hb:0<=base/\base<=131072) (hm1:1<=m) (hm2:m<=131072) (hN:n0+NN<=16777216) :
  DecOkI NN base (decS p q e bp bc) (fun k s=>Go.Ar.DecOk bytes m (n0+k) s) (stepG m base) (fvD p):=by
 refine ⟨⟨_,_,rfl⟩,?_⟩
 intro h0 h FF s n bit K Kp M k hok hk hn hM H hgood hbad
 obtain ⟨hbok,rfl⟩:=hM
 refine inv_decoding ?_
 refine call_generic_decoding_decide ?_
 unfold generic_decoding_decide
 refine newC_hp H fun r2 h H=>?_
 refine ldP_of (hpA H 3 rfl rfl) ?_
 refine Go.Ar.get_ok (H.give [0,1,2] (by decide) rfl) hbok hok.wf (by rw [hok.b]; exact hbl) (by rw [hok.n]; omega) (by rw [hok.len]; exact hm1) (by rw [hok.len]; exact hm2) fun h' H'=>?_
 have hbw:=hbok.1
 replace H:=H.put [0,1,2] (by decide) rfl (by simp [decL,Go.Ar.decE,hbw]) H' (by simp [decL,Go.Ar.decE,hbw]) rfl
 clear H'
 refine ⟨_,_,rfl,?_⟩
 refine bcase_false (by rfl) ?_
 rw [hok.len] at H ⊢
 have hbit:=getD_bit (s:=s) (idx (base+(n:Int)) m)
 have hbn:=(Go.Ar.getD_n s (idx (base+(n:Int)) m)).2.2
 have e1:(Go.Ar.getD s (idx (base+(n:Int)) m)).2=(decide ((Go.Ar.getD s (idx (base+(n:Int)) m)).2=1)).toNat:=by
  by_cases h1:(Go.Ar.getD s (idx (base+(n:Int)) m)).2=1
  ·rw [decide_eq_true h1,h1]; rfl
  ·rw [decide_eq_false h1]; show _=0; omega
 rw [e1]
 exact hgood _ _ _ h' rfl (getD_ok hok _ (by omega)) ⟨by rw [hbn]; exact hbok,rfl⟩ (H.take 3)
theorem gfits_ok {h:Heap} {base many all:Int} (ha:-1000000000000<=all/\all<1000000000000) (hm:-1000000000000<=many/\many<1000000000000) {K:VK} {Kp:PK} (hk:∀ b:Bool,(b=true↔0<=base/\base<=all-many)->K (.bool b) h):CP F_generic_fits #[.int .i64 base, .int .i64 many, .int .i64 all] h K Kp:=by
 refine call_generic_fits ?_
 unfold generic_fits
 refine bcase_dec (fun h1=>?_) fun h1=>hk false (by simp; omega)
 refine bindI_of ((all-many)) (by exact i64_in _ (by omega) (by omega)) ?_
 exact hk _ (by simp; omega)
set_option maxHeartbeats 2000000 in
theorem gput_ok {h0 h:Heap} {FF:List Nat} {p q r m NN:Nat} {s:Cod} {rest:List Value} {Ok:Nat->Cod->Prop} {step:Cod->Nat->Bool->(Bool × Cod) ⊕ (Int × Cod)} (H:Hp h0 FF h (codL p q r s rest)) (hm:s.st.length=m) (hm2:m<=131072) {base template:Int}
  {w b:Int} {q1:Option Addr} {c1:Nat} {ws:List Nat} {skip:Bool} (hr1:∀ h',hext h h'->rdO h' q1 (ws.length*1) (u64s ws)) (hw1:W64 ws) (hl1:ws.length<140737488351300)
  (hdec:MayP w b ws->0<=base/\base<=131072->DecOkI NN base (codS p q) Ok step (fvC p)) (hok:Ok 0 s) (hNN:MayP w b ws->b.toNat*(w.toNat+1)<=NN) {K:VK} {Kp:PK}
  (hk60:∀ h',¬ (0<=template/\template<4)->Hp h0 FF h' (codL p q r s rest)->K (.int .i64 60) h')
  (hk62:∀ h',(0<=template/\template<4)->¬ MayP w b ws->Hp h0 FF h' (codL p q r s rest)->K (.int .i64 62) h')
  (hk51:∀ h',(0<=template/\template<4)->MayP w b ws->¬ (0<=base/\base<=(m:Int)-((gsize template.toNat:Nat)+1))->Hp h0 FF h' (codL p q r s rest)->K (.int .i64 51) h')
  (hk0:∀ G s' k r' rest' h',(0<=template/\template<4)->MayP w b ws->(0<=base/\base<=(m:Int)-((gsize template.toNat:Nat)+1))->runG w.toNat template.toNat skip step b.toNat (getP ws w.toNat b.toNat,s) = .inl (G,s')->k<=b.toNat*(w.toNat+1)->Ok k s' ->
   Hp h0 FF h' (codL p q r' s' rest')->K (.int .i64 0) h')
  (hke:∀ e s' k r' rest' h',(0<=template/\template<4)->MayP w b ws->(0<=base/\base<=(m:Int)-((gsize template.toNat:Nat)+1))->runG w.toNat template.toNat skip step b.toNat (getP ws w.toNat b.toNat,s) = .inr (e,s')->k<=NN->Ok k s' ->
   Hp h0 FF h' (codL p q r' s' rest')->K (.int .i64 e) h') :
  CP F_generic_Put #[.pointer (at0 p), .int .i64 base, .agg #[.int .i64 w, .int .i64 b, .slice q1 ws.length c1], .int .i64 template, .bool skip] h K Kp:=by
 refine call_generic_Put ?_
 unfold generic_Put
 have HC:=H
 clear H
 have H:=Hp.nil h []
 refine newC_hp H fun r4 h H=>?_
 refine bcase_false (by rfl) ?_
 refine csize_ok (fun t ht et h2 e2=>?_) fun hn h2 e2=>?_
 ·have H:=H.ext e2
  clear e2
  subst et
  have htt:0<=((t:Nat):Int)/\((t:Nat):Int)<4:=by omega
  simp only [Int.toNat_natCast] at hk51 hk0 hke
  have hgs:=gsize_le ht
  refine ⟨_,_,rfl,?_⟩
  refine newC_hp H fun r10 h H=>?_
  repeat first | with_reducible refine stA H 0 (by with_unfolding_all exact rfl) (by with_unfolding_all exact rfl) (by with_unfolding_all exact rfl) fun h H=>?_ | with_reducible refine stA H 1 (by with_unfolding_all exact rfl) (by with_unfolding_all exact rfl) (by with_unfolding_all exact rfl) fun h H=>?_ | with_reducible refine st0 H 0 (by with_unfolding_all exact rfl) (by with_unfolding_all exact rfl) (by with_unfolding_all exact rfl) fun h H=>?_ | with_reducible refine st0 H 1 (by with_unfolding_all exact rfl) (by with_unfolding_all exact rfl) (by with_unfolding_all exact rfl) fun h H=>?_ | with_reducible refine stB H 0 (by with_unfolding_all exact rfl) (by with_unfolding_all exact rfl) (by with_unfolding_all exact rfl) fun h H=>?_ | with_reducible refine stB H 1 (by with_unfolding_all exact rfl) (by with_unfolding_all exact rfl) (by with_unfolding_all exact rfl) fun h H=>?_
  refine bcase_false (by rfl) ?_
  repeat first | with_reducible refine ldI_of (by with_unfolding_all first | exact hpA H 0 rfl rfl | exact hpA H 1 rfl rfl | exact Hp.cell H 0 rfl rfl | exact Hp.cell H 1 rfl rfl | exact hpB H 0 rfl rfl | exact hpB H 1 rfl rfl | exact hpC H 0 rfl rfl | exact hpC H 1 rfl rfl) ?_ | with_reducible refine ldS_of (by with_unfolding_all first | exact hpA H 0 rfl rfl | exact hpA H 1 rfl rfl | exact Hp.cell H 0 rfl rfl | exact Hp.cell H 1 rfl rfl | exact hpB H 0 rfl rfl | exact hpB H 1 rfl rfl | exact hpC H 0 rfl rfl | exact hpC H 1 rfl rfl) ?_ | with_reducible refine ldP_of (by with_unfolding_all first | exact hpA H 0 rfl rfl | exact hpA H 1 rfl rfl | exact Hp.cell H 0 rfl rfl | exact Hp.cell H 1 rfl rfl | exact hpB H 0 rfl rfl | exact hpB H 1 rfl rfl | exact hpC H 0 rfl rfl | exact hpC H 1 rfl rfl) ?_ | with_reducible refine ldB_of (by with_unfolding_all first | exact hpA H 0 rfl rfl | exact hpA H 1 rfl rfl | exact Hp.cell H 0 rfl rfl | exact Hp.cell H 1 rfl rfl | exact hpB H 0 rfl rfl | exact hpB H 1 rfl rfl | exact hpC H 0 rfl rfl | exact hpC H 1 rfl rfl) ?_ | with_reducible refine ldT_of (by with_unfolding_all first | exact hpA H 0 rfl rfl | exact hpA H 1 rfl rfl | exact Hp.cell H 0 rfl rfl | exact Hp.cell H 1 rfl rfl | exact hpB H 0 rfl rfl | exact hpB H 1 rfl rfl | exact hpC H 0 rfl rfl | exact hpC H 1 rfl rfl) ?_
  refine from_ok (hr1 _ H.hext) hw1 hl1 (fun W X pm qm mrest h5 hwW hbX hmay H'=>?_) fun h5 hmay e5=>?_
  ·subst hwW hbX
   have H:=H.join H' rfl
   clear H'
   refine ⟨_,_,rfl,?_⟩
   refine bcase_false (by rfl) ?_
   refine ptr_of (a:=⟨p,0,none⟩) ?_
   repeat first | with_reducible refine ldI_of (by with_unfolding_all first | exact hpA H 0 rfl rfl | exact hpA H 1 rfl rfl | exact Hp.cell H 0 rfl rfl | exact Hp.cell H 1 rfl rfl | exact hpB H 0 rfl rfl | exact hpB H 1 rfl rfl | exact hpC H 0 rfl rfl | exact hpC H 1 rfl rfl) ?_ | with_reducible refine ldS_of (by with_unfolding_all first | exact hpA H 0 rfl rfl | exact hpA H 1 rfl rfl | exact Hp.cell H 0 rfl rfl | exact Hp.cell H 1 rfl rfl | exact hpB H 0 rfl rfl | exact hpB H 1 rfl rfl | exact hpC H 0 rfl rfl | exact hpC H 1 rfl rfl) ?_ | with_reducible refine ldP_of (by with_unfolding_all first | exact hpA H 0 rfl rfl | exact hpA H 1 rfl rfl | exact Hp.cell H 0 rfl rfl | exact Hp.cell H 1 rfl rfl | exact hpB H 0 rfl rfl | exact hpB H 1 rfl rfl | exact hpC H 0 rfl rfl | exact hpC H 1 rfl rfl) ?_ | with_reducible refine ldB_of (by with_unfolding_all first | exact hpA H 0 rfl rfl | exact hpA H 1 rfl rfl | exact Hp.cell H 0 rfl rfl | exact Hp.cell H 1 rfl rfl | exact hpB H 0 rfl rfl | exact hpB H 1 rfl rfl | exact hpC H 0 rfl rfl | exact hpC H 1 rfl rfl) ?_ | with_reducible refine ldT_of (by with_unfolding_all first | exact hpA H 0 rfl rfl | exact hpA H 1 rfl rfl | exact Hp.cell H 0 rfl rfl | exact Hp.cell H 1 rfl rfl | exact hpB H 0 rfl rfl | exact hpB H 1 rfl rfl | exact hpC H 0 rfl rfl | exact hpC H 1 rfl rfl) ?_
   refine bindI_of (((gsize t+1:Nat):Int)) (by exact i64_at _ _ (by omega) (by omega) (by omega)) ?_
   refine Go.Ar.contexts_ok (n:=s.st.length) (HC.ext H.hext) 0 rfl ?_
   refine ⟨_,rfl,hext.refl _,?_⟩
   rw [hm]
   refine gfits_ok (by omega) (by omega) fun bf hbf=>?_
   refine ⟨_,rfl,?_⟩
   refine bcase_not (fun h2=>?_) fun h2=>?_
   ·exact hk51 _ htt hmay (fun hh=>by rw [hbf.2 (by omega)] at h2; cases h2) (HC.ext H.hext)
   have hft:=hbf.1 h2
   have hft2:0<=base/\base<=(m:Int)-((gsize t:Nat)+1):=by omega
   refine newC_hp H fun r29 h H=>?_
   refine newC_hp H fun r31 h H=>?_
   repeat first | with_reducible refine stA H 5 (by with_unfolding_all exact rfl) (by with_unfolding_all exact rfl) (by with_unfolding_all exact rfl) fun h H=>?_ | with_reducible refine st0 H 5 (by with_unfolding_all exact rfl) (by with_unfolding_all exact rfl) (by with_unfolding_all exact rfl) fun h H=>?_ | with_reducible refine stB H 5 (by with_unfolding_all exact rfl) (by with_unfolding_all exact rfl) (by with_unfolding_all exact rfl) fun h H=>?_
   have H:=(HC.join H rfl).pick [8,4,7,5,6,0,1,2] (by decide) (L':=[⟨r31,true,T_p_generic_procedure,[.pointer (some ⟨r29,0,none⟩)]⟩,⟨r10,true,T_int,[.int .i64 (gsize t:Nat)]⟩,procE r29 pm (fvC p) base t skip,mapE pm qm W X ws.length (ws.length+mrest.length),⟨qm,true,T_uint64,u64s ws++mrest⟩]++codL p q r s rest) rfl
   obtain ⟨W',X',e1,e2,hW1,hW2,hX1,hX2,hWX⟩:=size_nat hmay.1
   obtain rfl:W=W':=by omega
   obtain rfl:X=X':=by omega
   clear e1 e2
   have hNN':=hNN hmay
   simp only [Int.toNat_natCast] at hNN' hk0 hke
   refine caught_ok (fun L2=>∃ G s' k r' rest' ws',runG W t skip step X (getP ws W X,s) = .inl (G,s')/\k<=X*(W+1)/\Ok k s'/\L2=[⟨r31,true,T_p_generic_procedure,[.pointer (some ⟨r29,0,none⟩)]⟩,⟨r10,true,T_int,[.int .i64 (gsize t:Nat)]⟩,procE r29 pm (fvC p) base t skip,mapE pm qm W X ws.length (ws.length+mrest.length),⟨qm,true,T_uint64,u64s ws'++mrest⟩]++codL p q r' s' rest')
    (fun e L2=>∃ s' k r' rest' ws',runG W t skip step X (getP ws W X,s) = .inr (e,s')/\k<=NN/\Ok k s'/\L2=[⟨r31,true,T_p_generic_procedure,[.pointer (some ⟨r29,0,none⟩)]⟩,⟨r10,true,T_int,[.int .i64 (gsize t:Nat)]⟩,procE r29 pm (fvC p) base t skip,mapE pm qm W X ws.length (ws.length+mrest.length),⟨qm,true,T_uint64,u64s ws'++mrest⟩]++codL p q r' s' rest')
    H (fun {r1 h1 K1 Kp1} H hK hKp=>?_) (fun h' L' hp H=>?_) fun e h' L' hp H=>?_
   ·show CP F_generic_Put_c1 #[.pointer (some ⟨r31,0,none⟩), .pointer (some ⟨r10,0,none⟩)] h1 K1 Kp1
    refine call_generic_Put_c1 (cap0:=⟨r31,0,none⟩) (cap1:=⟨r10,0,none⟩) ?_
    unfold generic_Put_c1
    refine ldP_of (H.cell 1 rfl rfl) (ldI_of (H.cell 2 rfl rfl) ?_)
    have HG:Hp h1 _ h1 ([procE r29 pm (fvC p) base t skip,mapE pm qm W X ws.length (ws.length+mrest.length),⟨qm,true,T_uint64,u64s ws++mrest⟩]++codL p q r s rest):=H.give [3,4,5,6,7,8] (by decide) rfl
    refine grun_ok (S:=codS p q) (NN:=NN) codS.w (hdec hmay ⟨by omega,by omega⟩) ⟨by omega,by omega⟩ ht ⟨r,rest,rfl⟩ HG rfl rfl hmay.1 (may_len hmay) hw1 (fun y hy x h1 h2=>pix_of_may hmay hy h1 h2) hok hNN' (fun ws' s' M h' k hM hrun hl' hw' hz' hk hok' H'=>?_) fun e ws' s' M h' k hM hrun hl' hk hok' H'=>?_
    ·obtain ⟨r',rest',rfl⟩:=hM
     have H:=H.put [3,4,5,6,7,8] (by decide) rfl rfl H' rfl rfl
     exact hK h' _ ⟨_,s',k,r',rest',ws',hrun,hk,hok',rfl⟩ H
    ·obtain ⟨r',rest',rfl⟩:=hM
     have H:=H.put [3,4,5,6,7,8] (by decide) rfl rfl H' rfl rfl
     exact hKp e h' _ ⟨s',k,r',rest',ws',hrun,hk,hok',rfl⟩ H
   ·obtain ⟨G,s',k,r',rest',ws',hrun,hk,hok',rfl⟩:=hp
    refine ⟨_,rfl,?_⟩
    exact hk0 G s' k r' rest' h' htt hmay hft2 hrun hk hok' (Hp.suf H)
   ·obtain ⟨s',k,r',rest',ws',hrun,hk,hok',rfl⟩:=hp
    refine ⟨_,rfl,?_⟩
    exact hke e s' k r' rest' h' htt hmay hft2 hrun hk hok' (Hp.suf H)
  ·have H:=H.ext e5
   refine ⟨_,_,rfl,?_⟩
   refine bcase_true (by rfl) ?_
   exact hk62 _ htt hmay (HC.ext H.hext)
 ·have H:=H.ext e2
  refine ⟨_,_,rfl,?_⟩
  refine newC_hp H fun r10 h H=>?_
  repeat first | with_reducible refine stA H 0 (by with_unfolding_all exact rfl) (by with_unfolding_all exact rfl) (by with_unfolding_all exact rfl) fun h H=>?_ | with_reducible refine stA H 1 (by with_unfolding_all exact rfl) (by with_unfolding_all exact rfl) (by with_unfolding_all exact rfl) fun h H=>?_ | with_reducible refine st0 H 0 (by with_unfolding_all exact rfl) (by with_unfolding_all exact rfl) (by with_unfolding_all exact rfl) fun h H=>?_ | with_reducible refine st0 H 1 (by with_unfolding_all exact rfl) (by with_unfolding_all exact rfl) (by with_unfolding_all exact rfl) fun h H=>?_ | with_reducible refine stB H 0 (by with_unfolding_all exact rfl) (by with_unfolding_all exact rfl) (by with_unfolding_all exact rfl) fun h H=>?_ | with_reducible refine stB H 1 (by with_unfolding_all exact rfl) (by with_unfolding_all exact rfl) (by with_unfolding_all exact rfl) fun h H=>?_
  refine bcase_true (by rfl) ?_
  exact hk60 _ hn (HC.ext H.hext)
end Go.Bm
namespace Go.Bm
open Go Go.Den Go.Den.YtfaclehehhgpcaaGreat
open Go.Ar (CodOk Dec decL BOk newC flushM bytesM)
section
variable {σ:Type} {step:σ->Nat->Bool->(Bool × σ) ⊕ (Int × σ)}
theorem rowG_inl (h:∀ s n b,∃ r,step s n b = .inl r) (t y:Nat) (g:(Int->Int->Bool) × σ):∀ k,∃ g',rowG t step y k g = .inl g'
 | 0=>⟨_,rfl⟩
 | k+1=>by
  obtain ⟨⟨G,s⟩,hg⟩:=rowG_inl h t y g k
  obtain ⟨⟨b,s'⟩,hr⟩:=h s (gctx t G (k:Int) (y:Int)) (G (k:Int) (y:Int))
  unfold rowG
  rw [hg]
  simp only [hr]
  exact ⟨_,rfl⟩
theorem runG_inl (h:∀ s n b,∃ r,step s n b = .inl r) (W t:Nat) (skip:Bool) (g:(Int->Int->Bool) × σ):∀ y,∃ g',runG W t skip step y g = .inl g'
 | 0=>⟨_,rfl⟩
 | y+1=>by
  obtain ⟨⟨G,s⟩,hg⟩:=runG_inl h W t skip g y
  unfold runG
  rw [hg]
  cases skip with
  | false=>exact rowG_inl h t y (G,s) W
  | true =>
   obtain ⟨⟨b,s'⟩,hr⟩:=h s (gsize t) (sameB G W y)
   simp only [hr]
   cases b with
   | true=>exact ⟨_,rfl⟩
   | false=>exact rowG_inl h t y (G,s') W
end
def GGetR (bytes:List Nat) (m n0:Nat) (base w b template:Int) (skip:Bool) (s:Dec) (e w' b':Int) (bs:List Nat) (s':Dec):Prop :=
 ¬ (0<=template/\template<4)/\e=60/\w'=0/\b'=0/\bs=[]/\s'=s \/
 (0<=template/\template<4)/\¬ SizeP w b/\e=63/\w'=0/\b'=0/\bs=[]/\s'=s \/
 (0<=template/\template<4)/\SizeP w b/\¬ (0<=base/\base<=(m:Int)-((gsize template.toNat:Nat)+1))/\e=51/\w'=0/\b'=0/\bs=[]/\s'=s \/
 (0<=template/\template<4)/\SizeP w b/\(0<=base/\base<=(m:Int)-((gsize template.toNat:Nat)+1))/\e=0/\w'=w/\b'=b/\runG w.toNat template.toNat skip (stepG m base) b.toNat (fun _ _=>false,s) = .inl (getP bs w.toNat b.toNat,s') /\
  bs.length=b.toNat*wds w.toNat/\W64 bs/\PadZ w.toNat b.toNat bs/\∃ k,k<=b.toNat*(w.toNat+1)/\Go.Ar.DecOk bytes m (n0+k) s'
set_option maxHeartbeats 2000000 in
theorem gget_ok {h0 hA:Heap} {FF:List Nat} {p q m n0:Nat} {e0:Ent} {bp:Option Addr} {bc:Nat} {s:Dec} {bytes:List Nat} (HC:Hp h0 FF hA (decL p q e0 bp bc s)) (hb:BOk e0 bp s.b) (hbl:bytes.length<140737488351300) (hc:Go.Ar.DecOk bytes m n0 s) (hm1:1<=m) (hm2:m<=131072) {base w b template:Int} {skip:Bool}
  (hN:SizeP w b->n0+b.toNat*(w.toNat+1)<=16777216) {K:VK} {Kp:PK}
  (hk:∀ e w' b' bs s' D qo c h',GGetR bytes m n0 base w b template skip s e w' b' bs s'->Slot T_uint64 1 D qo bs.length c (u64s bs)->Hp h0 FF h' (decL p q e0 bp bc s'++D)->K (.tuple #[.agg #[.int .i64 w', .int .i64 b', .slice qo bs.length c], .int .i64 e]) h') :
  CP F_generic_Get #[.pointer (at0 p), .int .i64 base, .int .i64 w, .int .i64 b, .int .i64 template, .bool skip] hA K Kp:=by
 refine call_generic_Get ?_
 unfold generic_Get
 have hew:=hb.1
 have H:=Hp.nil hA []
 refine newC_hp H fun r1 h H=>?_
 refine bcase_false (by rfl) ?_
 have bad:∀ (e:Int) (h':Heap) (T:List Ent),hext hA h'->(∀ h',hext hA h'->K (.tuple #[.agg #[.int .i64 0, .int .i64 0, .slice none 0 0], .int .i64 e]) h')->Hp hA [] h' ([⟨r1,true,T_api_Bitmap,[.int .i64 0, .int .i64 0, .slice none 0 0]⟩]++T) ->
   stV h' ((⟨r1,0,none⟩:Addr).add 0) (.int .i64 0) fun h_13=>stV h_13 ((⟨r1,0,none⟩:Addr).add 1) (.int .i64 0) fun h_14=>stV h_14 ((⟨r1,0,none⟩:Addr).add 2) (.slice none 0 0) fun h_15 =>
    ldI h_15 ((⟨r1,0,none⟩:Addr).add 0) .i64 fun r_16=>ldI h_15 ((⟨r1,0,none⟩:Addr).add 1) .i64 fun r_17=>ldS h_15 ((⟨r1,0,none⟩:Addr).add 2) fun r_18 r_18n r_18c =>
     K (.tuple #[.agg #[.int .i64 r_16, .int .i64 r_17, .slice r_18 r_18n r_18c], .int .i64 e]) h_15:=fun e h' T _ hk H=>by
  repeat first | with_reducible refine ldI_of (by with_unfolding_all first | exact hpA H 0 rfl rfl | exact Hp.cell H 0 rfl rfl | exact hpB H 0 rfl rfl | exact hpC H 0 rfl rfl) ?_ | with_reducible refine ldS_of (by with_unfolding_all first | exact hpA H 0 rfl rfl | exact Hp.cell H 0 rfl rfl | exact hpB H 0 rfl rfl | exact hpC H 0 rfl rfl) ?_ | with_reducible refine ldP_of (by with_unfolding_all first | exact hpA H 0 rfl rfl | exact Hp.cell H 0 rfl rfl | exact hpB H 0 rfl rfl | exact hpC H 0 rfl rfl) ?_ | with_reducible refine ldB_of (by with_unfolding_all first | exact hpA H 0 rfl rfl | exact Hp.cell H 0 rfl rfl | exact hpB H 0 rfl rfl | exact hpC H 0 rfl rfl) ?_ | with_reducible refine ldT_of (by with_unfolding_all first | exact hpA H 0 rfl rfl | exact Hp.cell H 0 rfl rfl | exact hpB H 0 rfl rfl | exact hpC H 0 rfl rfl) ?_ | with_reducible refine stA H 0 (by with_unfolding_all exact rfl) (by with_unfolding_all exact rfl) (by with_unfolding_all exact rfl) fun h H=>?_ | with_reducible refine st0 H 0 (by with_unfolding_all exact rfl) (by with_unfolding_all exact rfl) (by with_unfolding_all exact rfl) fun h H=>?_ | with_reducible refine stB H 0 (by with_unfolding_all exact rfl) (by with_unfolding_all exact rfl) (by with_unfolding_all exact rfl) fun h H=>?_
  exact hk _ H.hext
 refine csize_ok (fun t ht et h2 e2=>?_) fun hn h2 e2=>?_
 ·have H:=H.ext e2
  clear e2
  subst et
  have htt:0<=((t:Nat):Int)/\((t:Nat):Int)<4:=by omega
  have hgs:=gsize_le ht
  refine ⟨_,_,rfl,?_⟩
  refine newC_hp H fun r13 h H=>?_
  repeat first | with_reducible refine stA H 0 (by with_unfolding_all exact rfl) (by with_unfolding_all exact rfl) (by with_unfolding_all exact rfl) fun h H=>?_ | with_reducible refine stA H 1 (by with_unfolding_all exact rfl) (by with_unfolding_all exact rfl) (by with_unfolding_all exact rfl) fun h H=>?_ | with_reducible refine st0 H 0 (by with_unfolding_all exact rfl) (by with_unfolding_all exact rfl) (by with_unfolding_all exact rfl) fun h H=>?_ | with_reducible refine st0 H 1 (by with_unfolding_all exact rfl) (by with_unfolding_all exact rfl) (by with_unfolding_all exact rfl) fun h H=>?_ | with_reducible refine stB H 0 (by with_unfolding_all exact rfl) (by with_unfolding_all exact rfl) (by with_unfolding_all exact rfl) fun h H=>?_ | with_reducible refine stB H 1 (by with_unfolding_all exact rfl) (by with_unfolding_all exact rfl) (by with_unfolding_all exact rfl) fun h H=>?_
  refine bcase_false (by rfl) ?_
  refine newM_ok (fun W X pm qm h5 hwW hbX hsz H'=>?_) fun hns=>?_
  ·subst hwW hbX
   have H2:=H'
   unfold mapL at H2
   rw [List.length_replicate] at H2
   clear H'
   have H:=H.join H2 rfl
   clear H2
   refine ⟨_,_,rfl,?_⟩
   refine bcase_false (by rfl) ?_
   refine ptr_of (a:=⟨p,0,none⟩) ?_
   repeat first | with_reducible refine ldI_of (by with_unfolding_all first | exact hpA H 0 rfl rfl | exact hpA H 1 rfl rfl | exact Hp.cell H 0 rfl rfl | exact Hp.cell H 1 rfl rfl | exact hpB H 0 rfl rfl | exact hpB H 1 rfl rfl | exact hpC H 0 rfl rfl | exact hpC H 1 rfl rfl) ?_ | with_reducible refine ldS_of (by with_unfolding_all first | exact hpA H 0 rfl rfl | exact hpA H 1 rfl rfl | exact Hp.cell H 0 rfl rfl | exact Hp.cell H 1 rfl rfl | exact hpB H 0 rfl rfl | exact hpB H 1 rfl rfl | exact hpC H 0 rfl rfl | exact hpC H 1 rfl rfl) ?_ | with_reducible refine ldP_of (by with_unfolding_all first | exact hpA H 0 rfl rfl | exact hpA H 1 rfl rfl | exact Hp.cell H 0 rfl rfl | exact Hp.cell H 1 rfl rfl | exact hpB H 0 rfl rfl | exact hpB H 1 rfl rfl | exact hpC H 0 rfl rfl | exact hpC H 1 rfl rfl) ?_ | with_reducible refine ldB_of (by with_unfolding_all first | exact hpA H 0 rfl rfl | exact hpA H 1 rfl rfl | exact Hp.cell H 0 rfl rfl | exact Hp.cell H 1 rfl rfl | exact hpB H 0 rfl rfl | exact hpB H 1 rfl rfl | exact hpC H 0 rfl rfl | exact hpC H 1 rfl rfl) ?_ | with_reducible refine ldT_of (by with_unfolding_all first | exact hpA H 0 rfl rfl | exact hpA H 1 rfl rfl | exact Hp.cell H 0 rfl rfl | exact Hp.cell H 1 rfl rfl | exact hpB H 0 rfl rfl | exact hpB H 1 rfl rfl | exact hpC H 0 rfl rfl | exact hpC H 1 rfl rfl) ?_
   refine bindI_of (((gsize t+1:Nat):Int)) (by exact i64_at _ _ (by omega) (by omega) (by omega)) ?_
   refine Go.Ar.contexts_ok (n:=s.st.length) (HC.ext H.hext) 0 rfl ?_
   refine ⟨_,rfl,hext.refl _,?_⟩
   rw [hc.len]
   refine gfits_ok (by omega) (by omega) fun bf hbf=>?_
   refine ⟨_,rfl,?_⟩
   refine bcase_not (fun h2=>?_) fun h2=>?_
   ·exact bad 51 _ _ H.hext (fun h' e'=>hk 51 0 0 [] s [] none 0 h' (.inr (.inr (.inl ⟨htt,hsz,(fun hh=>by rw [hbf.2 (by simp only [Int.toNat_natCast] at hh; omega)] at h2; cases h2),rfl,rfl,rfl,rfl,rfl⟩))) (Slot.nil _ _) ((HC.ext e').as (List.append_nil _).symm)) H
   have hft:=hbf.1 h2
   have hft2:0<=base/\base<=(m:Int)-((gsize t:Nat)+1):=by omega
   refine newC_hp H fun r47 h H=>?_
   refine newC_hp H fun r49 h H=>?_
   repeat first | with_reducible refine stA H 5 (by with_unfolding_all exact rfl) (by with_unfolding_all exact rfl) (by with_unfolding_all exact rfl) fun h H=>?_ | with_reducible refine st0 H 5 (by with_unfolding_all exact rfl) (by with_unfolding_all exact rfl) (by with_unfolding_all exact rfl) fun h H=>?_ | with_reducible refine stB H 5 (by with_unfolding_all exact rfl) (by with_unfolding_all exact rfl) (by with_unfolding_all exact rfl) fun h H=>?_
   have H:=(HC.join H rfl).pick [8,4,7,5,6,0,1,2,3] (by decide) (L':=[⟨r49,true,T_p_generic_procedure,[.pointer (some ⟨r47,0,none⟩)]⟩,⟨r13,true,T_int,[.int .i64 (gsize t:Nat)]⟩,procE r47 pm (fvD p) base t skip,mapE pm qm W X (X*wds W) (X*wds W),⟨qm,true,T_uint64,u64s (List.replicate (X*wds W) 0)++[]⟩]++decL p q e0 bp bc s++[⟨r1,true,T_api_Bitmap,[.int .i64 0, .int .i64 0, .slice none 0 0]⟩]) rfl
   obtain ⟨W',X',e1,e2,hW1,hW2,hX1,hX2,hWX⟩:=size_nat hsz
   obtain rfl:W=W':=by omega
   obtain rfl:X=X':=by omega
   clear e1 e2
   have hN':=hN hsz
   simp only [Int.toNat_natCast] at hN'
   have hrl:(List.replicate (X*wds W) 0).length=X*wds W:=List.length_replicate
   refine caught_ok (fun L2=>∃ s' k ws',runG W t skip (stepG m base) X (fun _ _=>false,s) = .inl (getP ws' W X,s')/\ws'.length=X*wds W/\W64 ws'/\PadZ W X ws'/\k<=X*(W+1)/\Go.Ar.DecOk bytes m (n0+k) s'/\BOk e0 bp s'.b/\L2=[⟨r49,true,T_p_generic_procedure,[.pointer (some ⟨r47,0,none⟩)]⟩,⟨r13,true,T_int,[.int .i64 (gsize t:Nat)]⟩,procE r47 pm (fvD p) base t skip,mapE pm qm W X (X*wds W) (X*wds W),⟨qm,true,T_uint64,u64s ws'++[]⟩]++decL p q e0 bp bc s'++[⟨r1,true,T_api_Bitmap,[.int .i64 0, .int .i64 0, .slice none 0 0]⟩])
    (fun e L2=>False) H (fun {r1' h1 K1 Kp1} H hK hKp=>?_) (fun h' L' hp H=>?_) fun e h' L' hp H=>hp.elim
   ·show CP F_generic_Get_c1 #[.pointer (some ⟨r49,0,none⟩), .pointer (some ⟨r13,0,none⟩)] h1 K1 Kp1
    refine call_generic_Get_c1 (cap0:=⟨r49,0,none⟩) (cap1:=⟨r13,0,none⟩) ?_
    unfold generic_Get_c1
    refine ldP_of (H.cell 1 rfl rfl) (ldI_of (H.cell 2 rfl rfl) ?_)
    have HG:Hp h1 _ h1 ([procE r47 pm (fvD p) base t skip,mapE pm qm W X (X*wds W) (X*wds W),⟨qm,true,T_uint64,u64s (List.replicate (X*wds W) 0)++[]⟩]++decL p q e0 bp bc s):=H.give [3,4,5,6,7,8] (by decide) rfl
    refine grun_ok (S:=decS p q e0 bp bc) (NN:=X*(W+1)) (Ok:=fun k s=>Go.Ar.DecOk bytes m (n0+k) s) decS.w (decI_ok hbl ⟨by omega,by omega⟩ hm1 hm2 hN') ⟨by omega,by omega⟩ ht ⟨hb,rfl⟩ HG hrl (by simp) hsz rfl (W64.zero _) (fun y hy x h1 h2=>pix_zero _ _ _ _) hc (Nat.le_refl _) (fun ws' s' M h' k hM hrun hl' hw' hz' hk' hok' H'=>?_) fun e ws' s' M h' k hM hrun hl' hk' hok' H'=>?_
    ·obtain ⟨hb',rfl⟩:=hM
     have H:=H.put [3,4,5,6,7,8] (by decide) rfl (by simp [decL,Go.Ar.decE,hew,procE,mapE]) H' (by simp [decL,Go.Ar.decE,hew,procE,mapE]) rfl
     rw [getP_zero] at hrun
     exact hK h' _ ⟨s',k,ws',hrun,hl',hw',hz',hk',hok',hb',rfl⟩ H
    ·obtain ⟨g',hg'⟩:=runG_inl (step:=stepG m base) (fun s n b=>⟨_,rfl⟩) W t skip (getP (List.replicate (X*wds W) 0) W X,s) X
     rw [hg'] at hrun
     cases hrun
   ·obtain ⟨s',k,ws',hrun,hl',hw',hz',hk',hok',hb',rfl⟩:=hp
    refine ⟨_,rfl,?_⟩
    refine bcase_false (by rfl) ?_
    have hhw:=hw_le hW1 hWX
    have hpos:1<=X*wds W:=Nat.mul_pos hX1 (by unfold wds; omega)
    refine plain_ok (ws:=ws') (rest:=[]) H 3 4 (by rw [hl']; rfl) rfl (by omega) (by omega) fun o orest h' H=>?_
    refine ⟨_,_,_,_,_,rfl,?_⟩
    repeat first | with_reducible refine stA H 8 (by with_unfolding_all exact rfl) (by with_unfolding_all exact rfl) (by with_unfolding_all exact rfl) fun h H=>?_ | with_reducible refine st0 H 8 (by with_unfolding_all exact rfl) (by with_unfolding_all exact rfl) (by with_unfolding_all exact rfl) fun h H=>?_ | with_reducible refine stB H 8 (by with_unfolding_all exact rfl) (by with_unfolding_all exact rfl) (by with_unfolding_all exact rfl) fun h H=>?_
    repeat first | with_reducible refine ldI_of (by with_unfolding_all first | exact hpA H 8 rfl rfl | exact Hp.cell H 8 rfl rfl | exact hpB H 8 rfl rfl | exact hpC H 8 rfl rfl) ?_ | with_reducible refine ldS_of (by with_unfolding_all first | exact hpA H 8 rfl rfl | exact Hp.cell H 8 rfl rfl | exact hpB H 8 rfl rfl | exact hpC H 8 rfl rfl) ?_ | with_reducible refine ldP_of (by with_unfolding_all first | exact hpA H 8 rfl rfl | exact Hp.cell H 8 rfl rfl | exact hpB H 8 rfl rfl | exact hpC H 8 rfl rfl) ?_ | with_reducible refine ldB_of (by with_unfolding_all first | exact hpA H 8 rfl rfl | exact Hp.cell H 8 rfl rfl | exact hpB H 8 rfl rfl | exact hpC H 8 rfl rfl) ?_ | with_reducible refine ldT_of (by with_unfolding_all first | exact hpA H 8 rfl rfl | exact Hp.cell H 8 rfl rfl | exact hpB H 8 rfl rfl | exact hpC H 8 rfl rfl) ?_
    refine hk 0 _ _ ws' s' [⟨o,true,T_uint64,u64s ws'++orest⟩] _ _ h (.inr (.inr (.inr ⟨htt,hsz,hft2,rfl,rfl,rfl,by simpa using hrun,by simpa using hl',hw',by simpa using hz',k,by simpa using hk',hok'⟩))) (Slot.one (by rw [u64s_length,Nat.mul_one]) (by rw [List.length_append,u64s_length,Nat.mul_one])) ?_
    exact H.pick [5,6,7,9] (by decide) rfl
  ·refine ⟨_,_,rfl,?_⟩
   refine bcase_true (by rfl) ?_
   exact bad 63 _ _ H.hext (fun h' e'=>hk 63 0 0 [] s [] none 0 h' (.inr (.inl ⟨htt,hns,rfl,rfl,rfl,rfl,rfl⟩)) (Slot.nil _ _) ((HC.ext e').as (List.append_nil _).symm)) H
 ·have H:=H.ext e2
  refine ⟨_,_,rfl,?_⟩
  refine newC_hp H fun r13 h H=>?_
  repeat first | with_reducible refine stA H 1 (by with_unfolding_all exact rfl) (by with_unfolding_all exact rfl) (by with_unfolding_all exact rfl) fun h H=>?_ | with_reducible refine st0 H 1 (by with_unfolding_all exact rfl) (by with_unfolding_all exact rfl) (by with_unfolding_all exact rfl) fun h H=>?_ | with_reducible refine stB H 1 (by with_unfolding_all exact rfl) (by with_unfolding_all exact rfl) (by with_unfolding_all exact rfl) fun h H=>?_
  refine bcase_true (by rfl) ?_
  exact bad 60 _ _ H.hext (fun h' e'=>hk 60 0 0 [] s [] none 0 h' (.inl ⟨hn,rfl,rfl,rfl,rfl,rfl⟩) (Slot.nil _ _) ((HC.ext e').as (List.append_nil _).symm)) H
def GEncR (w b:Int) (ws:List Nat) (template:Int) (skip:Bool) (e:Int) (bs:List Nat):Prop :=
 ¬ (0<=template/\template<4)/\e=60/\bs=[] \/
 (0<=template/\template<4)/\¬ MayP w b ws/\e=62/\bs=[] \/
 (0<=template/\template<4)/\MayP w b ws/\e=0/\∃ G s' k,runG w.toNat template.toNat skip (stepP (gsize template.toNat+1) 0) b.toNat (getP ws w.toNat b.toNat,newC (gsize template.toNat+1)) = .inl (G,s')/\k<=b.toNat*(w.toNat+1)/\CodOk (gsize template.toNat+1) k s'/\bs=bytesM (flushM s')
section
variable {hB:Heap} {w b template:Int} {skip:Bool} {K:VK} {Kp:PK}
end
end Go.Bm
namespace Go.Ar
open Go Go.Den Go.Den.YtfaclehehhgpcaaGreat
section
variable {h:Heap} {A:RP} {e:Ent} {bp:Option Addr} {bc:Nat} {s:Dec} {F:List Nat} {h0:Heap}
end
end Go.Ar
namespace Go.Den.YtfaclehehhgpcaaGreat
open Go Go.Den
end Go.Den.YtfaclehehhgpcaaGreat
namespace Go.Den.YtfaclehehhgpcaaGreat
open Go Go.Den
end Go.Den.YtfaclehehhgpcaaGreat
namespace Go.Bm
open Go Go.Den Go.Den.YtfaclehehhgpcaaGreat
section
variable {hB:Heap} {w b template:Int} {skip:Bool} {K:VK} {Kp:PK}
end
theorem copy_same {G:Int->Int->Bool} {W y:Nat} (hG:∀ a b:Int,¬ (0<=a/\a<W)->G a b=false) (h:sameB G W y=true):copyRow G y=G:=by
 funext a b
 unfold copyRow
 by_cases hc:b=(y:Int)/\y≠0
 ·rw [if_pos hc]
  by_cases hin:0<=a/\a<W
  ·unfold sameB at h
   rw [List.all_eq_true] at h
   have:=h a.toNat (List.mem_range.2 (by omega))
   have ea:((a.toNat:Nat):Int)=a:=by omega
   rw [ea] at this
   rw [hc.1]
   exact (by simpa using this:G a (y:Int)=G a ((y:Int)-1)).symm
  ·rw [hG _ _ hin,hG _ _ hin]
 ·rw [if_neg hc]
end Go.Bm
namespace Go.Bm
open Go Go.Den Go.Den.YtfaclehehhgpcaaGreat
section
variable (G R:Int->Int->Bool) (W m:Nat) (dx dy base:Int) {k b:Nat->Nat} {n0 cnt:Nat}
end
end Go.Bm
namespace Go.Bm
open Go Go.Den Go.Den.YtfaclehehhgpcaaGreat
end Go.Bm
namespace Go.Bm
open Go Go.Den Go.Den.YtfaclehehhgpcaaGreat
end Go.Bm
namespace Go.Bm
open Go Go.Den Go.Den.YtfaclehehhgpcaaGreat
section
variable {hB:Heap} {w b template:Int} {skip:Bool} {K:VK} {Kp:PK}
end
end Go.Bm
namespace Go.Bm
open Go Go.Den Go.Den.YtfaclehehhgpcaaGreat
open Go.Ar (Cod Dec CodOk codN decN newC_ok bytesM flushM putM getD)
def kOf (L:List (Nat × Nat)) (i:Nat):Nat:=(L[i]?.getD (0,0)).1
def bOf (L:List (Nat × Nat)) (i:Nat):Nat:=(L[i]?.getD (0,0)).2
def cdL (m:Nat) (L:List (Nat × Nat)):Cod:=codN (kOf L) (bOf L) m L.length
theorem codN_cong {k b k' b':Nat->Nat} {m:Nat}:∀ {n:Nat},(∀ j,j<n->k j=k' j/\b j=b' j)->codN k b m n=codN k' b' m n
 | 0,_=>rfl
 | n+1,h=>by
  have:=codN_cong (m:=m) (n:=n) fun j hj=>h j (by omega)
  unfold codN
  rw [this,(h n (by omega)).1,(h n (by omega)).2]
theorem cdL_snoc (m:Nat) (L:List (Nat × Nat)) (d:Nat × Nat):cdL m (L++[d])=putM (cdL m L) d.1 d.2:=by
 have e:codN (kOf (L++[d])) (bOf (L++[d])) m L.length=cdL m L:=codN_cong fun j hj=>by
  unfold kOf bOf
  rw [List.getElem?_append_left hj]
  exact ⟨rfl,rfl⟩
 unfold cdL at e ⊢
 rw [List.length_append,List.length_singleton,codN,e]
 unfold kOf bOf
 rw [List.getElem?_append_right (Nat.le_refl _),Nat.sub_self]
 rfl
theorem cdL_ok {m:Nat} {L:List (Nat × Nat)} (h:L.length<=16777216):CodOk m L.length (cdL m L):=by
 have key:∀ i,i<=16777216->CodOk m i (codN (kOf L) (bOf L) m i):=by
  intro i
  induction i with
  | zero=>exact fun _=>newC_ok m
  | succ i ih=>exact fun hi=>Go.Ar.putM_ok (ih (by omega)) _ _ (by omega)
 exact key _ h
theorem bOf_le {L:List (Nat × Nat)} (h:∀ d∈L,d.2<=1):∀ i,i<L.length->bOf L i<=1:=fun i hi=>by
 unfold bOf
 rw [List.getElem?_eq_getElem hi]
 exact h _ (List.getElem_mem hi)
theorem kOf_at {L A B:List (Nat × Nat)} {d:Nat × Nat} (h:L=A++d::B):kOf L A.length=d.1/\bOf L A.length=d.2:=by
 subst h
 unfold kOf bOf
 rw [List.getElem?_append_right (Nat.le_refl _),Nat.sub_self]
 exact ⟨rfl,rfl⟩
structure Walk (L:List (Nat × Nat)) (D:Nat->Dec):Prop where
 step:∀ i,i<L.length->getD (D i) (kOf L i)=(D (i+1),bOf L i)
theorem Walk.at {L A B:List (Nat × Nat)} {D:Nat->Dec} {d:Nat × Nat} (h:Walk L D) (e:L=A++d::B):getD (D A.length) d.1=(D (A.length+1),d.2):=by
 obtain ⟨h1,h2⟩:=kOf_at e
 have:=h.step A.length (by rw [e]; simp)
 rw [h1,h2] at this
 exact this
theorem walk_of {m:Nat} {L:List (Nat × Nat)} (h1:∀ d∈L,d.2<=1) (hc:L.length<=16777216):Walk L (decN (kOf L) (bytesM (flushM (cdL m L))) m):=by
 refine ⟨fun i hi=>Prod.ext rfl ?_⟩
 have hlt:∀ x∈bytesM (flushM (cdL m L)),x<256:=Go.Ar.flushM_lt (cdL_ok hc).wf
 exact Go.Ar.back_bit (kOf L) (bOf L) m L.length (bOf_le h1) hc hlt hi
end Go.Bm
namespace Go.Bm
open Go Go.Den Go.Den.YtfaclehehhgpcaaGreat
open Go.Ar (Dec idx)
section
variable (G:Int->Int->Bool) (W m t:Nat) (skip:Bool) (base:Int)
def dsRow (y k:Nat):List (Nat × Nat):=(List.range k).map fun (x:Nat)=>(idx (base+((gctx t G (x:Int) (y:Int):Nat):Int)) m,(G (x:Int) (y:Int)).toNat)
def dsLine (y:Nat):List (Nat × Nat):=match skip with
 | false=>dsRow G m t base y W
 | true=>(idx (base+((gsize t:Nat):Int)) m,(sameB G W y).toNat)::(match sameB G W y with
  | true=>[]
  | false=>dsRow G m t base y W)
def dsG:Nat->List (Nat × Nat)
 | 0=>[]
 | y+1=>dsG y++dsLine G W m t skip base y
theorem dsRow_succ (y k:Nat):dsRow G m t base y (k+1)=dsRow G m t base y k++[(idx (base+((gctx t G (k:Int) (y:Int):Nat):Int)) m,(G (k:Int) (y:Int)).toNat)]:=by
 unfold dsRow
 rw [List.range_succ,List.map_append]
 rfl
theorem dsRow_len (y k:Nat):(dsRow G m t base y k).length=k:=by simp [dsRow]
theorem dsLine_len (y:Nat):(dsLine G W m t skip base y).length<=W+1:=by
 unfold dsLine
 cases skip with
 | false =>
  simp only [dsRow_len]
  omega
 | true =>
  cases sameB G W y <;> simp [dsRow_len]
theorem dsG_len:∀ y,(dsG G W m t skip base y).length<=y*(W+1)
 | 0=>by simp [dsG]
 | y+1=>by
  have h1:=dsG_len y
  have h2:=dsLine_len G W m t skip base y
  unfold dsG
  rw [List.length_append,Nat.add_mul,Nat.one_mul]
  omega
theorem dsRow_bit (y k:Nat):∀ d∈dsRow G m t base y k,d.2<=1:=fun d hd=>by
 unfold dsRow at hd
 obtain ⟨x,_,rfl⟩:=List.mem_map.1 hd
 exact toNat_le _
theorem dsLine_bit (y:Nat):∀ d∈dsLine G W m t skip base y,d.2<=1:=fun d hd=>by
 unfold dsLine at hd
 cases skip with
 | false=>exact dsRow_bit G m t base y W d hd
 | true =>
  rcases List.mem_cons.1 hd with rfl | hd
  ·exact toNat_le _
  ·cases hs:sameB G W y with
   | true=>rw [hs] at hd; cases hd
   | false=>rw [hs] at hd; exact dsRow_bit G m t base y W d hd
theorem dsG_bit:∀ y,∀ d∈dsG G W m t skip base y,d.2<=1
 | 0=>fun d hd=>by cases hd
 | y+1=>fun d hd=>by
  unfold dsG at hd
  rcases List.mem_append.1 hd with hd | hd
  ·exact dsG_bit y d hd
  ·exact dsLine_bit G W m t skip base y d hd
theorem dsG_split {y:Nat}:∀ {X:Nat},y<X->∃ C,dsG G W m t skip base X=dsG G W m t skip base y++(dsLine G W m t skip base y++C)
 | X+1,h=>by
  rcases Nat.lt_or_ge y X with h1 | h1
  ·obtain ⟨C,hC⟩:=dsG_split h1
   refine ⟨C++dsLine G W m t skip base X,?_⟩
   rw [dsG,hC]
   simp
  ·obtain rfl:y=X:=by omega
   exact ⟨[],by simp [dsG]⟩
theorem enc_row (L:List (Nat × Nat)) (y:Nat):∀ k,rowG t (stepP m base) y k (G,cdL m L) = .inl (G,cdL m (L++dsRow G m t base y k))
 | 0=>by simp [rowG,dsRow]
 | k+1=>by
  unfold rowG
  rw [enc_row L y k]
  simp only [stepP,upd_self]
  rw [dsRow_succ,<- List.append_assoc,cdL_snoc]
variable (hG:∀ x y:Int,¬ (0<=x/\x<W/\0<=y)->G x y=false)
include hG
theorem enc_g (L:List (Nat × Nat)):∀ y,runG W t skip (stepP m base) y (G,cdL m L) = .inl (G,cdL m (L++dsG G W m t skip base y))
 | 0=>by simp [runG,dsG]
 | y+1=>by
  unfold runG
  rw [enc_g L y]
  cases skip with
  | false =>
   simp only []
   rw [enc_row,dsG,dsLine,List.append_assoc]
  | true =>
   simp only [stepP]
   rw [<- cdL_snoc m _ (idx (base+((gsize t:Nat):Int)) m,(sameB G W y).toNat)]
   cases hs:sameB G W y with
   | true =>
    simp only []
    rw [copy_same (fun a b h=>hG a b fun hh=>h ⟨hh.1,hh.2.1⟩) hs,dsG]
    simp only [dsLine,hs]
    simp
   | false =>
    simp only []
    rw [enc_row,dsG]
    simp only [dsLine,hs]
    simp
theorem part_gctx {x y:Nat} (ht:t<4) (hx:x<W):gctx t (partG G W (y*W+x)) x y=gctx t G x y:=by
 unfold gctx pb
 congr 1
 refine List.map_congr_left fun p hp=>?_
 unfold plcs at hp
 obtain ⟨s,hs,hp⟩:=List.mem_flatMap.1 hp
 have hok:=spanL_ok ht s hs
 have d1:=hok.d
 have d2:=hok.f
 have d3:=hok.t
 have d4:=hok.z
 unfold spl at hp
 obtain ⟨j,hj,rfl⟩:=List.mem_map.1 hp
 have hj:=List.mem_range.1 hj
 unfold spanW at hj
 dsimp only
 refine partG_eq G W hG fun h1 h2 h3=>?_
 by_cases h:s.1=0
 ·have e:((y:Int)+s.1).toNat=y:=by omega
  rw [e]
  omega
 ·have e:(((y:Int)+s.1).toNat+1)*W<=y*W:=Nat.mul_le_mul_right _ (by omega)
  rw [Nat.add_mul,Nat.one_mul] at e
  omega
theorem part_zero:partG G W 0=fun _ _=>false:=by
 have _:=hG
 funext x y
 unfold partG
 rw [decide_eq_false (by omega),Bool.false_and]
theorem part_same {y:Nat} (hs:sameB G W y=true):copyRow (partG G W (y*W)) y=partG G W ((y+1)*W):=by
 have hs:=fun (x:Nat) (hx:x<W)=>by
  unfold sameB at hs
  have:=List.all_eq_true.1 hs x (List.mem_range.2 hx)
  exact of_decide_eq_true (p:=G (x:Int) (y:Int)=G (x:Int) ((y:Int)-1)) (by simpa using this)
 funext a b
 unfold copyRow
 by_cases hin:0<=a/\a<(W:Int)/\0<=b
 ·by_cases hb:b=(y:Int)
  ·subst hb
   have e2:partG G W ((y+1)*W) a y=G a y:=partG_eq G W hG fun h1 h2 h3=>by
    rw [Int.toNat_natCast,Nat.add_mul,Nat.one_mul]
    omega
   have e3:=hs a.toNat (by omega)
   rw [show ((a.toNat:Nat):Int)=a by omega] at e3
   rw [e2]
   by_cases hy:y=0
   ·rw [if_neg (fun hh=>hh.2 hy)]
    subst hy
    rw [e3,hG a _ (by omega)]
    unfold partG
    rw [decide_eq_false (by omega),Bool.false_and]
   ·rw [if_pos ⟨rfl,hy⟩,e3]
    refine partG_eq G W hG fun h1 h2 h3=>?_
    have e4:(((y:Int)-1).toNat+1)*W<=y*W:=Nat.mul_le_mul_right _ (by omega)
    rw [Nat.add_mul,Nat.one_mul] at e4
    omega
  ·rw [if_neg (fun hh=>hb hh.1)]
   unfold partG
   congr 1
   rw [decide_eq_decide]
   constructor
   ·rintro ⟨h2,h3,h4,h5⟩
    refine ⟨h2,h3,h4,?_⟩
    rw [Nat.add_mul,Nat.one_mul]
    omega
   ·rintro ⟨h2,h3,h4,h5⟩
    refine ⟨h2,h3,h4,?_⟩
    rcases Nat.lt_or_ge b.toNat y with h6 | h6
    ·have e4:(b.toNat+1)*W<=y*W:=Nat.mul_le_mul_right _ (by omega)
     rw [Nat.add_mul,Nat.one_mul] at e4
     omega
    ·exfalso
     have e4:(y+1)*W<=b.toNat*W:=Nat.mul_le_mul_right _ (by omega)
     omega
 ·have e:∀ i a b,¬ (0<=a/\a<(W:Int)/\0<=b)->partG G W i a b=false:=fun i a b h=>by
   unfold partG
   rw [hG a b h,Bool.and_false]
  rw [e _ a b hin]
  by_cases hb:b=(y:Int)/\y≠0
  ·rw [if_pos hb,e _ a _ (by omega),e _ a b hin]
  ·rw [if_neg hb,e _ a b hin]
variable {L:List (Nat × Nat)} {D:Nat->Dec} (hW:Walk L D)
include hW
theorem dec_row {A:List (Nat × Nat)} {y:Nat} (ht:t<4):∀ k,k<=W->∀ C,L=A++(dsRow G m t base y k++C)->rowG t (stepG m base) y k (partG G W (y*W),D A.length) = .inl (partG G W (y*W+k),D (A++dsRow G m t base y k).length)
 | 0,_,C,_=>by simp [rowG,dsRow]
 | k+1,hk,C,hL=>by
  have hL2:L=(A++dsRow G m t base y k)++(idx (base+((gctx t G (k:Int) (y:Int):Nat):Int)) m,(G (k:Int) (y:Int)).toNat)::C:=by
   rw [hL,dsRow_succ]
   simp
  have hs:=hW.at hL2
  unfold rowG
  rw [dec_row ht k (by omega) ((idx (base+((gctx t G (k:Int) (y:Int):Nat):Int)) m,(G (k:Int) (y:Int)).toNat)::C) (hL2.trans (List.append_assoc _ _ _))]
  simp only [stepG]
  rw [part_gctx G W t hG ht (by omega),hs]
  dsimp only
  have hbit:decide ((G (k:Int) (y:Int)).toNat=1)=G (k:Int) (y:Int):=by cases G (k:Int) (y:Int) <;> rfl
  rw [hbit,partG_next G W hG (by omega),dsRow_succ]
  simp [Nat.add_assoc]
theorem dec_g {A C:List (Nat × Nat)} {X:Nat} (ht:t<4) (hL:L=A++(dsG G W m t skip base X++C)):∀ y,y<=X->runG W t skip (stepG m base) y (fun _ _=>false,D A.length) = .inl (partG G W (y*W),D (A++dsG G W m t skip base y).length)
 | 0,_=>by
  rw [Nat.zero_mul,part_zero G W hG]
  simp [runG,dsG]
 | y+1,hy=>by
  obtain ⟨C2,hC2⟩:=dsG_split G W m t skip base (y:=y) (X:=X) (by omega)
  unfold runG
  rw [dec_g ht hL y (by omega)]
  rw [hC2] at hL
  have hrow:(y+1)*W=y*W+W:=by rw [Nat.add_mul,Nat.one_mul]
  cases skip with
  | false =>
   simp only []
   rw [dec_row G W m t base hG hW (A:=A++dsG G W m t false base y) ht W (Nat.le_refl _) (C2++C) (hL.trans (by simp [dsLine])),dsG,dsLine,hrow,List.append_assoc]
  | true =>
   simp only [stepG]
   cases hs:sameB G W y with
   | true =>
    have h1:=hW.at (A:=A++dsG G W m t true base y) (B:=C2++C) (d:=(idx (base+((gsize t:Nat):Int)) m,1)) (hL.trans (by simp [dsLine,hs]))
    rw [h1]
    simp only [decide_true]
    rw [part_same G W hG hs,dsG]
    simp [dsLine,hs,Nat.add_assoc]
   | false =>
    have h1:=hW.at (A:=A++dsG G W m t true base y) (B:=dsRow G m t base y W++(C2++C)) (d:=(idx (base+((gsize t:Nat):Int)) m,0)) (hL.trans (by simp [dsLine,hs]))
    rw [h1]
    simp only [show decide ((0:Nat)=1)=false from rfl]
    have h2:=dec_row G W m t base hG hW (A:=(A++dsG G W m t true base y)++[(idx (base+((gsize t:Nat):Int)) m,0)]) (y:=y) ht W (Nat.le_refl _) (C2++C) (hL.trans (by simp [dsLine,hs]))
    rw [List.length_append,List.length_singleton] at h2
    rw [h2,dsG,hrow]
    simp [dsLine,hs,Nat.add_assoc]
end
end Go.Bm
namespace Go.Bm
open Go Go.Den Go.Den.YtfaclehehhgpcaaGreat
theorem GEncR.bytes {w b template:Int} {skip:Bool} {ws:List Nat} {e:Int} {bs:List Nat} (h:GEncR w b ws template skip e bs):(∀ x∈bs,x<256)/\bs.length<140737488351300:=by
 rcases h with ⟨_,_,rfl⟩ | ⟨_,_,_,rfl⟩ | ⟨_,_,_,G,s',k,_,_,hok,rfl⟩
 ·exact ⟨(fun x hx=>by cases hx),by decide⟩
 ·exact ⟨(fun x hx=>by cases hx),by decide⟩
 ·refine ⟨Go.Ar.flushM_lt hok.wf,?_⟩
  have h1:=Go.Ar.flushM_len s'
  have h2:=hok.wf.len
  have h3:=hok.wf.n
  omega
end Go.Bm
namespace Go.Ar
open Go Go.Den Go.Den.YtfaclehehhgpcaaGreat
end Go.Ar
namespace Go.Ar
open Go Go.Den Go.Den.YtfaclehehhgpcaaGreat
end Go.Ar
namespace Go.Bm
open Go Go.Den Go.Den.YtfaclehehhgpcaaGreat
end Go.Bm
namespace Go.Bm
open Go Go.Den Go.Den.YtfaclehehhgpcaaGreat
theorem ptr_at {q:Option Addr} {a:Addr} {K:Addr->Prop} (h:q=some a) (H:K a):ptr q K:=by subst h; exact H
structure It7 where
 w:Int
 b:Int
 ws:List Nat
 tt:Int
 sk:Bool
def It7.W (t:It7):Nat:=t.w.toNat
def It7.X (t:It7):Nat:=t.b.toNat
def It7.t (t:It7):Nat:=t.tt.toNat
def It7.G (t:It7):Int->Int->Bool:=getP t.ws t.W t.X
def It7.area (t:It7):Nat:=t.X*t.W
end Go.Bm
namespace Go.Den.YtfaclehehhgpcaaGreat
open Go Go.Den
def bits_Reader_Left (C:CallP) (r:Option Addr) (h:Heap) (K:VK) (Kp:PK):Prop :=
ptr r fun a_1 =>
ptr r fun a_2 =>
ldS h (a_1.add 0) fun x_3 x_3n x_3c =>
bindI (IntKind.i64.wrap ((8:Int)*(x_3n:Int))) fun z_4 =>
ldI h (a_2.add 1) .i64 fun x_5 =>
bindI (IntKind.i64.wrap (z_4-x_5)) fun z_6 =>
K (.int .i64 z_6) h
def bits_NewWriter (C:CallP) (most:Int) (h:Heap) (K:VK) (Kp:PK):Prop :=
bcase (decide (most<(0:Int))) (
K (.tuple #[.pointer none, .int .i64 10]) h) <|
bcase (decide (most > (67108864:Int))) (
K (.tuple #[.pointer none, .int .i64 10]) h) <|
bindI (IntKind.i64.wrap ((8:Int)*most)) fun z_1 =>
newC h [.slice none 0 0, .int .i64 0, .int .i64 z_1] T_bits_Writer fun r_2 h_3 =>
K (.tuple #[.pointer (some ⟨r_2,0,none⟩), .int .i64 0]) h_3
def bits_Writer_Put (C:CallP) (w:Option Addr) (n:Int) (width:Int) (h:Heap) (K:VK) (Kp:PK):Prop :=
bcase (decide (width<(0:Int))) (
K (.int .i64 11) h) <|
bcase (decide (width > (64:Int))) (
K (.int .i64 11) h) <|
∃ K_1:List Value->Heap->Prop,(
bcase (decide (width<(64:Int))) (
needs (0<=width) <|
bindI (shrI .u64 n width) fun z_4 =>
K_1 [.bool (z_4 != (0:Int))] h) <|
K_1 [.bool false] h)/\∀ (h_2:Heap) (u_3:Nat->Value) (x_5:Bool),K_1 [.bool x_5] h_2->(
bcase x_5 (
K (.int .i64 12) h_2) <|
ptr w fun a_6 =>
ptr w fun a_7 =>
ldI h_2 (a_6.add 1) .i64 fun x_8 =>
bindI (IntKind.i64.wrap (x_8+width)) fun z_9 =>
ldI h_2 (a_7.add 2) .i64 fun x_10 =>
bcase (decide (z_9 > x_10)) (
K (.int .i64 13) h_2) <|
ptr w fun a_11 =>
ptr w fun a_12 =>
ldS h_2 (a_11.add 0) fun x_13 x_13n x_13c =>
ldI h_2 (a_12.add 1) .i64 fun x_14 =>
C F_bits_lay_uint64 #[.slice x_13 x_13n x_13c, .int .i64 x_14, .int .u64 n, .int .i64 width] h_2 (fun v_15 h_16 =>
∃ (r_17:Option Addr) (r_17n:Nat) (r_17c:Nat),v_15 = .slice r_17 r_17n r_17c/\(
ptr w fun a_18 =>
stV h_16 (a_18.add 0) (.slice r_17 r_17n r_17c) fun h_19 =>
ptr w fun a_20 =>
ldI h_19 (a_20.add 1) .i64 fun x_21 =>
bindI (IntKind.i64.wrap (x_21+width)) fun z_22 =>
ptr w fun a_23 =>
stV h_19 (a_23.add 1) (.int .i64 z_22) fun h_24 =>
K (.int .i64 0) h_24)) (Kp))
def bits_Writer_Var (C:CallP) (a0:Option Addr) (a1:Int) (h:Heap) (K:VK) (Kp:PK):Prop :=
bindI (shrI .u64 a1 (7:Int)) fun z_1 =>
∃ J_2:Nat->List Value->Heap->Prop,(∃ n_4,J_2 n_4 [.int .i64 1, .int .u64 z_1] h)/\∀ (n_4:Nat) (h_5:Heap) (u_6:Nat->Value) (x_7:Int) (x_8:Int),J_2 n_4 [.int .i64 x_7, .int .u64 x_8] h_5->(
bcase (decide (x_8 > (0:Int))) (
bindI (IntKind.i64.wrap (x_7+(1:Int))) fun z_9 =>
bindI (shrI .u64 x_8 (7:Int)) fun z_10 =>
∃ m_3,m_3<n_4/\J_2 m_3 [.int .i64 z_9, .int .u64 z_10] h_5) <|
ptr a0 fun a_11 =>
bindI (IntKind.i64.wrap ((8:Int)*x_7)) fun z_12 =>
ptr a0 fun a_13 =>
ldI h_5 (a_11.add 1) .i64 fun x_14 =>
bindI (IntKind.i64.wrap (x_14+z_12)) fun z_15 =>
ldI h_5 (a_13.add 2) .i64 fun x_16 =>
bcase (decide (z_15 > x_16)) (
K (.int .i64 13) h_5) <|
∃ J_17:Nat->List Value->Heap->Prop,(∃ n_19,J_17 n_19 [.int .i64 0] h_5)/\∀ (n_19:Nat) (h_20:Heap) (u_21:Nat->Value) (x_22:Int),J_17 n_19 [.int .i64 x_22] h_20->(
bcase (decide (x_22<x_7)) (
bindI (IntKind.i64.wrap ((7:Int)*x_22)) fun z_23 =>
needs (0<=z_23) <|
bindI (shrI .u64 a1 z_23) fun z_24 =>
bindI (IntKind.u8.wrap z_24) fun z_25 =>
bindI (bitI .and .u8 z_25 (127:Int)) fun z_26 =>
∃ K_27:List Value->Heap->Prop,(
bindI (IntKind.i64.wrap (x_7-(1:Int))) fun z_30 =>
bcase (decide (x_22<z_30)) (
bindI (bitI .or .u8 z_26 (128:Int)) fun z_31 =>
K_27 [.int .u8 z_31] h_20) <|
K_27 [.int .u8 z_26] h_20)/\∀ (h_28:Heap) (u_29:Nat->Value) (x_32:Int),K_27 [.int .u8 x_32] h_28->(
ptr a0 fun a_33 =>
ptr a0 fun a_34 =>
ldS h_28 (a_33.add 0) fun x_35 x_35n x_35c =>
ldI h_28 (a_34.add 1) .i64 fun x_36 =>
C F_bits_lay_uint8 #[.slice x_35 x_35n x_35c, .int .i64 x_36, .int .u8 x_32, .int .i64 8] h_28 (fun v_37 h_38 =>
∃ (r_39:Option Addr) (r_39n:Nat) (r_39c:Nat),v_37 = .slice r_39 r_39n r_39c/\(
ptr a0 fun a_40 =>
stV h_38 (a_40.add 0) (.slice r_39 r_39n r_39c) fun h_41 =>
ptr a0 fun a_42 =>
ldI h_41 (a_42.add 1) .i64 fun x_43 =>
bindI (IntKind.i64.wrap (x_43+(8:Int))) fun z_44 =>
ptr a0 fun a_45 =>
stV h_41 (a_45.add 1) (.int .i64 z_44) fun h_46 =>
bindI (IntKind.i64.wrap (x_22+(1:Int))) fun z_47 =>
∃ m_18,m_18<n_19/\J_17 m_18 [.int .i64 z_47] h_46)) (Kp))) <|
K (.int .i64 0) h_20))
def bits_Writer_Bytes (C:CallP) (w:Option Addr) (h:Heap) (K:VK) (Kp:PK):Prop :=
ptr w fun a_1 =>
ldS h (a_1.add 0) fun x_2 x_2n x_2c =>
appC h T_uint8 1 1 [.int .u8 0] none (0) (0) x_2 (x_2n) fun q_3 q_3n q_3c h_4 =>
K (.slice q_3 q_3n q_3c) h_4
def bits_NewReader (C:CallP) (b:Option Addr) (bn:Nat) (bc:Nat) (h:Heap) (K:VK) (Kp:PK):Prop :=
appC h T_uint8 1 1 [.int .u8 0] none (0) (0) b (bn) fun q_1 q_1n q_1c h_2 =>
newC h_2 [.slice q_1 q_1n q_1c, .int .i64 0] T_bits_Reader fun r_3 h_4 =>
K (.pointer (some ⟨r_3,0,none⟩)) h_4
def bits_Reader_Take (C:CallP) (r:Option Addr) (width:Int) (h:Heap) (K:VK) (Kp:PK):Prop :=
bcase (decide (width<(0:Int))) (
K (.tuple #[.int .u64 0, .int .i64 11]) h) <|
bcase (decide (width > (64:Int))) (
K (.tuple #[.int .u64 0, .int .i64 11]) h) <|
C F_bits_Reader_Left #[.pointer r] h (fun v_1 h_2 =>
∃ (r_3:Int),v_1 = .int .i64 r_3/\(
bcase (decide (width > r_3)) (
K (.tuple #[.int .u64 0, .int .i64 14]) h_2) <|
ptr r fun a_4 =>
ldI h_2 (a_4.add 1) .i64 fun x_5 =>
bindI (IntKind.i64.wrap (x_5+width)) fun z_6 =>
ptr r fun a_7 =>
stV h_2 (a_7.add 1) (.int .i64 z_6) fun h_8 =>
ptr r fun a_9 =>
ptr r fun a_10 =>
ldS h_8 (a_9.add 0) fun x_11 x_11n x_11c =>
ldI h_8 (a_10.add 1) .i64 fun x_12 =>
bindI (IntKind.i64.wrap (x_12-width)) fun z_13 =>
C F_bits_told_uint64 #[.slice x_11 x_11n x_11c, .int .i64 z_13, .int .i64 width] h_8 (fun v_14 h_15 =>
∃ (r_16:Int),v_14 = .int .u64 r_16/\(
K (.tuple #[.int .u64 r_16, .int .i64 0]) h_15)) (Kp))) (Kp)
def bits_Reader_Var (C:CallP) (D:CallDP) (r:Option Addr) (h:Heap) (K:VK) (Kp:PK):Prop :=
newC h [.pointer r] T_p_bits_Reader fun r_1 h_2 =>
newC h_2 [.int .u64 0] T_uint64 fun r_3 h_4 =>
newC h_4 [.int .i64 0] T_api_Errno fun r_5 h_6 =>
ldP h_6 (⟨r_1,0,none⟩:Addr) fun x_7 =>
ptr x_7 fun a_8 =>
ldI h_6 (a_8.add 1) .i64 fun x_9 =>
newC h_6 [.int .i64 0] T_int fun r_10 h_11 =>
stV h_11 (⟨r_10,0,none⟩:Addr) (.int .i64 x_9) fun h_12 =>
∃ J_13:Nat->List Value->Heap->Prop,(∃ n_15,J_13 n_15 [.int .i64 0] h_12)/\∀ (n_15:Nat) (h_16:Heap) (u_17:Nat->Value) (shift_18:Int),J_13 n_15 [.int .i64 shift_18] h_16->(
ldP h_16 (⟨r_1,0,none⟩:Addr) fun x_19 =>
C F_bits_Reader_group #[.pointer x_19] h_16 (fun v_20 h_21 =>
∃ (r_22:Int),∃ (r_23:Bool),v_20 = .tuple #[.int .u8 r_22, .bool r_23]/\(
∃ K_24:List Value->Heap->Prop,(
bcase (!r_23) (
stV h_21 (⟨r_3,0,none⟩:Addr) (.int .u64 0) fun h_27 =>
stV h_27 (⟨r_5,0,none⟩:Addr) (.int .i64 14) fun h_28 =>
leaveD D (fun h_29 =>
ldI h_29 (⟨r_3,0,none⟩:Addr) .u64 fun r_30 =>
ldI h_29 (⟨r_5,0,none⟩:Addr) .i64 fun r_31 =>
K (.tuple #[.int .u64 r_30, .int .i64 r_31]) h_29) Kp [{ target := .fn (.func F_bits_Reader_Var_c1) #[.pointer (some ⟨r_5,0,none⟩), .pointer (some ⟨r_10,0,none⟩), .pointer (some ⟨r_3,0,none⟩), .pointer (some ⟨r_1,0,none⟩)],args:=#[] }] .returning h_28) <|
bcase (shift_18 == (63:Int)) (
bcase (decide (r_22 > (1:Int))) (
bcase (decide (r_22 > (1:Int))) (
stV h_21 (⟨r_3,0,none⟩:Addr) (.int .u64 0) fun h_32 =>
stV h_32 (⟨r_5,0,none⟩:Addr) (.int .i64 16) fun h_33 =>
leaveD D (fun h_34 =>
ldI h_34 (⟨r_3,0,none⟩:Addr) .u64 fun r_35 =>
ldI h_34 (⟨r_5,0,none⟩:Addr) .i64 fun r_36 =>
K (.tuple #[.int .u64 r_35, .int .i64 r_36]) h_34) Kp [{ target := .fn (.func F_bits_Reader_Var_c1) #[.pointer (some ⟨r_5,0,none⟩), .pointer (some ⟨r_10,0,none⟩), .pointer (some ⟨r_3,0,none⟩), .pointer (some ⟨r_1,0,none⟩)],args:=#[] }] .returning h_33) <|
K_24 [] h_21) <|
bcase (decide (shift_18 > (0:Int))) (
bcase (r_22 == (0:Int)) (
stV h_21 (⟨r_3,0,none⟩:Addr) (.int .u64 0) fun h_37 =>
stV h_37 (⟨r_5,0,none⟩:Addr) (.int .i64 16) fun h_38 =>
leaveD D (fun h_39 =>
ldI h_39 (⟨r_3,0,none⟩:Addr) .u64 fun r_40 =>
ldI h_39 (⟨r_5,0,none⟩:Addr) .i64 fun r_41 =>
K (.tuple #[.int .u64 r_40, .int .i64 r_41]) h_39) Kp [{ target := .fn (.func F_bits_Reader_Var_c1) #[.pointer (some ⟨r_5,0,none⟩), .pointer (some ⟨r_10,0,none⟩), .pointer (some ⟨r_3,0,none⟩), .pointer (some ⟨r_1,0,none⟩)],args:=#[] }] .returning h_38) <|
K_24 [] h_21) <|
K_24 [] h_21) <|
bcase (decide (shift_18 > (0:Int))) (
bcase (r_22 == (0:Int)) (
stV h_21 (⟨r_3,0,none⟩:Addr) (.int .u64 0) fun h_42 =>
stV h_42 (⟨r_5,0,none⟩:Addr) (.int .i64 16) fun h_43 =>
leaveD D (fun h_44 =>
ldI h_44 (⟨r_3,0,none⟩:Addr) .u64 fun r_45 =>
ldI h_44 (⟨r_5,0,none⟩:Addr) .i64 fun r_46 =>
K (.tuple #[.int .u64 r_45, .int .i64 r_46]) h_44) Kp [{ target := .fn (.func F_bits_Reader_Var_c1) #[.pointer (some ⟨r_5,0,none⟩), .pointer (some ⟨r_10,0,none⟩), .pointer (some ⟨r_3,0,none⟩), .pointer (some ⟨r_1,0,none⟩)],args:=#[] }] .returning h_43) <|
K_24 [] h_21) <|
K_24 [] h_21)/\∀ (h_25:Heap) (u_26:Nat->Value) ,K_24 [] h_25->(
bindI (bitI .and .u8 r_22 (127:Int)) fun z_47 =>
bindI (IntKind.u64.wrap z_47) fun z_48 =>
needs (0<=shift_18) <|
bindI (shlI .u64 z_48 shift_18) fun z_49 =>
ldI h_25 (⟨r_3,0,none⟩:Addr) .u64 fun x_50 =>
bindI (bitI .or .u64 x_50 z_49) fun z_51 =>
stV h_25 (⟨r_3,0,none⟩:Addr) (.int .u64 z_51) fun h_52 =>
bcase (decide (r_22<(128:Int))) (
ldI h_52 (⟨r_3,0,none⟩:Addr) .u64 fun x_53 =>
stV h_52 (⟨r_3,0,none⟩:Addr) (.int .u64 x_53) fun h_54 =>
stV h_54 (⟨r_5,0,none⟩:Addr) (.int .i64 0) fun h_55 =>
leaveD D (fun h_56 =>
ldI h_56 (⟨r_3,0,none⟩:Addr) .u64 fun r_57 =>
ldI h_56 (⟨r_5,0,none⟩:Addr) .i64 fun r_58 =>
K (.tuple #[.int .u64 r_57, .int .i64 r_58]) h_56) Kp [{ target := .fn (.func F_bits_Reader_Var_c1) #[.pointer (some ⟨r_5,0,none⟩), .pointer (some ⟨r_10,0,none⟩), .pointer (some ⟨r_3,0,none⟩), .pointer (some ⟨r_1,0,none⟩)],args:=#[] }] .returning h_55) <|
bindI (IntKind.i64.wrap (shift_18+(7:Int))) fun z_59 =>
∃ m_14,m_14<n_15/\J_13 m_14 [.int .i64 z_59] h_52))) (fun c_63 h_64=>leaveD D (fun h_60 =>
ldI h_60 (⟨r_3,0,none⟩:Addr) .u64 fun r_61 =>
ldI h_60 (⟨r_5,0,none⟩:Addr) .i64 fun r_62 =>
K (.tuple #[.int .u64 r_61, .int .i64 r_62]) h_60) Kp [{ target := .fn (.func F_bits_Reader_Var_c1) #[.pointer (some ⟨r_5,0,none⟩), .pointer (some ⟨r_10,0,none⟩), .pointer (some ⟨r_3,0,none⟩), .pointer (some ⟨r_1,0,none⟩)],args:=#[] }] (.panicking c_63) h_64))
def bits_lay_uint64 (C:CallP) (b:Option Addr) (bn:Nat) (bc:Nat) (atv:Int) (n:Int) (width:Int) (h:Heap) (K:VK) (Kp:PK):Prop :=
bindI (IntKind.i64.wrap (width-(1:Int))) fun z_1 =>
∃ J_2:Nat->List Value->Heap->Prop,(∃ n_4,J_2 n_4 [.slice b bn bc, .int .i64 atv, .int .i64 z_1] h)/\∀ (n_4:Nat) (h_5:Heap) (u_6:Nat->Value) (b_7:Option Addr) (b_7n:Nat) (b_7c:Nat) (at_8:Int) (i_9:Int),J_2 n_4 [.slice b_7 b_7n b_7c, .int .i64 at_8, .int .i64 i_9] h_5->(
bcase (decide (i_9≥(0:Int))) (
∃ K_10:List Value->Heap->Prop,(
bindI (at_8.tmod (8:Int)) fun z_13 =>
bcase (z_13 == (0:Int)) (
newC h_5 [.int .u8 0] T_uint8 fun r_14 h_15 =>
appC h_15 T_uint8 1 1 [.int .u8 0] b_7 (b_7n) (b_7c) (some ⟨r_14,0,none⟩) (1) fun q_16 q_16n q_16c h_17 =>
K_10 [.slice q_16 q_16n q_16c] h_17) <|
K_10 [.slice b_7 b_7n b_7c] h_5)/\∀ (h_11:Heap) (u_12:Nat->Value) (b_18:Option Addr) (b_18n:Nat) (b_18c:Nat),K_10 [.slice b_18 b_18n b_18c] h_11->(
bindI (IntKind.i64.wrap (at_8.tdiv (8:Int))) fun z_19 =>
needs (0<=z_19/\z_19<(b_18n:Int)) <|
ptr b_18 fun a_20 =>
needs (0<=i_9) <|
bindI (shrI .u64 n i_9) fun z_21 =>
bindI (bitI .and .u64 z_21 (1:Int)) fun z_22 =>
bindI (IntKind.u8.wrap z_22) fun z_23 =>
bindI (at_8.tmod (8:Int)) fun z_24 =>
bindI (IntKind.i64.wrap ((7:Int)-z_24)) fun z_25 =>
needs (0<=z_25) <|
bindI (shlI .u8 z_23 z_25) fun z_26 =>
ldI h_11 (a_20.add (z_19.toNat*1)) .u8 fun x_27 =>
bindI (bitI .or .u8 x_27 z_26) fun z_28 =>
needs (0<=z_19/\z_19<(b_18n:Int)) <|
ptr b_18 fun a_29 =>
stV h_11 (a_29.add (z_19.toNat*1)) (.int .u8 z_28) fun h_30 =>
bindI (IntKind.i64.wrap (at_8+(1:Int))) fun z_31 =>
bindI (IntKind.i64.wrap (i_9-(1:Int))) fun z_32 =>
∃ m_3,m_3<n_4/\J_2 m_3 [.slice b_18 b_18n b_18c, .int .i64 z_31, .int .i64 z_32] h_30)) <|
K (.slice b_7 b_7n b_7c) h_5)
def bits_lay_uint8 (C:CallP) (b:Option Addr) (bn:Nat) (bc:Nat) (atv:Int) (n:Int) (width:Int) (h:Heap) (K:VK) (Kp:PK):Prop :=
bindI (IntKind.i64.wrap (width-(1:Int))) fun z_1 =>
∃ J_2:Nat->List Value->Heap->Prop,(∃ n_4,J_2 n_4 [.slice b bn bc, .int .i64 atv, .int .i64 z_1] h)/\∀ (n_4:Nat) (h_5:Heap) (u_6:Nat->Value) (b_7:Option Addr) (b_7n:Nat) (b_7c:Nat) (at_8:Int) (i_9:Int),J_2 n_4 [.slice b_7 b_7n b_7c, .int .i64 at_8, .int .i64 i_9] h_5->(
bcase (decide (i_9≥(0:Int))) (
∃ K_10:List Value->Heap->Prop,(
bindI (at_8.tmod (8:Int)) fun z_13 =>
bcase (z_13 == (0:Int)) (
newC h_5 [.int .u8 0] T_uint8 fun r_14 h_15 =>
appC h_15 T_uint8 1 1 [.int .u8 0] b_7 (b_7n) (b_7c) (some ⟨r_14,0,none⟩) (1) fun q_16 q_16n q_16c h_17 =>
K_10 [.slice q_16 q_16n q_16c] h_17) <|
K_10 [.slice b_7 b_7n b_7c] h_5)/\∀ (h_11:Heap) (u_12:Nat->Value) (b_18:Option Addr) (b_18n:Nat) (b_18c:Nat),K_10 [.slice b_18 b_18n b_18c] h_11->(
bindI (IntKind.i64.wrap (at_8.tdiv (8:Int))) fun z_19 =>
needs (0<=z_19/\z_19<(b_18n:Int)) <|
ptr b_18 fun a_20 =>
needs (0<=i_9) <|
bindI (shrI .u8 n i_9) fun z_21 =>
bindI (bitI .and .u8 z_21 (1:Int)) fun z_22 =>
bindI (at_8.tmod (8:Int)) fun z_23 =>
bindI (IntKind.i64.wrap ((7:Int)-z_23)) fun z_24 =>
needs (0<=z_24) <|
bindI (shlI .u8 z_22 z_24) fun z_25 =>
ldI h_11 (a_20.add (z_19.toNat*1)) .u8 fun x_26 =>
bindI (bitI .or .u8 x_26 z_25) fun z_27 =>
needs (0<=z_19/\z_19<(b_18n:Int)) <|
ptr b_18 fun a_28 =>
stV h_11 (a_28.add (z_19.toNat*1)) (.int .u8 z_27) fun h_29 =>
bindI (IntKind.i64.wrap (at_8+(1:Int))) fun z_30 =>
bindI (IntKind.i64.wrap (i_9-(1:Int))) fun z_31 =>
∃ m_3,m_3<n_4/\J_2 m_3 [.slice b_18 b_18n b_18c, .int .i64 z_30, .int .i64 z_31] h_29)) <|
K (.slice b_7 b_7n b_7c) h_5)
def bits_told_uint64 (C:CallP) (b:Option Addr) (bn:Nat) (bc:Nat) (atv:Int) (width:Int) (h:Heap) (K:VK) (Kp:PK):Prop :=
∃ J_1:Nat->List Value->Heap->Prop,(∃ n_3,J_1 n_3 [.int .u64 0, .int .i64 0] h)/\∀ (n_3:Nat) (h_4:Heap) (u_5:Nat->Value) (n_6:Int) (x_7:Int),J_1 n_3 [.int .u64 n_6, .int .i64 x_7] h_4->(
bcase (decide (x_7<width)) (
bindI (shlI .u64 n_6 (1:Int)) fun z_8 =>
bindI (IntKind.i64.wrap (atv+x_7)) fun z_9 =>
bindI (IntKind.i64.wrap (z_9.tdiv (8:Int))) fun z_10 =>
needs (0<=z_10/\z_10<(bn:Int)) <|
ptr b fun a_11 =>
ldI h_4 (a_11.add (z_10.toNat*1)) .u8 fun x_12 =>
bindI (IntKind.i64.wrap (atv+x_7)) fun z_13 =>
bindI (z_13.tmod (8:Int)) fun z_14 =>
bindI (IntKind.i64.wrap ((7:Int)-z_14)) fun z_15 =>
needs (0<=z_15) <|
bindI (shrI .u8 x_12 z_15) fun z_16 =>
bindI (bitI .and .u8 z_16 (1:Int)) fun z_17 =>
bindI (IntKind.u64.wrap z_17) fun z_18 =>
bindI (bitI .or .u64 z_8 z_18) fun z_19 =>
bindI (IntKind.i64.wrap (x_7+(1:Int))) fun z_20 =>
∃ m_2,m_2<n_3/\J_1 m_2 [.int .u64 z_19, .int .i64 z_20] h_4) <|
K (.int .u64 n_6) h_4)
def bits_Reader_Var_c1 (C:CallP) (cap0:Addr) (cap1:Addr) (cap2:Addr) (cap3:Addr) (h:Heap) (K:VK) (Kp:PK):Prop :=
ldI h cap0 .i64 fun x_1 =>
bcase (x_1 != (0:Int)) (
ldP h cap3 fun x_2 =>
ldI h cap1 .i64 fun x_3 =>
stV h cap2 (.int .u64 0) fun h_4 =>
ptr x_2 fun a_5 =>
stV h_4 (a_5.add 1) (.int .i64 x_3) fun h_6 =>
K (.tuple #[]) h_6) <|
K (.tuple #[]) h
def bits_Reader_group (C:CallP) (r:Option Addr) (h:Heap) (K:VK) (Kp:PK):Prop :=
C F_bits_Reader_Left #[.pointer r] h (fun v_1 h_2 =>
∃ (r_3:Int),v_1 = .int .i64 r_3/\(
bcase (decide (r_3<(8:Int))) (
K (.tuple #[.int .u8 0, .bool false]) h_2) <|
ptr r fun a_4 =>
ldI h_2 (a_4.add 1) .i64 fun x_5 =>
bindI (IntKind.i64.wrap (x_5+(8:Int))) fun z_6 =>
ptr r fun a_7 =>
stV h_2 (a_7.add 1) (.int .i64 z_6) fun h_8 =>
ptr r fun a_9 =>
ptr r fun a_10 =>
ldS h_8 (a_9.add 0) fun x_11 x_11n x_11c =>
ldI h_8 (a_10.add 1) .i64 fun x_12 =>
bindI (IntKind.i64.wrap (x_12-(8:Int))) fun z_13 =>
C F_bits_told_uint8 #[.slice x_11 x_11n x_11c, .int .i64 z_13, .int .i64 8] h_8 (fun v_14 h_15 =>
∃ (r_16:Int),v_14 = .int .u8 r_16/\(
K (.tuple #[.int .u8 r_16, .bool true]) h_15)) (Kp))) (Kp)
def bits_told_uint8 (C:CallP) (b:Option Addr) (bn:Nat) (bc:Nat) (atv:Int) (width:Int) (h:Heap) (K:VK) (Kp:PK):Prop :=
∃ J_1:Nat->List Value->Heap->Prop,(∃ n_3,J_1 n_3 [.int .u8 0, .int .i64 0] h)/\∀ (n_3:Nat) (h_4:Heap) (u_5:Nat->Value) (n_6:Int) (x_7:Int),J_1 n_3 [.int .u8 n_6, .int .i64 x_7] h_4->(
bcase (decide (x_7<width)) (
bindI (shlI .u8 n_6 (1:Int)) fun z_8 =>
bindI (IntKind.i64.wrap (atv+x_7)) fun z_9 =>
bindI (IntKind.i64.wrap (z_9.tdiv (8:Int))) fun z_10 =>
needs (0<=z_10/\z_10<(bn:Int)) <|
ptr b fun a_11 =>
ldI h_4 (a_11.add (z_10.toNat*1)) .u8 fun x_12 =>
bindI (IntKind.i64.wrap (atv+x_7)) fun z_13 =>
bindI (z_13.tmod (8:Int)) fun z_14 =>
bindI (IntKind.i64.wrap ((7:Int)-z_14)) fun z_15 =>
needs (0<=z_15) <|
bindI (shrI .u8 x_12 z_15) fun z_16 =>
bindI (bitI .and .u8 z_16 (1:Int)) fun z_17 =>
bindI (bitI .or .u8 z_8 z_17) fun z_18 =>
bindI (IntKind.i64.wrap (x_7+(1:Int))) fun z_19 =>
∃ m_2,m_2<n_3/\J_1 m_2 [.int .u8 z_18, .int .i64 z_19] h_4) <|
K (.int .u8 n_6) h_4)
end Go.Den.YtfaclehehhgpcaaGreat
namespace Go.Den.YtfaclehehhgpcaaGreat
open Go Go.Den
theorem call_bits_Reader_Left {r:Option Addr} {h:Heap} {K:VK} {Kp:PK} (H:bits_Reader_Left (CallsHP Go.Proofs.Tryz.prog) r h K Kp):CallsHP Go.Proofs.Tryz.prog F_bits_Reader_Left #[.pointer r] h K Kp :=
 callsHP_ofE (Hints.mk (fun i=>bif Nat.beq i 1 then some ([], .take 0 <| .take 1 <| .take 2 <| .take 6 <| .take 7 <| .take 8 <| .take 3 <| .take 4 <| .take 5 <| .take 9 <| .take 10 <| .take 11 <| .done) else (none)) (fun i=>none) (fun i=>none) []) (by kernel_rfl) Go.Proofs.Tryz.func71 (by kernel_rfl) (fun C=>bits_Reader_Left C r h K Kp) (fun C=>by kernel_rfl) H
theorem call_bits_NewWriter {most:Int} {h:Heap} {K:VK} {Kp:PK} (H:bits_NewWriter (CallsHP Go.Proofs.Tryz.prog) most h K Kp):CallsHP Go.Proofs.Tryz.prog F_bits_NewWriter #[.int .i64 most] h K Kp :=
 callsHP_ofE (Hints.mk (fun i=>none) (fun i=>none) (fun i=>none) []) (by kernel_rfl) Go.Proofs.Tryz.func84 (by kernel_rfl) (fun C=>bits_NewWriter C most h K Kp) (fun C=>by kernel_rfl) H
theorem call_bits_Writer_Put {w:Option Addr} {n:Int} {width:Int} {h:Heap} {K:VK} {Kp:PK} (H:bits_Writer_Put (CallsHP Go.Proofs.Tryz.prog) w n width h K Kp):CallsHP Go.Proofs.Tryz.prog F_bits_Writer_Put #[.pointer w, .int .u64 n, .int .i64 width] h K Kp :=
 callsHP_ofE (Hints.mk (fun i=>bif Nat.beq i 5 then some ([], .take 0 <| .take 1 <| .take 2 <| .take 4 <| .take 6 <| .take 7 <| .take 8 <| .take 3 <| .take 5 <| .take 9 <| .take 10 <| .take 11 <| .done) else (bif Nat.beq i 7 then some ([11,14], .take 0 <| .take 1 <| .take 2 <| .take 3 <| .take 5 <| .take 6 <| .take 7 <| .take 9 <| .take 10 <| .take 4 <| .take 8 <| .bar 11 [14] <| .take 12 <| .take 13 <| .bar 14 [] <| .done) else (none))) (fun i=>none) (fun i=>bif Nat.beq i 4 then some ([(14, .bool)],8372224) else (none)) []) (by kernel_rfl) Go.Proofs.Tryz.func86 (by kernel_rfl) (fun C=>bits_Writer_Put C w n width h K Kp) (fun C=>by kernel_rfl) H
theorem call_bits_Writer_Var {a0:Option Addr} {a1:Int} {h:Heap} {K:VK} {Kp:PK} (H:bits_Writer_Var (CallsHP Go.Proofs.Tryz.prog) a0 a1 h K Kp):CallsHP Go.Proofs.Tryz.prog F_bits_Writer_Var #[.pointer a0, .int .u64 a1] h K Kp :=
 callsHP_ofE (Hints.mk (fun i=>bif Nat.beq i 6 then some ([], .take 0 <| .take 1 <| .take 2 <| .take 4 <| .take 5 <| .take 7 <| .take 8 <| .take 9 <| .take 3 <| .take 6 <| .take 10 <| .take 11 <| .done) else (bif Nat.beq i 14 then some ([10,13], .take 0 <| .take 1 <| .take 2 <| .take 3 <| .take 5 <| .take 6 <| .take 7 <| .take 9 <| .take 4 <| .take 8 <| .bar 10 [13] <| .take 11 <| .take 12 <| .bar 13 [] <| .done) else (none))) (fun i=>bif Nat.beq i 3 then some ([(5, .int .i64),(6, .int .u64)],129120) else (bif Nat.beq i 9 then some ([(30, .int .i64)],73786976293764465024) else (none))) (fun i=>bif Nat.beq i 14 then some ([(8, .int .u8)],34634616275200) else (none)) []) (by kernel_rfl) Go.Proofs.Tryz.func87 (by kernel_rfl) (fun C=>bits_Writer_Var C a0 a1 h K Kp) (fun C=>by kernel_rfl) H
theorem call_bits_Writer_Bytes {w:Option Addr} {h:Heap} {K:VK} {Kp:PK} (H:bits_Writer_Bytes (CallsHP Go.Proofs.Tryz.prog) w h K Kp):CallsHP Go.Proofs.Tryz.prog F_bits_Writer_Bytes #[.pointer w] h K Kp :=
 callsHP_ofE (Hints.mk (fun i=>none) (fun i=>none) (fun i=>none) []) (by kernel_rfl) Go.Proofs.Tryz.func93 (by kernel_rfl) (fun C=>bits_Writer_Bytes C w h K Kp) (fun C=>by kernel_rfl) H
theorem call_bits_NewReader {b:Option Addr} {bn:Nat} {bc:Nat} {h:Heap} {K:VK} {Kp:PK} (H:bits_NewReader (CallsHP Go.Proofs.Tryz.prog) b bn bc h K Kp):CallsHP Go.Proofs.Tryz.prog F_bits_NewReader #[.slice b bn bc] h K Kp :=
 callsHP_ofE (Hints.mk (fun i=>none) (fun i=>none) (fun i=>none) []) (by kernel_rfl) Go.Proofs.Tryz.func107 (by kernel_rfl) (fun C=>bits_NewReader C b bn bc h K Kp) (fun C=>by kernel_rfl) H
theorem call_bits_Reader_Take {r:Option Addr} {width:Int} {h:Heap} {K:VK} {Kp:PK} (H:bits_Reader_Take (CallsHP Go.Proofs.Tryz.prog) r width h K Kp):CallsHP Go.Proofs.Tryz.prog F_bits_Reader_Take #[.pointer r, .int .i64 width] h K Kp :=
 callsHP_ofE (Hints.mk (fun i=>bif Nat.beq i 6 then some ([11], .take 0 <| .take 1 <| .take 2 <| .take 4 <| .take 5 <| .take 6 <| .take 8 <| .take 10 <| .take 3 <| .take 7 <| .take 9 <| .bar 11 [] <| .take 12 <| .take 13 <| .done) else (none)) (fun i=>none) (fun i=>none) []) (by kernel_rfl) Go.Proofs.Tryz.func108 (by kernel_rfl) (fun C=>bits_Reader_Take C r width h K Kp) (fun C=>by kernel_rfl) H
noncomputable def hints_bits_Reader_Var:Hints:=Hints.mk (fun i=>bif Nat.beq i 11 then some ([7], .take 1 <| .take 2 <| .take 3 <| .take 4 <| .take 5 <| .take 0 <| .take 6 <| .bar 7 [] <| .done) else (none))
 (fun i=>bif Nat.beq i 5 then some ([(5, .int .i64)],70368744169696) else (none))
 (fun i=>bif Nat.beq i 11 then some ([],68718428160) else (none)) []
theorem eq_bits_Reader_Var (C:CallP) (D:CallDP) (r:Option Addr) (h:Heap) (K:VK) (Kp:PK) :
  fnDD Go.Proofs.Tryz.prog C D hints_bits_Reader_Var Go.Proofs.Tryz.f109 [.pointer r] h K Kp=bits_Reader_Var C D r h K Kp:=by kernel_rfl
theorem call_bits_Reader_Var {r:Option Addr} {h:Heap} {K:VK} {Kp:PK} (H:bits_Reader_Var (CallsHP Go.Proofs.Tryz.prog) (DCalls Go.Proofs.Tryz.prog) r h K Kp):CallsHP Go.Proofs.Tryz.prog F_bits_Reader_Var #[.pointer r] h K Kp :=
 callsHP_ofD hints_bits_Reader_Var (by kernel_rfl) Go.Proofs.Tryz.func109 (by kernel_rfl) (by rw [eq_bits_Reader_Var]; exact H)
theorem call_bits_lay_uint64 {b:Option Addr} {bn:Nat} {bc:Nat} {atv:Int} {n:Int} {width:Int} {h:Heap} {K:VK} {Kp:PK} (H:bits_lay_uint64 (CallsHP Go.Proofs.Tryz.prog) b bn bc atv n width h K Kp):CallsHP Go.Proofs.Tryz.prog F_bits_lay_uint64 #[.slice b bn bc, .int .i64 atv, .int .u64 n, .int .i64 width] h K Kp :=
 callsHP_ofE (Hints.mk (fun i=>bif Nat.beq i 6 then some ([16], .take 0 <| .take 1 <| .take 2 <| .take 3 <| .take 5 <| .take 6 <| .take 7 <| .take 8 <| .take 9 <| .take 10 <| .take 11 <| .take 12 <| .take 13 <| .take 4 <| .take 14 <| .take 15 <| .bar 16 [] <| .done) else (none)) (fun i=>bif Nat.beq i 2 then some ([(0, .slc),(1, .int .i64),(9, .int .i64)],1099511624195) else (none)) (fun i=>bif Nat.beq i 6 then some ([(0, .slc)],4128769) else (none)) []) (by kernel_rfl) Go.Proofs.Tryz.func138 (by kernel_rfl) (fun C=>bits_lay_uint64 C b bn bc atv n width h K Kp) (fun C=>by kernel_rfl) H
theorem call_bits_lay_uint8 {b:Option Addr} {bn:Nat} {bc:Nat} {atv:Int} {n:Int} {width:Int} {h:Heap} {K:VK} {Kp:PK} (H:bits_lay_uint8 (CallsHP Go.Proofs.Tryz.prog) b bn bc atv n width h K Kp):CallsHP Go.Proofs.Tryz.prog F_bits_lay_uint8 #[.slice b bn bc, .int .i64 atv, .int .u8 n, .int .i64 width] h K Kp :=
 callsHP_ofE (Hints.mk (fun i=>bif Nat.beq i 6 then some ([15], .take 0 <| .take 1 <| .take 2 <| .take 3 <| .take 5 <| .take 6 <| .take 7 <| .take 8 <| .take 9 <| .take 10 <| .take 11 <| .take 12 <| .take 4 <| .take 13 <| .take 14 <| .bar 15 [] <| .done) else (none)) (fun i=>bif Nat.beq i 2 then some ([(0, .slc),(1, .int .i64),(9, .int .i64)],549755810307) else (none)) (fun i=>bif Nat.beq i 6 then some ([(0, .slc)],4128769) else (none)) []) (by kernel_rfl) Go.Proofs.Tryz.func139 (by kernel_rfl) (fun C=>bits_lay_uint8 C b bn bc atv n width h K Kp) (fun C=>by kernel_rfl) H
theorem call_bits_told_uint64 {b:Option Addr} {bn:Nat} {bc:Nat} {atv:Int} {width:Int} {h:Heap} {K:VK} {Kp:PK} (H:bits_told_uint64 (CallsHP Go.Proofs.Tryz.prog) b bn bc atv width h K Kp):CallsHP Go.Proofs.Tryz.prog F_bits_told_uint64 #[.slice b bn bc, .int .i64 atv, .int .i64 width] h K Kp :=
 callsHP_ofE (Hints.mk (fun i=>none) (fun i=>bif Nat.beq i 3 then some ([(7, .int .u64),(10, .int .i64)],4294966656) else (none)) (fun i=>none) []) (by kernel_rfl) Go.Proofs.Tryz.func159 (by kernel_rfl) (fun C=>bits_told_uint64 C b bn bc atv width h K Kp) (fun C=>by kernel_rfl) H
noncomputable def hints_bits_Reader_Var_c1:Hints:=Hints.mk (fun i=>none)
 (fun i=>none)
 (fun i=>none) []
theorem eq_bits_Reader_Var_c1 (C:CallP) (cap0:Addr) (cap1:Addr) (cap2:Addr) (cap3:Addr) (h:Heap) (K:VK) (Kp:PK) :
  fnD Go.Proofs.Tryz.prog C hints_bits_Reader_Var_c1 Go.Proofs.Tryz.f160 [.pointer (some cap0), .pointer (some cap1), .pointer (some cap2), .pointer (some cap3)] h K Kp=bits_Reader_Var_c1 C cap0 cap1 cap2 cap3 h K Kp:=by kernel_rfl
theorem call_bits_Reader_group {r:Option Addr} {h:Heap} {K:VK} {Kp:PK} (H:bits_Reader_group (CallsHP Go.Proofs.Tryz.prog) r h K Kp):CallsHP Go.Proofs.Tryz.prog F_bits_Reader_group #[.pointer r] h K Kp :=
 callsHP_ofE (Hints.mk (fun i=>bif Nat.beq i 4 then some ([9], .take 0 <| .take 1 <| .take 2 <| .take 4 <| .take 5 <| .take 6 <| .take 3 <| .take 7 <| .take 8 <| .bar 9 [] <| .take 10 <| .take 11 <| .done) else (none)) (fun i=>none) (fun i=>none) []) (by kernel_rfl) Go.Proofs.Tryz.func161 (by kernel_rfl) (fun C=>bits_Reader_group C r h K Kp) (fun C=>by kernel_rfl) H
theorem call_bits_told_uint8 {b:Option Addr} {bn:Nat} {bc:Nat} {atv:Int} {width:Int} {h:Heap} {K:VK} {Kp:PK} (H:bits_told_uint8 (CallsHP Go.Proofs.Tryz.prog) b bn bc atv width h K Kp):CallsHP Go.Proofs.Tryz.prog F_bits_told_uint8 #[.slice b bn bc, .int .i64 atv, .int .i64 width] h K Kp :=
 callsHP_ofE (Hints.mk (fun i=>none) (fun i=>bif Nat.beq i 3 then some ([(7, .int .u8),(10, .int .i64)],2147483008) else (none)) (fun i=>none) []) (by kernel_rfl) Go.Proofs.Tryz.func195 (by kernel_rfl) (fun C=>bits_told_uint8 C b bn bc atv width h K Kp) (fun C=>by kernel_rfl) H
end Go.Den.YtfaclehehhgpcaaGreat
namespace Go.Bm
open Go Go.Den Go.Den.YtfaclehehhgpcaaGreat
open Go.Ar (u8s u8s_length)
theorem take_snocG {α:Type} {l:List α} {i:Nat} {x:α} (h:l[i]? = some x):l.take (i+1)=l.take i++[x]:=by
 obtain ⟨hi,he⟩:=List.getElem?_eq_some_iff.1 h
 rw [List.take_succ_eq_append_getElem hi,he]
def grpF:Nat->Nat->List Nat
 | 0,n=>[n % 128]
 | f+1,n=>if n<128 then [n] else (n % 128+128)::grpF f (n / 128)
def grp (n:Nat):List Nat:=grpF 10 n
def preG (d n:Nat):List Nat:=(List.range d).map fun i=>n / 128 ^ i % 128+128
theorem grpF_eq:∀ (d f n:Nat),d<f->n / 128 ^ d<128->(∀ j,j<d->128<=n / 128 ^ j)->grpF f n=preG d n++[n / 128 ^ d]
 | 0,f+1,n,_,h,_=>by
  rw [Nat.pow_zero,Nat.div_one] at h ⊢
  show (if n<128 then [n] else _)=_
  rw [if_pos h]
  rfl
 | d+1,f+1,n,hf,h,hj=>by
  have h0:=hj 0 (by omega)
  rw [Nat.pow_zero,Nat.div_one] at h0
  have hd:∀ k,n / 128 / 128 ^ k=n / 128 ^ (k+1):=fun k=>by rw [Nat.div_div_eq_div_mul,Nat.pow_succ,Nat.mul_comm]
  have ih:=grpF_eq d f (n / 128) (by omega) (by rw [hd]; exact h) (fun j hjd=>by rw [hd]; exact hj (j+1) (by omega))
  show (if n<128 then [n] else (n % 128+128)::grpF f (n / 128))=_
  rw [if_neg (by omega),ih,hd]
  have e:preG (d+1) n=(n % 128+128)::preG d (n / 128):=by
   unfold preG
   rw [List.range_succ_eq_map,List.map_cons,List.map_map,Nat.pow_zero,Nat.div_one]
   congr 1
   refine List.map_congr_left fun i _=>?_
   show n / 128 ^ (i+1) % 128+128=_
   rw [hd]
  rw [e]
  rfl
theorem grpF_lt:∀ (f n:Nat),∀ x∈grpF f n,x<256
 | 0,n=>fun x hx=>by rw [List.mem_singleton.1 hx]; omega
 | f+1,n=>fun x hx=>by
  have hx:x∈(if n<128 then [n] else (n % 128+128)::grpF f (n / 128)):=hx
  split at hx
  ·rw [List.mem_singleton.1 hx]; omega
  ·rcases List.mem_cons.1 hx with rfl | hx
   ·omega
   ·exact grpF_lt f _ x hx
theorem grpF_len:∀ (f n:Nat),1<=(grpF f n).length/\(grpF f n).length<=f+1
 | 0,n=>⟨Nat.le_refl _,Nat.le_refl _⟩
 | f+1,n=>by
  show 1<=(if n<128 then [n] else (n % 128+128)::grpF f (n / 128)).length/\(if n<128 then [n] else (n % 128+128)::grpF f (n / 128)).length<=_
  have:=grpF_len f (n / 128)
  split
  ·exact ⟨Nat.le_refl _,by show 1<=_; omega⟩
  ·rw [List.length_cons]; omega
theorem grp_lt {n:Nat}:∀ x∈grp n,x<256:=grpF_lt 10 n
theorem grp_len (n:Nat):1<=(grp n).length/\(grp n).length<=11:=grpF_len 10 n
def bitsUp (x j:Nat):Nat:=x / 2 ^ (8-j)*2 ^ (8-j)
def upOk:Bool:=(List.range 256).all fun x=>(List.range 8).all fun j=>Nat.beq (bitsUp x j ||| (x / 2 ^ (7-j) % 2)*2 ^ (7-j)) (bitsUp x (j+1)) && Nat.blt (bitsUp x j) 256 && Nat.blt ((x / 2 ^ (7-j) % 2)*2 ^ (7-j)) 256
theorem upOk_t:upOk=true:=by kernel_rfl
theorem up_step {x j:Nat} (hx:x<256) (hj:j<8):bitsUp x j ||| (x / 2 ^ (7-j) % 2)*2 ^ (7-j)=bitsUp x (j+1)/\bitsUp x j<256/\(x / 2 ^ (7-j) % 2)*2 ^ (7-j)<256:=by
 have h:=List.all_eq_true.1 (List.all_eq_true.1 upOk_t x (List.mem_range.2 hx)) j (List.mem_range.2 hj)
 simp only [Bool.and_eq_true] at h
 exact ⟨Nat.eq_of_beq_eq_true h.1.1,Nat.le_of_ble_eq_true h.1.2,Nat.le_of_ble_eq_true h.2⟩
section
variable {h0 h:Heap} {F:List Nat} {A B D:List Ent}
theorem Slot.stV {t:TypeId} {n c i:Nat} {q:Option Addr} {xs:List Value} {v:Value} (hd:Slot t 1 D q n c xs) (H:Hp h0 F h (A++(D++B))) (hi:i<n) (hv:v.oneCell'=true) {K:Heap->Prop}
  (hk:∀ D' h',Slot t 1 D' q n c (xs.set i v)->Hp h0 F h' (A++(D'++B))->K h'):∃ b,q=some ⟨b,0,none⟩/\Go.Den.stV h ⟨b,i,none⟩ v K:=by
 obtain ⟨hl,⟨rfl,rfl,rfl,rfl⟩ | ⟨b,rest,rfl,rfl,hc⟩⟩:=hd
 ·omega
 ·refine ⟨b,rfl,?_⟩
  rw [Nat.mul_one] at hl
  have hlen:i<(xs++rest).length:=by rw [List.length_append]; omega
  have he:(xs++rest).set i v=xs.set i v++rest:=List.set_append_left _ _ (by omega)
  refine stV_hp (i:=i) H A.length (by rw [List.getElem?_append_right (Nat.le_refl _),Nat.sub_self]; rfl) hlen hv fun h' _ H'=>?_
  refine hk [⟨b,true,t,xs.set i v++rest⟩] h' ⟨by rw [List.length_set]; omega, .inr ⟨b,rest,rfl,rfl,by rw [List.length_append,List.length_set,<- List.length_append]; exact hc⟩⟩ (H'.as ?_)
  rw [List.set_append_right _ _ (Nat.le_refl _),Nat.sub_self,<- he]
  rfl
theorem u8s_snoc (l:List Nat) (x:Nat):u8s (l++[x])=u8s l++[.int .u8 (x:Nat)]:=by simp [u8s]
theorem u8s_last (l:List Nat) (x y:Nat):(u8s (l++[x])).set l.length (.int .u8 (y:Nat))=u8s (l++[y]):=by
 rw [u8s_snoc,u8s_snoc,List.set_append_right _ _ (by rw [u8s_length]; exact Nat.le_refl _),u8s_length,Nat.sub_self]
 rfl
end
section
variable {h0 h:Heap} {F:List Nat} {A B D:List Ent} {K:VK} {Kp:PK} {q:Option Addr} {c:Nat} {bs:List Nat} {x:Nat}
set_option maxHeartbeats 2000000 in
theorem lay8_ok (hsl:Slot T_uint8 1 D q bs.length c (u8s bs)) (H:Hp h0 F h (A++(D++B))) (hx:x<256) (hl:bs.length<=1000000000)
  (hk:∀ D' q' c' h',Slot T_uint8 1 D' q' (bs++[x]).length c' (u8s (bs++[x]))->Hp h0 F h' (A++(D'++B))->K (.slice q' (bs++[x]).length c') h') :
  CP F_bits_lay_uint8 #[.slice q bs.length c, .int .i64 ((8*bs.length:Nat):Int), .int .u8 (x:Nat), .int .i64 8] h K Kp:=by
 refine call_bits_lay_uint8 ?_
 unfold bits_lay_uint8
 refine bindI_of ((7:Int)) (by exact i64_in _ (by omega) (by omega)) ?_
 refine ⟨fun f vs h'=>∃ (j:Nat) (bb:List Nat) (D':List Ent) (q':Option Addr) (c':Nat),j+f=8/\bb=(if j=0 then bs else bs++[bitsUp x j])/\vs=[.slice q' bb.length c', .int .i64 ((8*bs.length+j:Nat):Int), .int .i64 (7-(j:Int))] /\
  Slot T_uint8 1 D' q' bb.length c' (u8s bb)/\Hp h0 F h' (A++(D'++B)),⟨8,0,bs,D,q,c,rfl,rfl,rfl,hsl,H⟩,?_⟩
 clear H hsl
 rintro f h u qa na ca ta ia ⟨j,bb,D,q,c,hjf,hbb,hxx,hsl,H⟩
 injection hxx with hx1 hxx
 injection hxx with hx2 hxx
 injection hxx with hx3 hxx
 injection hx1 with hx1 hx4 hx5
 injection hx2 with _ hx2
 injection hx3 with _ hx3
 subst qa na ca ta ia
 refine bcase_dec (fun h4=>?_) fun h4=>?_
 ·have hj:j<8:=by omega
  obtain ⟨u1,u2,u3⟩:=up_step hx hj
  refine ⟨fun vs h'=>∃ (D':List Ent) (q':Option Addr) (c':Nat),vs=[.slice q' (bs++[bitsUp x j]).length c']/\Slot T_uint8 1 D' q' (bs++[bitsUp x j]).length c' (u8s (bs++[bitsUp x j]))/\Hp h0 F h' (A++(D'++B)),?_,?_⟩
  ·refine bindI_of (((j:Nat):Int)) (by exact (tmod_nat (8*bs.length+j) 8).trans (by omega)) ?_
   refine bcase_eq (fun h5=>?_) fun h5=>?_
   ·have hj0:j=0:=by omega
    rw [if_pos hj0] at hbb
    subst hbb
    refine newC_hp H fun r h H=>?_
    have H:Hp h0 F h (A++(D++(B++[⟨r,true,T_uint8,[.int .u8 0]⟩]))):=H.as (by simp only [List.append_assoc])
    refine Slot.app (m:=1) (new:=[.int .u8 0]) hsl H rfl (Hp.rdO_mem (rest:=[]) (cs:=[.int .u8 0]) H (List.mem_append_right _ (List.mem_append_right _ (List.mem_append_right _ (List.mem_singleton.2 rfl)))) rfl) rfl (fun v hv=>by rw [List.mem_singleton.1 hv]; rfl) (by decide) (by omega) fun D' q' c' h' hsl' H'=>?_
    have e0:bitsUp x j=0:=by rw [hj0]; unfold bitsUp; rw [show 8-0=8 by rfl,Nat.div_eq_of_lt (by omega),Nat.zero_mul]
    rw [e0]
    refine ⟨D',q',c',?_,?_,?_⟩
    ·rw [List.length_append]; rfl
    ·rw [List.length_append,u8s_snoc]; exact hsl'
    ·have H2:Hp h0 F h' ((A++(D'++B))++[⟨r,true,T_uint8,[.int .u8 0]⟩]):=H'.as (by simp only [List.append_assoc])
     exact Hp.pre H2
   ·rw [if_neg (by omega)] at hbb
    subst hbb
    exact ⟨D,q,c,rfl,hsl,H⟩
  clear H hsl hbb bb
  rintro h u qa na ca ⟨D,q,c,hxx,hsl,H⟩
  injection hxx with hx1 hxx
  injection hx1 with hx1 hx4 hx5
  subst qa na ca
  have hlen:(bs++[bitsUp x j]).length=bs.length+1:=by rw [List.length_append]; rfl
  have hcell:(u8s (bs++[bitsUp x j]))[bs.length]? = some (.int .u8 (bitsUp x j:Nat)):=by
   rw [u8s_snoc,List.getElem?_append_right (by rw [u8s_length]; exact Nat.le_refl _),u8s_length,Nat.sub_self]
   rfl
  obtain ⟨b,hqb,hc⟩:=Slot.cell hsl H hcell
  subst hqb
  refine bindI_of (((bs.length:Nat):Int)) (by exact i64_at _ _ (by rw [show ((8*bs.length+j:Nat):Int).tdiv 8=(((8*bs.length+j) / 8:Nat):Int) from rfl]; omega) (by omega) (by omega)) ?_
  refine needs_of (by rw [hlen]; omega) (ptr_of (a:=⟨b,0,none⟩) ?_)
  rw [show (7-(j:Int))=((7-j:Nat):Int) by omega]
  refine needs_of (by omega) ?_
  refine bindI_of (((x / 2 ^ (7-j):Nat):Int)) (by exact shr_of (by show 7-j<=8; omega)) ?_
  have hxd:x / 2 ^ (7-j)<256:=Nat.lt_of_le_of_lt (Nat.div_le_self _ _) hx
  refine bindI_of (((x / 2 ^ (7-j) % 2:Nat):Int)) (by exact (and8 _ 1 hxd (by decide)).trans (by rw [Nat.and_one_is_mod])) ?_
  refine bindI_of (((j:Nat):Int)) (by exact (tmod_nat (8*bs.length+j) 8).trans (by omega)) ?_
  refine bindI_of (((7-j:Nat):Int)) (by exact i64_at _ _ (by omega) (by omega) (by omega)) ?_
  refine needs_of (by omega) ?_
  refine bindI_of ((((x / 2 ^ (7-j) % 2)*2 ^ (7-j):Nat):Int)) (by exact shl_of (by show 7-j<=8; omega) (wr8 _ (by omega) (by omega))) ?_
  rw [Int.toNat_natCast,Nat.mul_one]
  refine ldI_of (x:=((bitsUp x j:Nat):Int)) (by rw [add_mk,Nat.zero_add]; exact hc) ?_
  refine bindI_of (((bitsUp x (j+1):Nat):Int)) (by exact (or8 _ _ u2 u3).trans (by rw [u1])) ?_
  refine needs_of (by rw [hlen]; omega) (ptr_of (a:=⟨b,0,none⟩) ?_)
  rw [add_mk,Nat.zero_add]
  obtain ⟨b',hb',hst⟩:=Slot.stV (i:=bs.length) (v := .int .u8 ((bitsUp x (j+1):Nat):Int)) hsl H (by omega) rfl (K:=fun h_29=>bindI (IntKind.i64.wrap (((8*bs.length+j:Nat):Int)+1)) fun z_30=>bindI (IntKind.i64.wrap (((7-j:Nat):Int)-1)) fun z_31=>∃ m_3,m_3<f/\∃ (j:Nat) (bb:List Nat) (D':List Ent) (q':Option Addr) (c':Nat),j+m_3=8/\bb=(if j=0 then bs else bs++[bitsUp x j])/\[Value.slice (some ⟨b,0,none⟩) (bs++[bitsUp x j.pred]).length c,Value.int .i64 z_30,Value.int .i64 z_31]=[.slice q' bb.length c', .int .i64 ((8*bs.length+j:Nat):Int), .int .i64 (7-(j:Int))] /\
   Slot T_uint8 1 D' q' bb.length c' (u8s bb)/\Hp h0 F h_29 (A++(D'++B))) fun D' h' hsl' H'=>by
    refine bindI_of (((8*bs.length+(j+1):Nat):Int)) (by exact i64_at _ _ (by omega) (by omega) (by omega)) ?_
    refine bindI_of ((7-((j+1:Nat):Int))) (by exact i64_at _ _ (by omega) (by omega) (by omega)) ?_
    rw [u8s_last] at hsl'
    refine ⟨f-1,by omega,j+1,bs++[bitsUp x (j+1)],D',some ⟨b,0,none⟩,c,by omega,by rw [if_neg (by omega)],?_,?_,H'⟩
    ·rw [List.length_append,List.length_append]; rfl
    ·rw [List.length_append] at hsl' ⊢; exact hsl'
  injection hb' with hb'
  injection hb' with hb'
  subst hb'
  have e3:∀ k,(bs++[bitsUp x k]).length=bs.length+1:=fun k=>by rw [List.length_append]; rfl
  simp only [e3] at hst ⊢
  exact hst
 ·have hj:j=8:=by omega
  subst hj
  rw [if_neg (by decide)] at hbb
  have e8:bitsUp x 8=x:=by unfold bitsUp; simp
  rw [e8] at hbb
  subst hbb
  exact hk D q c h hsl H
end
end Go.Bm
namespace Go.Bm
open Go Go.Den Go.Den.YtfaclehehhgpcaaGreat
open Go.Ar (u8s u8s_length u8s_cells)
section
variable {h0 h:Heap} {F:List Nat} {A B D:List Ent} {K:VK} {Kp:PK} {q:Option Addr} {c:Nat} {bs:List Nat} {x:Nat}
set_option maxHeartbeats 2000000 in
theorem lay64_ok (hsl:Slot T_uint8 1 D q bs.length c (u8s bs)) (H:Hp h0 F h (A++(D++B))) (hx:x<256) (hl:bs.length<=1000000000)
  (hk:∀ D' q' c' h',Slot T_uint8 1 D' q' (bs++[x]).length c' (u8s (bs++[x]))->Hp h0 F h' (A++(D'++B))->K (.slice q' (bs++[x]).length c') h') :
  CP F_bits_lay_uint64 #[.slice q bs.length c, .int .i64 ((8*bs.length:Nat):Int), .int .u64 (x:Nat), .int .i64 8] h K Kp:=by
 refine call_bits_lay_uint64 ?_
 unfold bits_lay_uint64
 refine bindI_of ((7:Int)) (by exact i64_in _ (by omega) (by omega)) ?_
 refine ⟨fun f vs h'=>∃ (j:Nat) (bb:List Nat) (D':List Ent) (q':Option Addr) (c':Nat),j+f=8/\bb=(if j=0 then bs else bs++[bitsUp x j])/\vs=[.slice q' bb.length c', .int .i64 ((8*bs.length+j:Nat):Int), .int .i64 (7-(j:Int))] /\
  Slot T_uint8 1 D' q' bb.length c' (u8s bb)/\Hp h0 F h' (A++(D'++B)),⟨8,0,bs,D,q,c,rfl,rfl,rfl,hsl,H⟩,?_⟩
 clear H hsl
 rintro f h u qa na ca ta ia ⟨j,bb,D,q,c,hjf,hbb,hxx,hsl,H⟩
 injection hxx with hx1 hxx
 injection hxx with hx2 hxx
 injection hxx with hx3 hxx
 injection hx1 with hx1 hx4 hx5
 injection hx2 with _ hx2
 injection hx3 with _ hx3
 subst qa na ca ta ia
 refine bcase_dec (fun h4=>?_) fun h4=>?_
 ·have hj:j<8:=by omega
  obtain ⟨u1,u2,u3⟩:=up_step hx hj
  refine ⟨fun vs h'=>∃ (D':List Ent) (q':Option Addr) (c':Nat),vs=[.slice q' (bs++[bitsUp x j]).length c']/\Slot T_uint8 1 D' q' (bs++[bitsUp x j]).length c' (u8s (bs++[bitsUp x j]))/\Hp h0 F h' (A++(D'++B)),?_,?_⟩
  ·refine bindI_of (((j:Nat):Int)) (by exact (tmod_nat (8*bs.length+j) 8).trans (by omega)) ?_
   refine bcase_eq (fun h5=>?_) fun h5=>?_
   ·have hj0:j=0:=by omega
    rw [if_pos hj0] at hbb
    subst hbb
    refine newC_hp H fun r h H=>?_
    have H:Hp h0 F h (A++(D++(B++[⟨r,true,T_uint8,[.int .u8 0]⟩]))):=H.as (by simp only [List.append_assoc])
    refine Slot.app (m:=1) (new:=[.int .u8 0]) hsl H rfl (Hp.rdO_mem (rest:=[]) (cs:=[.int .u8 0]) H (List.mem_append_right _ (List.mem_append_right _ (List.mem_append_right _ (List.mem_singleton.2 rfl)))) rfl) rfl (fun v hv=>by rw [List.mem_singleton.1 hv]; rfl) (by decide) (by omega) fun D' q' c' h' hsl' H'=>?_
    have e0:bitsUp x j=0:=by rw [hj0]; unfold bitsUp; rw [show 8-0=8 by rfl,Nat.div_eq_of_lt (by omega),Nat.zero_mul]
    rw [e0]
    refine ⟨D',q',c',?_,?_,?_⟩
    ·rw [List.length_append]; rfl
    ·rw [List.length_append,u8s_snoc]; exact hsl'
    ·have H2:Hp h0 F h' ((A++(D'++B))++[⟨r,true,T_uint8,[.int .u8 0]⟩]):=H'.as (by simp only [List.append_assoc])
     exact Hp.pre H2
   ·rw [if_neg (by omega)] at hbb
    subst hbb
    exact ⟨D,q,c,rfl,hsl,H⟩
  clear H hsl hbb bb
  rintro h u qa na ca ⟨D,q,c,hxx,hsl,H⟩
  injection hxx with hx1 hxx
  injection hx1 with hx1 hx4 hx5
  subst qa na ca
  have hlen:(bs++[bitsUp x j]).length=bs.length+1:=by rw [List.length_append]; rfl
  have hcell:(u8s (bs++[bitsUp x j]))[bs.length]? = some (.int .u8 (bitsUp x j:Nat)):=by
   rw [u8s_snoc,List.getElem?_append_right (by rw [u8s_length]; exact Nat.le_refl _),u8s_length,Nat.sub_self]
   rfl
  obtain ⟨b,hqb,hc⟩:=Slot.cell hsl H hcell
  subst hqb
  refine bindI_of (((bs.length:Nat):Int)) (by exact i64_at _ _ (by rw [show ((8*bs.length+j:Nat):Int).tdiv 8=(((8*bs.length+j) / 8:Nat):Int) from rfl]; omega) (by omega) (by omega)) ?_
  refine needs_of (by rw [hlen]; omega) (ptr_of (a:=⟨b,0,none⟩) ?_)
  rw [show (7-(j:Int))=((7-j:Nat):Int) by omega]
  refine needs_of (by omega) ?_
  refine bindI_of (((x / 2 ^ (7-j):Nat):Int)) (by exact shr_of (by show 7-j<=64; omega)) ?_
  have hxd:x / 2 ^ (7-j)<256:=Nat.lt_of_le_of_lt (Nat.div_le_self _ _) hx
  refine bindI_of (((x / 2 ^ (7-j) % 2:Nat):Int)) (by exact (and64 _ 1 (by omega) (by decide)).trans (by rw [Nat.and_one_is_mod])) ?_
  refine bindI_of (((x / 2 ^ (7-j) % 2:Nat):Int)) (by exact wr8 _ (by omega) (by omega)) ?_
  refine bindI_of (((j:Nat):Int)) (by exact (tmod_nat (8*bs.length+j) 8).trans (by omega)) ?_
  refine bindI_of (((7-j:Nat):Int)) (by exact i64_at _ _ (by omega) (by omega) (by omega)) ?_
  refine needs_of (by omega) ?_
  refine bindI_of ((((x / 2 ^ (7-j) % 2)*2 ^ (7-j):Nat):Int)) (by exact shl_of (by show 7-j<=8; omega) (wr8 _ (by omega) (by omega))) ?_
  rw [Int.toNat_natCast,Nat.mul_one]
  refine ldI_of (x:=((bitsUp x j:Nat):Int)) (by rw [add_mk,Nat.zero_add]; exact hc) ?_
  refine bindI_of (((bitsUp x (j+1):Nat):Int)) (by exact (or8 _ _ u2 u3).trans (by rw [u1])) ?_
  refine needs_of (by rw [hlen]; omega) (ptr_of (a:=⟨b,0,none⟩) ?_)
  rw [add_mk,Nat.zero_add]
  obtain ⟨b',hb',hst⟩:=Slot.stV (i:=bs.length) (v := .int .u8 ((bitsUp x (j+1):Nat):Int)) hsl H (by omega) rfl (K:=fun h_29=>bindI (IntKind.i64.wrap (((8*bs.length+j:Nat):Int)+1)) fun z_30=>bindI (IntKind.i64.wrap (((7-j:Nat):Int)-1)) fun z_31=>∃ m_3,m_3<f/\∃ (j:Nat) (bb:List Nat) (D':List Ent) (q':Option Addr) (c':Nat),j+m_3=8/\bb=(if j=0 then bs else bs++[bitsUp x j])/\[Value.slice (some ⟨b,0,none⟩) (bs++[bitsUp x j.pred]).length c,Value.int .i64 z_30,Value.int .i64 z_31]=[.slice q' bb.length c', .int .i64 ((8*bs.length+j:Nat):Int), .int .i64 (7-(j:Int))] /\
   Slot T_uint8 1 D' q' bb.length c' (u8s bb)/\Hp h0 F h_29 (A++(D'++B))) fun D' h' hsl' H'=>by
    refine bindI_of (((8*bs.length+(j+1):Nat):Int)) (by exact i64_at _ _ (by omega) (by omega) (by omega)) ?_
    refine bindI_of ((7-((j+1:Nat):Int))) (by exact i64_at _ _ (by omega) (by omega) (by omega)) ?_
    rw [u8s_last] at hsl'
    refine ⟨f-1,by omega,j+1,bs++[bitsUp x (j+1)],D',some ⟨b,0,none⟩,c,by omega,by rw [if_neg (by omega)],?_,?_,H'⟩
    ·rw [List.length_append,List.length_append]; rfl
    ·rw [List.length_append] at hsl' ⊢; exact hsl'
  injection hb' with hb'
  injection hb' with hb'
  subst hb'
  have e3:∀ k,(bs++[bitsUp x k]).length=bs.length+1:=fun k=>by rw [List.length_append]; rfl
  simp only [e3] at hst ⊢
  exact hst
 ·have hj:j=8:=by omega
  subst hj
  rw [if_neg (by decide)] at hbb
  have e8:bitsUp x 8=x:=by unfold bitsUp; simp
  rw [e8] at hbb
  subst hbb
  exact hk D q c h hsl H
end
def wrE (w:Nat) (q:Option Addr) (c:Nat) (bs:List Nat):Ent:=⟨w,true,T_bits_Writer,[.slice q bs.length c, .int .i64 ((8*bs.length:Nat):Int), .int .i64 536870912]⟩
def WrL (w:Nat) (bs:List Nat) (L:List Ent):Prop:=∃ q c D,Slot T_uint8 1 D q bs.length c (u8s bs)/\L=wrE w q c bs::D
theorem WrL.w {w:Nat} {bs:List Nat} {L:List Ent} (h:WrL w bs L):L.all Ent.w=true:=by
 obtain ⟨q,c,D,hs,rfl⟩:=h
 rw [List.all_cons,hs.w]
 rfl
section
variable {h0 h:Heap} {F:List Nat} {L:List Ent} {K:VK} {Kp:PK} {w:Nat} {bs:List Nat} {x:Nat}
theorem newWriter_ok (hk:∀ w h',Hp h [] h' [wrE w none 0 []]->K (.tuple #[.pointer (some ⟨w,0,none⟩), .int .i64 0]) h'):CP F_bits_NewWriter #[.int .i64 67108864] h K Kp:=by
 refine call_bits_NewWriter ?_
 unfold bits_NewWriter
 refine bcase_dec (fun h1=>absurd h1 (by decide)) fun _=>?_
 refine bcase_dec (fun h1=>absurd h1 (by decide)) fun _=>?_
 refine bindI_of ((536870912:Int)) (by exact i64_at _ _ (by decide) (by decide) (by decide)) ?_
 exact newC_hp (Hp.nil h []) fun r h H=>hk r h H
set_option maxHeartbeats 2000000 in
theorem put8_ok (H:Hp h0 F h L) (hw:WrL w bs L) (hx:x<256) (hl:bs.length<=60000000) (hk:∀ L' h',WrL w (bs++[x]) L'->Hp h0 F h' L'->K (.int .i64 0) h') :
  CP F_bits_Writer_Put #[.pointer (some ⟨w,0,none⟩), .int .u64 (x:Nat), .int .i64 8] h K Kp:=by
 obtain ⟨q,c,D,hs,rfl⟩:=hw
 refine call_bits_Writer_Put ?_
 unfold bits_Writer_Put
 refine bcase_dec (fun h1=>absurd h1 (by decide)) fun _=>?_
 refine bcase_dec (fun h1=>absurd h1 (by decide)) fun _=>?_
 refine ⟨fun vs h'=>vs=[.bool false]/\h'=h,?_,?_⟩
 ·refine bcase_dec (fun _=>?_) fun h1=>absurd (by decide) h1
  refine needs_of (by decide) ?_
  refine bindI_of (((x / 2 ^ 8:Nat):Int)) (by exact shr_of (i:=8) (by decide)) ?_
  rw [Nat.div_eq_of_lt (by omega)]
  exact ⟨rfl,rfl⟩
 rintro h' u b ⟨hb,rfl⟩
 injection hb with hb _
 injection hb with hb
 subst hb
 refine bcase_false (by rfl) ?_
 refine ptr_of (a:=⟨w,0,none⟩) (ptr_of (a:=⟨w,0,none⟩) ?_)
 refine ldI_of (hpA H 0 rfl rfl) ?_
 refine bindI_of (((8*bs.length+8:Nat):Int)) (by exact i64_at _ _ (by omega) (by omega) (by omega)) ?_
 refine ldI_of (hpA H 0 rfl rfl) ?_
 refine bcase_dec (fun h1=>absurd h1 (by omega)) fun _=>?_
 refine ptr_of (a:=⟨w,0,none⟩) (ptr_of (a:=⟨w,0,none⟩) ?_)
 refine ldS_of (hpA H 0 rfl rfl) (ldI_of (hpA H 0 rfl rfl) ?_)
 have H1:Hp h0 F h' ([wrE w q c bs]++(D++[])):=H.as (by simp)
 refine lay64_ok hs H1 hx (by omega) fun D' q' c' h hs' H=>?_
 refine ⟨_,_,_,rfl,?_⟩
 refine ptr_of (a:=⟨w,0,none⟩) ?_
 refine stA H 0 rfl rfl rfl fun h H=>?_
 refine ptr_of (a:=⟨w,0,none⟩) ?_
 refine ldI_of (hpA H 0 rfl rfl) ?_
 refine bindI_of (((8*(bs++[x]).length:Nat):Int)) (by exact i64_at _ _ (by have:(bs++[x]).length=bs.length+1:=List.length_append; omega) (by omega) (by have:(bs++[x]).length=bs.length+1:=List.length_append; omega)) ?_
 refine ptr_of (a:=⟨w,0,none⟩) ?_
 refine stA H 0 rfl rfl rfl fun h H=>?_
 have H:Hp h0 F h (wrE w q' c' (bs++[x])::(D'++[])):=H
 rw [List.append_nil] at H
 exact hk _ h ⟨q',c',D',hs',rfl⟩ H
theorem pow7 (i:Nat):(2:Nat) ^ (7*i)=128 ^ i:=by rw [Nat.pow_mul]
theorem or128:((List.range 128).all fun y=>Nat.beq (y ||| 128) (y+128))=true:=by decide +kernel
set_option maxHeartbeats 4000000 in
theorem var_ok {n:Nat} (H:Hp h0 F h L) (hw:WrL w bs L) (hn:n<18446744073709551616) (hl:bs.length<=60000000) (hk:∀ L' h',WrL w (bs++grp n) L'->Hp h0 F h' L'->K (.int .i64 0) h') :
  CP F_bits_Writer_Var #[.pointer (some ⟨w,0,none⟩), .int .u64 (n:Nat)] h K Kp:=by
 refine call_bits_Writer_Var ?_
 unfold bits_Writer_Var
 have hd:∀ k,n / 128 ^ k / 128=n / 128 ^ (k+1):=fun k=>by rw [Nat.div_div_eq_div_mul,Nat.pow_succ]
 refine bindI_of (((n / 128 ^ 1:Nat):Int)) (by exact shr_of (i:=7) (by decide)) ?_
 refine ⟨fun m vs h'=>∃ k:Nat,1<=k/\m=n / 128 ^ k/\vs=[.int .i64 (k:Nat), .int .u64 ((n / 128 ^ k:Nat):Int)]/\(∀ j,j+1<k->128<=n / 128 ^ j)/\h'=h,⟨n / 128 ^ 1,1,Nat.le_refl _,rfl,rfl,fun j hj=>by omega,rfl⟩,?_⟩
 rintro m h' u xa xb ⟨k,hk1,hm,hxx,hge,rfl⟩
 injection hxx with hx1 hxx
 injection hxx with hx2 hxx
 injection hx1 with _ hx1
 injection hx2 with _ hx2
 subst xa xb
 have hk11:k<=11:=by
  refine Decidable.byContradiction fun hh=>?_
  have h1:=hge 10 (by omega)
  have h2:n / 128 ^ 10=0:=Nat.div_eq_of_lt (Nat.lt_trans hn (by decide))
  omega
 refine bcase_dec (fun h1=>?_) fun h1=>?_
 ·refine bindI_of (((k+1:Nat):Int)) (by exact i64_at _ _ (by omega) (by omega) (by omega)) ?_
  refine bindI_of (((n / 128 ^ (k+1):Nat):Int)) (by exact (shr_of (i:=7) (by decide)).trans (by rw [<- hd])) ?_
  have h1:0<n / 128 ^ k:=by omega
  refine ⟨n / 128 ^ (k+1),?_,k+1,by omega,rfl,rfl,fun j hj=>?_,rfl⟩
  ·rw [hm,<- hd]
   exact Nat.div_lt_self h1 (by decide)
  ·by_cases hjk:j+1<k
   ·exact hge j hjk
   ·have:j+1=k:=by omega
    rw [<- this,<- hd] at h1
    have:=(Nat.div_pos_iff.1 h1).2
    omega
 have hk10:n / 128 ^ k=0:=by omega
 have hlast:n / 128 ^ (k-1)<128:=by
  have e:=hd (k-1)
  rw [show k-1+1=k by omega,hk10] at e
  rcases Nat.div_eq_zero_iff.1 e with e | e
  ·cases e
  ·exact e
 have hk10':k<=10:=by
  refine Decidable.byContradiction fun hh=>?_
  have h1:=hge 9 (by omega)
  have h2:n / 128 ^ 9<128:=(Nat.div_lt_iff_lt_mul (by decide)).2 (Nat.lt_trans hn (by decide))
  omega
 have hgrp:=grpF_eq (k-1) 10 n (by omega) hlast (fun j hj=>hge j (by omega))
 have hgl:(grp n).length=k:=by
  unfold grp
  rw [hgrp,List.length_append,List.length_singleton]
  unfold preG
  rw [List.length_map,List.length_range]
  omega
 have hgi:∀ i,i<k->(grp n)[i]? = some (if i+1<k then n / 128 ^ i % 128+128 else n / 128 ^ i):=fun i hi=>by
  unfold grp
  rw [hgrp]
  have hpl:(preG (k-1) n).length=k-1:=by unfold preG; rw [List.length_map,List.length_range]
  by_cases h2:i+1<k
  ·rw [List.getElem?_append_left (by omega),if_pos h2]
   unfold preG
   rw [List.getElem?_map,List.getElem?_range (by omega)]
   rfl
  ·rw [List.getElem?_append_right (by omega),if_neg h2,hpl,show i-(k-1)=0 by omega,show k-1=i by omega]
   rfl
 obtain ⟨q,c,D,hs,rfl⟩:=hw
 refine ptr_of (a:=⟨w,0,none⟩) ?_
 refine bindI_of (((8*k:Nat):Int)) (by exact i64_at _ _ (by omega) (by omega) (by omega)) ?_
 refine ptr_of (a:=⟨w,0,none⟩) ?_
 refine ldI_of (hpA H 0 rfl rfl) ?_
 refine bindI_of (((8*bs.length+8*k:Nat):Int)) (by exact i64_at _ _ (by omega) (by omega) (by omega)) ?_
 refine ldI_of (hpA H 0 rfl rfl) ?_
 refine bcase_dec (fun h1=>absurd h1 (by omega)) fun _=>?_
 refine ⟨fun m vs h'=>∃ (i:Nat) (L':List Ent),i+m=k/\vs=[.int .i64 (i:Nat)]/\WrL w (bs++(grp n).take i) L'/\Hp h0 F h' L',⟨k,0,_,by omega,rfl,⟨q,c,D,by rw [List.take_zero,List.append_nil]; exact hs,by rw [List.take_zero,List.append_nil]⟩,H⟩,?_⟩
 clear H hs
 rintro m h u xa ⟨i,L',him,hxx,⟨q,c,D,hs,rfl⟩,H⟩
 injection hxx with hx1 hxx
 injection hx1 with _ hx1
 subst xa
 have htl:(bs++(grp n).take i).length<=bs.length+k:=by rw [List.length_append,List.length_take]; omega
 refine bcase_dec (fun h1=>?_) fun h1=>?_
 ·have hi:i<k:=by omega
  refine bindI_of (((7*i:Nat):Int)) (by exact i64_at _ _ (by omega) (by omega) (by omega)) ?_
  refine needs_of (by omega) ?_
  refine bindI_of (((n / 128 ^ i:Nat):Int)) (by exact (shr_of (by show 7*i<=64; omega)).trans (by rw [pow7])) ?_
  refine bindI_of (((n / 128 ^ i % 256:Nat):Int)) (by rw [IntKind.wrap_u8]; omega) ?_
  refine bindI_of (((n / 128 ^ i % 128:Nat):Int)) (by exact (and8 _ 127 (by omega) (by decide)).trans (by have:=Nat.and_two_pow_sub_one_eq_mod (n / 128 ^ i % 256) 7; rw [show (127:Nat)=2 ^ 7-1 from rfl,this]; omega)) ?_
  obtain ⟨y,hy⟩:∃ y,y=(if i+1<k then n / 128 ^ i % 128+128 else n / 128 ^ i):=⟨_,rfl⟩
  have hgy:=hgi i hi
  rw [<- hy] at hgy
  have hy256:y<256:=grp_lt y (List.mem_of_getElem? hgy)
  refine ⟨fun vs h2=>vs=[.int .u8 (y:Nat)]/\h2=h,?_,?_⟩
  ·refine bindI_of (((k-1:Nat):Int)) (by exact i64_at _ _ (by omega) (by omega) (by omega)) ?_
   refine bcase_dec (fun h2=>?_) fun h2=>?_
   ·rw [if_pos (by omega)] at hy
    refine bindI_of (((y:Nat):Int)) (by exact (or8 _ 128 (by omega) (by decide)).trans (by rw [hy,Nat.eq_of_beq_eq_true (List.all_eq_true.1 or128 (n / 128 ^ i % 128) (List.mem_range.2 (Nat.mod_lt _ (by decide))))])) ?_
    exact ⟨rfl,rfl⟩
   ·rw [if_neg (by omega)] at hy
    have:i=k-1:=by omega
    rw [this] at hy ⊢
    rw [Nat.mod_eq_of_lt hlast,<- hy]
    exact ⟨rfl,rfl⟩
  rintro h2 u xa ⟨hxx,rfl⟩
  injection hxx with hx1 hxx
  injection hx1 with _ hx1
  subst xa
  refine ptr_of (a:=⟨w,0,none⟩) (ptr_of (a:=⟨w,0,none⟩) ?_)
  refine ldS_of (hpA H 0 rfl rfl) (ldI_of (hpA H 0 rfl rfl) ?_)
  have H1:Hp h0 F h2 ([wrE w q c (bs++(grp n).take i)]++(D++[])):=H.as (by simp)
  refine lay8_ok hs H1 hy256 (by omega) fun D' q' c' h hs' H=>?_
  have hnx:bs++(grp n).take i++[y]=bs++(grp n).take (i+1):=by rw [List.append_assoc,<- take_snocG hgy]
  rw [hnx] at hs' ⊢
  have hln:(bs++(grp n).take (i+1)).length=(bs++(grp n).take i).length+1:=by rw [<- hnx,List.length_append]; rfl
  refine ⟨_,_,_,rfl,?_⟩
  refine ptr_of (a:=⟨w,0,none⟩) ?_
  refine stA H 0 rfl rfl rfl fun h H=>?_
  refine ptr_of (a:=⟨w,0,none⟩) ?_
  refine ldI_of (hpA H 0 rfl rfl) ?_
  refine bindI_of (((8*(bs++(grp n).take (i+1)).length:Nat):Int)) (by exact i64_at _ _ (by rw [hln] <;> omega) (by omega) (by rw [hln] <;> omega)) ?_
  refine ptr_of (a:=⟨w,0,none⟩) ?_
  refine stA H 0 rfl rfl rfl fun h H=>?_
  have H:Hp h0 F h (wrE w q' c' (bs++(grp n).take (i+1))::(D'++[])):=H
  rw [List.append_nil] at H
  refine bindI_of (((i+1:Nat):Int)) (by exact i64_at _ _ (by omega) (by omega) (by omega)) ?_
  exact ⟨m-1,by omega,i+1,_,by omega,rfl,⟨q',c',D',hs',rfl⟩,H⟩
 ·rw [List.take_of_length_le (by omega)] at hs H
  exact hk _ h ⟨q,c,D,hs,rfl⟩ H
theorem bytes_ok (H:Hp h0 F h L) (hw:WrL w bs L) (hl:bs.length<=100000000) (hk:∀ D qo co h',Slot T_uint8 1 D qo bs.length co (u8s bs)->Hp h0 F h' (L++D)->K (.slice qo bs.length co) h') :
  CP F_bits_Writer_Bytes #[.pointer (some ⟨w,0,none⟩)] h K Kp:=by
 obtain ⟨q,c,D,hs,rfl⟩:=hw
 refine call_bits_Writer_Bytes ?_
 unfold bits_Writer_Bytes
 refine ptr_of (a:=⟨w,0,none⟩) ?_
 refine ldS_of (hpA H 0 rfl rfl) ?_
 have hr:rdO h q (bs.length*1) (u8s bs):=Slot.rdO' hs H fun e he=>List.mem_cons_of_mem _ he
 rcases Nat.eq_zero_or_pos bs.length with h1 | h1
 ·have hb0:bs=[]:=List.length_eq_zero_iff.1 h1
  subst hb0
  refine ⟨u8s [],hr,?_⟩
  rw [if_pos (by simp)]
  exact hk [] none 0 h (Slot.nil _ _) (by rw [List.append_nil]; exact H)
 ·refine Slot.app (A:=wrE w q c bs::D) (B:=[]) (D:=[]) (n:=0) (m:=bs.length) (new:=u8s bs) (Slot.nil T_uint8 1) (by simpa using H) rfl hr (by rw [u8s_length,Nat.mul_one]) (u8s_cells bs) h1 (by omega) fun D' q' c' h' hs' H'=>?_
  rw [Nat.zero_add] at hs' ⊢
  exact hk D' q' c' h' (by simpa using hs') (by simpa using H')
end
end Go.Bm
namespace Go.Den
section
variable {P:Program}
theorem dcalls_of_plain {f:FuncId} {fn:Func} {args:List Value} {u:FrameMode} {h:Heap} {Kd:FrameMode->Heap->Prop} {Kdp:FrameMode->PK} (Hn:Hints) (hm:P.follows .mixedOrders=true)
  (hf:P.funcs[f]? = some fn) (hn:(fn.name == "runtime.NumGoroutine")=false) (H:fnD P (CallsHP P) Hn fn args h (fun _ h'=>Kd u h') fun c h'=>Kdp u c h'):DCalls P f args.toArray u h Kd Kdp:=by
 unfold fnD at H
 split at H
 ·rename_i c hb
  refine ⟨⟨fn,hf,hn,by rw [hb]; rfl⟩,fun w hw=>?_⟩
  subst hw
  have hact:(⟨args.toArray++Array.replicate (fn.ntmps-args.toArray.size) undef,[]⟩:Act)=⟨(args++List.replicate (fn.ntmps-args.length) undef).toArray,[]⟩:=by
   congr 1
   apply Array.toList_inj.1
   simp
  refine (callsD_of_wp (R:=fun e w'=>keeps w w'/\match e with
   | .returned _=>Kd u w'.heap
   | .panicked c=>Kdp u c w'.heap
   | .outgrown=>False) hf hb ?_).mono fun e u' w' he=>?_
  ·rw [hact]
   refine wp_mono (den_sound (callsHP_ok P) hm w c _ _ w (keeps.refl w) (fnQ_panic _ _ _ _) H) fun e a w' he=>?_
   cases e with
   | normal =>
    obtain ⟨h1,_,h3⟩:=he
    simp only [fnQ] at h3
    split at h3
    ·rename_i hd
     obtain ⟨v,hr,hk⟩:=results_run (K:=fun _ h'=>Kd u h') h3
     exact ⟨hd,v,hr,h1,hk⟩
    ·exact h3.elim
   | ret =>
    obtain ⟨h1,_,h3⟩:=he
    simp only [fnQ] at h3
    split at h3
    ·rename_i hd
     obtain ⟨v,hr,hk⟩:=results_run (K:=fun _ h'=>Kd u h') h3
     exact ⟨hd,v,hr,h1,hk⟩
    ·exact h3.elim
   | panic c =>
    obtain ⟨h1,h3⟩:=he
    simp only [fnQ] at h3
    split at h3
    ·rename_i hd
     exact ⟨hd,h1,h3⟩
    ·exact h3.elim
   | outgrown=>exact he.elim
   | exit id=>exact he.2.2.elim
   | goto l=>exact he.2.2.elim
  ·obtain ⟨rfl,h1,h2⟩:=he
   refine ⟨h1,?_⟩
   cases e with
   | returned v=>exact h2
   | panicked c=>exact h2
   | outgrown=>exact h2
 ·exact H.elim
end
end Go.Den
namespace Go.Bm
open Go Go.Den Go.Den.YtfaclehehhgpcaaGreat
open Go.Ar (u8s)
def varF (b:List Nat) (i:Nat):Nat->Nat->Nat->Int × Nat × Nat
 | 0,_,_=>(16,0,i)
 | f+1,j,n=>match b[i+j]? with
  | none=>(14,0,i)
  | some c=>if j=9/\1<c\/0<j/\c=0 then (16,0,i) else if c<128 then (0,n+c % 128*128 ^ j,i+j+1) else varF b i f (j+1) (n+c % 128*128 ^ j)
def varP (b:List Nat) (i:Nat):Int × Nat × Nat:=varF b i 10 0 0
theorem varF_le {b:List Nat} {i:Nat} (hi:i<=b.length):∀ (f j n:Nat),(varF b i f j n).2.2<=b.length/\i<=(varF b i f j n).2.2
 | 0,j,n=>⟨hi,Nat.le_refl _⟩
 | f+1,j,n=>by
  unfold varF
  cases hc:b[i+j]? with
  | none=>exact ⟨hi,Nat.le_refl _⟩
  | some c =>
   have hl:=(List.getElem?_eq_some_iff.1 hc).1
   dsimp only
   split
   ·exact ⟨hi,Nat.le_refl _⟩
   ·split
    ·exact ⟨hl,by show i<=i+j+1; omega⟩
    ·exact varF_le hi f _ _
theorem varP_le {b:List Nat} {i:Nat} (hi:i<=b.length):(varP b i).2.2<=b.length:=(varF_le hi 10 0 0).1
def dnOk:Bool:=(List.range 256).all fun x=>(List.range 8).all fun j=>Nat.beq (x / 2 ^ (8-j)*2 ||| x / 2 ^ (7-j) % 2) (x / 2 ^ (8-(j+1))) && Nat.beq (x / 2 ^ (8-j)*2+x / 2 ^ (7-j) % 2) (x / 2 ^ (8-(j+1)))
theorem dnOk_t:dnOk=true:=by kernel_rfl
theorem dn_step {x j:Nat} (hx:x<256) (hj:j<8):(x / 2 ^ (8-j)*2 ||| x / 2 ^ (7-j) % 2)=x / 2 ^ (8-(j+1))/\x / 2 ^ (8-j)*2+x / 2 ^ (7-j) % 2=x / 2 ^ (8-(j+1))/\x / 2 ^ (8-j)*2<256:=by
 have h:=List.all_eq_true.1 (List.all_eq_true.1 dnOk_t x (List.mem_range.2 hx)) j (List.mem_range.2 hj)
 simp only [Bool.and_eq_true] at h
 have e:=Nat.eq_of_beq_eq_true h.2
 have h3:x / 2 ^ (8-(j+1))<256:=Nat.lt_of_le_of_lt (Nat.div_le_self _ _) hx
 exact ⟨Nat.eq_of_beq_eq_true h.1,e,by omega⟩
section
variable {h0 h:Heap} {F:List Nat} {K:VK} {Kp:PK} {q:Option Addr} {c i x:Nat} {b:List Nat}
theorem told8_ok (hr:rdO h q (b.length*1) (u8s b)) (hb:b[i]? = some x) (hx:x<256) (hl:b.length<=140737488351299) (hk:K (.int .u8 (x:Nat)) h) :
  CP F_bits_told_uint8 #[.slice q b.length c, .int .i64 ((8*i:Nat):Int), .int .i64 8] h K Kp:=by
 refine call_bits_told_uint8 ?_
 unfold bits_told_uint8
 have hil:=(List.getElem?_eq_some_iff.1 hb).1
 obtain ⟨a,rfl,hc⟩:=rdO_cell hr (i:=i) (v := .int .u8 (x:Nat)) (by unfold u8s; rw [List.getElem?_map,hb]; rfl)
 refine ⟨fun f vs h'=>∃ j:Nat,j+f=8/\vs=[.int .u8 ((x / 2 ^ (8-j):Nat):Int), .int .i64 (j:Nat)]/\h'=h,⟨8,0,rfl,by rw [Nat.sub_zero,Nat.div_eq_of_lt (show x<2 ^ 8 by omega)]; rfl,rfl⟩,?_⟩
 rintro f h' u xa xb ⟨j,hjf,hxx,rfl⟩
 injection hxx with hx1 hxx
 injection hxx with hx2 hxx
 injection hx1 with _ hx1
 injection hx2 with _ hx2
 subst xa xb
 refine bcase_dec (fun h1=>?_) fun h1=>?_
 ·have hj:j<8:=by omega
  obtain ⟨d1,d2,d3⟩:=dn_step hx hj
  have hb2:x / 2 ^ (7-j) % 2<256:=by omega
  have hxd:x / 2 ^ (7-j)<256:=Nat.lt_of_le_of_lt (Nat.div_le_self _ _) hx
  refine bindI_of (((x / 2 ^ (8-j)*2:Nat):Int)) (by exact shl_of (i:=1) (by decide) (by rw [Nat.pow_one]; exact wr8 _ (by omega) (by omega))) ?_
  refine bindI_of (((8*i+j:Nat):Int)) (by exact i64_at _ _ (by omega) (by omega) (by omega)) ?_
  refine bindI_of (((i:Nat):Int)) (by exact i64_at _ _ (by rw [show ((8*i+j:Nat):Int).tdiv 8=(((8*i+j) / 8:Nat):Int) from rfl]; omega) (by omega) (by omega)) ?_
  refine needs_of (by omega) (ptr_of (a:=a) ?_)
  rw [Int.toNat_natCast,Nat.mul_one]
  refine ldI_of hc ?_
  refine bindI_of (((8*i+j:Nat):Int)) (by exact i64_at _ _ (by omega) (by omega) (by omega)) ?_
  refine bindI_of (((j:Nat):Int)) (by exact (tmod_nat (8*i+j) 8).trans (by omega)) ?_
  refine bindI_of (((7-j:Nat):Int)) (by exact i64_at _ _ (by omega) (by omega) (by omega)) ?_
  refine needs_of (by omega) ?_
  refine bindI_of (((x / 2 ^ (7-j):Nat):Int)) (by exact shr_of (by show 7-j<=8; omega)) ?_
  refine bindI_of (((x / 2 ^ (7-j) % 2:Nat):Int)) (by exact (and8 _ 1 hxd (by decide)).trans (by rw [Nat.and_one_is_mod])) ?_
  refine bindI_of (((x / 2 ^ (8-(j+1)):Nat):Int)) (by exact (or8 _ _ d3 hb2).trans (by rw [d1])) ?_
  refine bindI_of (((j+1:Nat):Int)) (by exact i64_at _ _ (by omega) (by omega) (by omega)) ?_
  exact ⟨f-1,by omega,j+1,by omega,rfl,rfl⟩
 ·have hj:j=8:=by omega
  subst hj
  rw [Nat.sub_self,Nat.pow_zero,Nat.div_one]
  exact hk
theorem told64_ok (hr:rdO h q (b.length*1) (u8s b)) (hb:b[i]? = some x) (hx:x<256) (hl:b.length<=140737488351299) (hk:K (.int .u64 (x:Nat)) h) :
  CP F_bits_told_uint64 #[.slice q b.length c, .int .i64 ((8*i:Nat):Int), .int .i64 8] h K Kp:=by
 refine call_bits_told_uint64 ?_
 unfold bits_told_uint64
 have hil:=(List.getElem?_eq_some_iff.1 hb).1
 obtain ⟨a,rfl,hc⟩:=rdO_cell hr (i:=i) (v := .int .u8 (x:Nat)) (by unfold u8s; rw [List.getElem?_map,hb]; rfl)
 refine ⟨fun f vs h'=>∃ j:Nat,j+f=8/\vs=[.int .u64 ((x / 2 ^ (8-j):Nat):Int), .int .i64 (j:Nat)]/\h'=h,⟨8,0,rfl,by rw [Nat.sub_zero,Nat.div_eq_of_lt (show x<2 ^ 8 by omega)]; rfl,rfl⟩,?_⟩
 rintro f h' u xa xb ⟨j,hjf,hxx,rfl⟩
 injection hxx with hx1 hxx
 injection hxx with hx2 hxx
 injection hx1 with _ hx1
 injection hx2 with _ hx2
 subst xa xb
 refine bcase_dec (fun h1=>?_) fun h1=>?_
 ·have hj:j<8:=by omega
  obtain ⟨d1,d2,d3⟩:=dn_step hx hj
  have hb2:x / 2 ^ (7-j) % 2<256:=by omega
  have hxd:x / 2 ^ (7-j)<256:=Nat.lt_of_le_of_lt (Nat.div_le_self _ _) hx
  refine bindI_of (((x / 2 ^ (8-j)*2:Nat):Int)) (by exact shl_of (i:=1) (by decide) (by rw [Nat.pow_one]; exact u64_in _ (by omega) (by omega))) ?_
  refine bindI_of (((8*i+j:Nat):Int)) (by exact i64_at _ _ (by omega) (by omega) (by omega)) ?_
  refine bindI_of (((i:Nat):Int)) (by exact i64_at _ _ (by rw [show ((8*i+j:Nat):Int).tdiv 8=(((8*i+j) / 8:Nat):Int) from rfl]; omega) (by omega) (by omega)) ?_
  refine needs_of (by omega) (ptr_of (a:=a) ?_)
  rw [Int.toNat_natCast,Nat.mul_one]
  refine ldI_of hc ?_
  refine bindI_of (((8*i+j:Nat):Int)) (by exact i64_at _ _ (by omega) (by omega) (by omega)) ?_
  refine bindI_of (((j:Nat):Int)) (by exact (tmod_nat (8*i+j) 8).trans (by omega)) ?_
  refine bindI_of (((7-j:Nat):Int)) (by exact i64_at _ _ (by omega) (by omega) (by omega)) ?_
  refine needs_of (by omega) ?_
  refine bindI_of (((x / 2 ^ (7-j):Nat):Int)) (by exact shr_of (by show 7-j<=8; omega)) ?_
  refine bindI_of (((x / 2 ^ (7-j) % 2:Nat):Int)) (by exact (and8 _ 1 hxd (by decide)).trans (by rw [Nat.and_one_is_mod])) ?_
  refine bindI_of (((x / 2 ^ (7-j) % 2:Nat):Int)) (by exact u64_in _ (by omega) (by omega)) ?_
  refine bindI_of (((x / 2 ^ (8-(j+1)):Nat):Int)) (by exact (or64 _ _ (by omega) (by omega)).trans (by rw [d1])) ?_
  refine bindI_of (((j+1:Nat):Int)) (by exact i64_at _ _ (by omega) (by omega) (by omega)) ?_
  exact ⟨f-1,by omega,j+1,by omega,rfl,rfl⟩
 ·have hj:j=8:=by omega
  subst hj
  rw [Nat.sub_self,Nat.pow_zero,Nat.div_one]
  exact hk
def rdE (r:Nat) (q:Option Addr) (n c i:Nat):Ent:=⟨r,true,T_bits_Reader,[.slice q n c, .int .i64 ((8*i:Nat):Int)]⟩
structure RdB (b:List Nat):Prop where
 b8:∀ x∈b,x<256
 bl:b.length<=140737488351299
variable {r:Nat} {D L:List Ent}
theorem rleft_ok (H:Hp h0 F h (rdE r q b.length c i::D)) (hb:RdB b) (hi:i<=b.length) (hk:K (.int .i64 ((8*(b.length-i):Nat):Int)) h):CP F_bits_Reader_Left #[.pointer (some ⟨r,0,none⟩)] h K Kp:=by
 refine call_bits_Reader_Left ?_
 unfold bits_Reader_Left
 have hbl:=hb.bl
 refine ptr_of (a:=⟨r,0,none⟩) (ptr_of (a:=⟨r,0,none⟩) ?_)
 refine ldS_of (hpA H 0 rfl rfl) ?_
 refine bindI_of (((8*b.length:Nat):Int)) (by exact i64_at _ _ (by omega) (by omega) (by omega)) ?_
 refine ldI_of (hpA H 0 rfl rfl) ?_
 refine bindI_of (((8*(b.length-i):Nat):Int)) (by exact i64_at _ _ (by omega) (by omega) (by omega)) ?_
 exact hk
theorem rtake8_ok (H:Hp h0 F h (rdE r q b.length c i::D)) (hs:Slot T_uint8 1 D q b.length c (u8s b)) (hb:RdB b) (hi:i<=b.length)
  (hk0:b[i]? = none->K (.tuple #[.int .u64 0, .int .i64 14]) h) (hk1:∀ x h',b[i]? = some x->Hp h0 F h' (rdE r q b.length c (i+1)::D)->K (.tuple #[.int .u64 (x:Nat), .int .i64 0]) h') :
  CP F_bits_Reader_Take #[.pointer (some ⟨r,0,none⟩), .int .i64 8] h K Kp:=by
 refine call_bits_Reader_Take ?_
 unfold bits_Reader_Take
 have hbl:=hb.bl
 refine bcase_dec (fun h1=>absurd h1 (by decide)) fun _=>?_
 refine bcase_dec (fun h1=>absurd h1 (by decide)) fun _=>?_
 refine rleft_ok H hb hi ?_
 refine ⟨_,rfl,?_⟩
 refine bcase_dec (fun h1=>hk0 (List.getElem?_eq_none (by omega))) fun h1=>?_
 obtain ⟨x,hx⟩:∃ x,b[i]? = some x:=⟨_,List.getElem?_eq_getElem (by omega)⟩
 refine ptr_of (a:=⟨r,0,none⟩) ?_
 refine ldI_of (hpA H 0 rfl rfl) ?_
 refine bindI_of (((8*(i+1):Nat):Int)) (by exact i64_at _ _ (by omega) (by omega) (by omega)) ?_
 refine ptr_of (a:=⟨r,0,none⟩) ?_
 refine stA H 0 rfl rfl rfl fun h H=>?_
 have H:Hp h0 F h (rdE r q b.length c (i+1)::D):=H
 refine ptr_of (a:=⟨r,0,none⟩) (ptr_of (a:=⟨r,0,none⟩) ?_)
 refine ldS_of (hpA H 0 rfl rfl) (ldI_of (hpA H 0 rfl rfl) ?_)
 refine bindI_of (((8*i:Nat):Int)) (by exact i64_at _ _ (by omega) (by omega) (by omega)) ?_
 refine told64_ok (Slot.rdO' hs H fun e he=>List.mem_cons_of_mem _ he) hx (hb.b8 x (List.mem_of_getElem? hx)) hb.bl ?_
 refine ⟨_,rfl,?_⟩
 exact hk1 x h hx H
theorem rgroup_ok (H:Hp h0 F h (rdE r q b.length c i::D)) (hs:Slot T_uint8 1 D q b.length c (u8s b)) (hb:RdB b) (hi:i<=b.length)
  (hk0:b[i]? = none->K (.tuple #[.int .u8 0, .bool false]) h) (hk1:∀ x h',b[i]? = some x->Hp h0 F h' (rdE r q b.length c (i+1)::D)->K (.tuple #[.int .u8 (x:Nat), .bool true]) h') :
  CP F_bits_Reader_group #[.pointer (some ⟨r,0,none⟩)] h K Kp:=by
 refine call_bits_Reader_group ?_
 unfold bits_Reader_group
 have hbl:=hb.bl
 refine rleft_ok H hb hi ?_
 refine ⟨_,rfl,?_⟩
 refine bcase_dec (fun h1=>hk0 (List.getElem?_eq_none (by omega))) fun h1=>?_
 obtain ⟨x,hx⟩:∃ x,b[i]? = some x:=⟨_,List.getElem?_eq_getElem (by omega)⟩
 refine ptr_of (a:=⟨r,0,none⟩) ?_
 refine ldI_of (hpA H 0 rfl rfl) ?_
 refine bindI_of (((8*(i+1):Nat):Int)) (by exact i64_at _ _ (by omega) (by omega) (by omega)) ?_
 refine ptr_of (a:=⟨r,0,none⟩) ?_
 refine stA H 0 rfl rfl rfl fun h H=>?_
 have H:Hp h0 F h (rdE r q b.length c (i+1)::D):=H
 refine ptr_of (a:=⟨r,0,none⟩) (ptr_of (a:=⟨r,0,none⟩) ?_)
 refine ldS_of (hpA H 0 rfl rfl) (ldI_of (hpA H 0 rfl rfl) ?_)
 refine bindI_of (((8*i:Nat):Int)) (by exact i64_at _ _ (by omega) (by omega) (by omega)) ?_
 refine told8_ok (Slot.rdO' hs H fun e he=>List.mem_cons_of_mem _ he) hx (hb.b8 x (List.mem_of_getElem? hx)) hb.bl ?_
 refine ⟨_,rfl,?_⟩
 exact hk1 x h hx H
end
theorem deferVar {cap0 cap1 cap2 cap3:Addr} {u:FrameMode} {h:Heap} {Kd:FrameMode->Heap->Prop} {Kdp:FrameMode->PK} (H:bits_Reader_Var_c1 (CallsHP Go.Proofs.Tryz.prog) cap0 cap1 cap2 cap3 h (fun _ h'=>Kd u h') fun c h'=>Kdp u c h') :
  DCalls Go.Proofs.Tryz.prog F_bits_Reader_Var_c1 #[.pointer (some cap0), .pointer (some cap1), .pointer (some cap2), .pointer (some cap3)] u h Kd Kdp :=
 dcalls_of_plain hints_bits_Reader_Var_c1 (by kernel_rfl) Go.Proofs.Tryz.func160 (by kernel_rfl) (by rw [eq_bits_Reader_Var_c1]; exact H)
section
variable {h0 h:Heap} {F:List Nat} {K:VK} {Kp:PK} {q:Option Addr} {c i x:Nat} {b:List Nat} {r:Nat} {D:List Ent}
set_option maxHeartbeats 4000000 in
theorem rvar_ok (H:Hp h0 F h (rdE r q b.length c i::D)) (hs:Slot T_uint8 1 D q b.length c (u8s b)) (hb:RdB b) (hi:i<=b.length)
  (hk:∀ h',Hp h0 F h' (rdE r q b.length c (varP b i).2.2::D)->K (.tuple #[.int .u64 ((varP b i).2.1:Nat), .int .i64 (varP b i).1]) h') :
  CP F_bits_Reader_Var #[.pointer (some ⟨r,0,none⟩)] h K Kp:=by
 refine call_bits_Reader_Var ?_
 unfold bits_Reader_Var
 have hbl:=hb.bl
 refine newC_hp H fun r1 h H=>?_
 refine newC_hp H fun r3 h H=>?_
 refine newC_hp H fun r5 h H=>?_
 have H:Hp h0 F h ((rdE r q b.length c i::D)++[⟨r1,true,T_p_bits_Reader,[.pointer (some ⟨r,0,none⟩)]⟩,⟨r3,true,T_uint64,[.int .u64 0]⟩,⟨r5,true,T_api_Errno,[.int .i64 0]⟩]):=H.as (by simp only [List.append_assoc,List.cons_append,List.nil_append])
 have H:=H.rot
 refine ldP_of (H.cell 0 rfl rfl) (ptr_of (a:=⟨r,0,none⟩) ?_)
 refine ldI_of (hpA H 3 rfl rfl) ?_
 refine newC_hp H fun r10 h H=>?_
 have H:=H.rot
 refine st0 H 0 rfl rfl rfl fun h H=>?_
 have H:Hp h0 F h ([⟨r10,true,T_int,[.int .i64 ((8*i:Nat):Int)]⟩,⟨r1,true,T_p_bits_Reader,[.pointer (some ⟨r,0,none⟩)]⟩,⟨r3,true,T_uint64,[.int .u64 ((0:Nat):Int)]⟩,⟨r5,true,T_api_Errno,[.int .i64 0]⟩]++(rdE r q b.length c (i+0)::D)):=H
 have done:∀ {e:Int} {n p:Nat} {h:Heap},(e=0\/e≠0/\n=0/\p=i)->∀ {p' n':Nat},(e=0->p'=p/\n'=n)->(∀ h',Hp h0 F h' (rdE r q b.length c p::D)->K (.tuple #[.int .u64 (n:Nat), .int .i64 e]) h') ->
   Hp h0 F h ([⟨r10,true,T_int,[.int .i64 ((8*i:Nat):Int)]⟩,⟨r1,true,T_p_bits_Reader,[.pointer (some ⟨r,0,none⟩)]⟩,⟨r3,true,T_uint64,[.int .u64 (n':Nat)]⟩,⟨r5,true,T_api_Errno,[.int .i64 e]⟩]++(rdE r q b.length c p'::D)) ->
   leaveD (DCalls Go.Proofs.Tryz.prog) (fun h_29=>ldI h_29 (⟨r3,0,none⟩:Addr) .u64 fun r_30=>ldI h_29 (⟨r5,0,none⟩:Addr) .i64 fun r_31=>K (.tuple #[.int .u64 r_30, .int .i64 r_31]) h_29) Kp [{ target := .fn (.func F_bits_Reader_Var_c1) #[.pointer (some ⟨r5,0,none⟩), .pointer (some ⟨r10,0,none⟩), .pointer (some ⟨r3,0,none⟩), .pointer (some ⟨r1,0,none⟩)],args:=#[] }] .returning h:=by
  intro e n p h he p' n' hp hk H
  show DCalls Go.Proofs.Tryz.prog F_bits_Reader_Var_c1 #[.pointer (some ⟨r5,0,none⟩), .pointer (some ⟨r10,0,none⟩), .pointer (some ⟨r3,0,none⟩), .pointer (some ⟨r1,0,none⟩)] .returning h _ _
  refine deferVar ?_
  unfold bits_Reader_Var_c1
  refine ldI_of (H.cell 3 rfl rfl) ?_
  rcases he with he | ⟨he,hn,hpi⟩
  ·refine bcase_ne (fun h1=>absurd he h1) fun _=>?_
   obtain ⟨rfl,rfl⟩:=hp he
   show ldI h ⟨r3,0,none⟩ .u64 _
   refine ldI_of (H.cell 2 rfl rfl) (ldI_of (H.cell 3 rfl rfl) ?_)
   exact hk h (Hp.suf H)
  ·refine bcase_ne (fun _=>?_) fun h1=>absurd h1 he
   refine ldP_of (H.cell 1 rfl rfl) (ldI_of (H.cell 0 rfl rfl) ?_)
   refine st0 H 2 rfl rfl rfl fun h H=>?_
   refine ptr_of (a:=⟨r,0,none⟩) ?_
   refine stA H 4 rfl rfl rfl fun h H=>?_
   have H:Hp h0 F h ([⟨r10,true,T_int,[.int .i64 ((8*i:Nat):Int)]⟩,⟨r1,true,T_p_bits_Reader,[.pointer (some ⟨r,0,none⟩)]⟩,⟨r3,true,T_uint64,[.int .u64 0]⟩,⟨r5,true,T_api_Errno,[.int .i64 e]⟩]++(rdE r q b.length c i::D)):=H
   show ldI h ⟨r3,0,none⟩ .u64 _
   refine ldI_of (H.cell 2 rfl rfl) (ldI_of (H.cell 3 rfl rfl) ?_)
   rw [hn,hpi] at hk
   exact hk h (Hp.suf H)
 refine ⟨fun f vs h'=>∃ (j n:Nat),1<=f/\j+f=10/\n<128 ^ j/\varF b i f j n=varP b i/\i+j<=b.length/\vs=[.int .i64 ((7*j:Nat):Int)] /\
  Hp h0 F h' ([⟨r10,true,T_int,[.int .i64 ((8*i:Nat):Int)]⟩,⟨r1,true,T_p_bits_Reader,[.pointer (some ⟨r,0,none⟩)]⟩,⟨r3,true,T_uint64,[.int .u64 (n:Nat)]⟩,⟨r5,true,T_api_Errno,[.int .i64 0]⟩]++(rdE r q b.length c (i+j)::D)),⟨10,0,0,by omega,rfl,by decide,rfl,hi,rfl,H⟩,?_⟩
 clear H
 rintro f h u xa ⟨j,n,hf1,hjf,hn,hv,hij,hxx,H⟩
 obtain ⟨f,rfl⟩:∃ g,f=g+1:=⟨f-1,by omega⟩
 injection hxx with hx1 hxx
 injection hx1 with _ hx1
 subst xa
 refine ldP_of (H.cell 1 rfl rfl) ?_
 have hsw:∀ p,(rdE r q b.length c p::D).all Ent.w=true:=fun p=>by rw [List.all_cons,hs.w]; rfl
 refine rgroup_ok (Hp.giveS H) hs hb hij (fun hnone=>?_) fun y h hy H'=>?_
 ·refine ⟨_,_,rfl,?_⟩
  refine ⟨fun _ _=>False,?_,fun _ _ hh=>hh.elim⟩
  refine bcase_true (by rfl) ?_
  refine st0 H 2 rfl rfl rfl fun h H=>?_
  refine st0 H 3 rfl rfl rfl fun h H=>?_
  have hvp:varP b i=(14,0,i):=by
   rw [<- hv]
   unfold varF
   rw [hnone]
  rw [hvp] at hk
  exact done (e:=14) (n:=0) (p:=i) (n':=0) (p':=i+j) (.inr ⟨by decide,rfl,rfl⟩) (fun hh=>absurd hh (by decide)) hk H
 ·have H:=Hp.putS H (hsw _) H' (hsw _)
  clear H'
  have hy8:=hb.b8 y (List.mem_of_getElem? hy)
  have hyl:=(List.getElem?_eq_some_iff.1 hy).1
  refine ⟨_,_,rfl,?_⟩
  have err:(j=9/\1<y\/0<j/\y=0)->stV h (⟨r3,0,none⟩:Addr) (.int .u64 0) fun h_32=>stV h_32 (⟨r5,0,none⟩:Addr) (.int .i64 16) fun h_33 =>
    leaveD (DCalls Go.Proofs.Tryz.prog) (fun h_29=>ldI h_29 (⟨r3,0,none⟩:Addr) .u64 fun r_30=>ldI h_29 (⟨r5,0,none⟩:Addr) .i64 fun r_31=>K (.tuple #[.int .u64 r_30, .int .i64 r_31]) h_29) Kp [{ target := .fn (.func F_bits_Reader_Var_c1) #[.pointer (some ⟨r5,0,none⟩), .pointer (some ⟨r10,0,none⟩), .pointer (some ⟨r3,0,none⟩), .pointer (some ⟨r1,0,none⟩)],args:=#[] }] .returning h_33:=fun hc=>by
   refine st0 H 2 rfl rfl rfl fun h H=>?_
   refine st0 H 3 rfl rfl rfl fun h H=>?_
   have hvp:varP b i=(16,0,i):=by
    rw [<- hv]
    unfold varF
    rw [hy]
    dsimp only
    rw [if_pos hc]
   rw [hvp] at hk
   exact done (e:=16) (n:=0) (p:=i) (n':=0) (p':=i+j+1) (.inr ⟨by decide,rfl,rfl⟩) (fun hh=>absurd hh (by decide)) hk H
  refine ⟨fun _ h'=>h'=h/\¬ (j=9/\1<y\/0<j/\y=0),?_,?_⟩
  ·refine bcase_false (by rfl) ?_
   refine bcase_eq (fun h9=>?_) fun h9=>?_
   ·refine bcase_dec (fun h10=>?_) fun h10=>?_
    ·refine bcase_dec (fun _=>err (.inl ⟨by omega,by omega⟩)) fun h11=>absurd h10 h11
    ·refine bcase_dec (fun h11=>?_) fun h11=>⟨rfl,by omega⟩
     refine bcase_eq (fun h12=>err (.inr ⟨by omega,by omega⟩)) fun h12=>⟨rfl,by omega⟩
   ·refine bcase_dec (fun h11=>?_) fun h11=>⟨rfl,by omega⟩
    refine bcase_eq (fun h12=>err (.inr ⟨by omega,by omega⟩)) fun h12=>⟨rfl,by omega⟩
  rintro h' u ⟨rfl,hnc⟩
  have hz:y % 128*128 ^ j<18446744073709551616:=by
   by_cases hj:j=9
   ·have h1:y % 128<=1:=by omega
    have h2:y % 128*128 ^ j<=1*128 ^ j:=Nat.mul_le_mul_right _ h1
    rw [hj] at h2 ⊢
    have e9:(128:Nat) ^ 9=9223372036854775808:=by decide
    omega
   ·have h1:y % 128*128 ^ j<=127*128 ^ j:=Nat.mul_le_mul_right _ (by omega)
    have h2:128 ^ j<=128 ^ 8:=Nat.pow_le_pow_right (by decide) (by omega)
    have e8:(128:Nat) ^ 8=72057594037927936:=by decide
    omega
  have hm127:y % 128*128 ^ j<=127*128 ^ j:=Nat.mul_le_mul_right _ (by omega)
  have hp1:128 ^ (j+1)=128*128 ^ j:=by rw [Nat.pow_succ,Nat.mul_comm]
  refine bindI_of (((y % 128:Nat):Int)) (by exact (and8 _ 127 hy8 (by decide)).trans (by have:=Nat.and_two_pow_sub_one_eq_mod y 7; rw [show (127:Nat)=2 ^ 7-1 from rfl,this])) ?_
  refine bindI_of (((y % 128:Nat):Int)) (by exact u64_in _ (by omega) (by omega)) ?_
  refine needs_of (by omega) ?_
  refine bindI_of (((y % 128*128 ^ j:Nat):Int)) (by exact shl_of (by show 7*j<=64; omega) (by rw [pow7]; exact u64_in _ (by omega) (by omega))) ?_
  refine ldI_of (H.cell 2 rfl rfl) ?_
  have hn64:n<18446744073709551616:=by
   have h2:128 ^ j<=128 ^ 9:=Nat.pow_le_pow_right (by decide) (by omega)
   have e9:(128:Nat) ^ 9=9223372036854775808:=by decide
   omega
  have hor:n ||| y % 128*128 ^ j=n+y % 128*128 ^ j:=by
   have:=Nat.shiftLeft_add_eq_or_of_lt (b:=n) (i:=7*j) (by rw [pow7]; exact hn) (y % 128)
   rw [Nat.shiftLeft_eq,pow7] at this
   rw [Nat.or_comm,<- this,Nat.add_comm]
  refine bindI_of (((n+y % 128*128 ^ j:Nat):Int)) (by exact (or64 _ _ hn64 hz).trans (by rw [hor])) ?_
  refine st0 H 2 rfl rfl rfl fun h H=>?_
  refine bcase_dec (fun h13=>?_) fun h13=>?_
  ·refine ldI_of (H.cell 2 rfl rfl) ?_
   refine st0 H 2 rfl rfl rfl fun h H=>?_
   refine st0 H 3 rfl rfl rfl fun h H=>?_
   have hvp:varP b i=(0,n+y % 128*128 ^ j,i+j+1):=by
    rw [<- hv]
    unfold varF
    rw [hy]
    dsimp only
    rw [if_neg hnc,if_pos (by omega)]
   rw [hvp] at hk
   exact done (e:=0) (n:=n+y % 128*128 ^ j) (p:=i+j+1) (n':=n+y % 128*128 ^ j) (p':=i+j+1) (.inl rfl) (fun _=>⟨rfl,rfl⟩) hk H
  ·refine bindI_of (((7*(j+1):Nat):Int)) (by exact i64_at _ _ (by omega) (by omega) (by omega)) ?_
   refine ⟨f,by omega,j+1,n+y % 128*128 ^ j,by omega,by omega,by omega,?_,by omega,rfl,H⟩
   rw [<- hv]
   conv=>rhs; unfold varF
   rw [hy]
   dsimp only
   rw [if_neg hnc,if_neg (by omega)]
end
end Go.Bm
namespace Go.Bm
open Go Go.Den Go.Den.YtfaclehehhgpcaaGreat
open Go.Ar (u8s u8s_length)
section
variable {h0 h:Heap} {F:List Nat} {K:VK} {Kp:PK} {q:Option Addr} {c i r:Nat} {b:List Nat} {D:List Ent}
theorem newReader_ok (hr:rdO h q (b.length*1) (u8s b)) (hb:RdB b) (hk:∀ r q' c' D h',Slot T_uint8 1 D q' b.length c' (u8s b)->Hp h [] h' (rdE r q' b.length c' 0::D)->K (.pointer (some ⟨r,0,none⟩)) h'):CP F_bits_NewReader #[.slice q b.length c] h K Kp:=by
 refine call_bits_NewReader ?_
 unfold bits_NewReader
 have hbl:=hb.bl
 have fin:∀ D q' c' h',Slot T_uint8 1 D q' b.length c' (u8s b)->Hp h [] h' D->newC h' [.slice q' b.length c', .int .i64 0] T_bits_Reader fun r_3 h_4=>K (.pointer (some ⟨r_3,0,none⟩)) h_4:=fun D q' c' h' hs H=>by
  refine newC_hp H fun r h2 H=>?_
  have H:=H.rot
  exact hk r q' c' D h2 hs H
 rcases Nat.eq_zero_or_pos b.length with h1 | h1
 ·have hb0:b=[]:=List.length_eq_zero_iff.1 h1
  subst hb0
  refine ⟨u8s [],hr,?_⟩
  rw [if_pos (by simp)]
  exact fin [] none 0 h (Slot.nil _ _) (Hp.nil h [])
 ·have H:=Hp.nil h []
  refine appC_new H hr (u8s_length b) h1 (by omega) fun o rest h' he H'=>?_
  exact fin _ _ _ h' (Slot.one (by rw [u8s_length,Nat.mul_one]) (by rw [List.length_append,u8s_length,Nat.mul_one])) H'
end
section
variable {hB:Heap} {K:VK} {Kp:PK} {q:Option Addr} {c:Nat} {b:List Nat}
end
end Go.Bm
namespace Go.Bm
open Go Go.Den Go.Den.YtfaclehehhgpcaaGreat
open Go.Ar (u8s u8s_length)
theorem rdO_drop {h:Heap} {q:Option Addr} {c i:Nat} {b:List Nat} (hr:rdO h q (b.length*1) (u8s b)) (hi:i<=b.length) (hc:b.length<=c):rdO h (subA q c i 1) ((b.drop i).length*1) (u8s (b.drop i)):=by
 have hd:u8s (b.drop i)=(u8s b).drop i:=by simp [u8s,List.map_drop]
 cases q with
 | none =>
  have h0:u8s b=[]:=hr
  have e:subA none c i 1=none:=by unfold subA; split <;> rfl
  rw [e,hd,h0]
  exact List.drop_nil
 | some a =>
  unfold subA
  by_cases h1:c=i
  ·rw [if_pos h1]
   have:b.drop i=[]:=List.drop_eq_nil_of_le (by omega)
   rw [this]
   exact ⟨rfl,fun j v hj=>by simp [u8s] at hj⟩
  ·rw [if_neg h1]
   refine ⟨by rw [u8s_length,Nat.mul_one],fun j v hj=>?_⟩
   rw [hd,List.getElem?_drop] at hj
   have:=hr.2 _ v hj
   show hcell h ((a.add (i*1)).add j)=_
   rw [Nat.mul_one,Go.Ar.add_add']
   exact this
section
variable {hB:Heap} {K:VK} {Kp:PK} {q:Option Addr} {c:Nat} {b:List Nat}
end
end Go.Bm
namespace Go.Den.YtfaclehehhgpcaaGreat
open Go Go.Den
end Go.Den.YtfaclehehhgpcaaGreat
namespace Go.Den.YtfaclehehhgpcaaGreat
open Go Go.Den
end Go.Den.YtfaclehehhgpcaaGreat
namespace Go.Bm
open Go Go.Den Go.Den.YtfaclehehhgpcaaGreat
section
variable {hB h:Heap} {K:VK} {Kp:PK} {q:Option Addr} {c i ra rb:Nat} {b:List Nat} {M:List Ent} {e:Int}
end
end Go.Bm
namespace Go.Bm
open Go Go.Den Go.Den.YtfaclehehhgpcaaGreat
section
variable {hB:Heap} {K:VK} {Kp:PK} {q:Option Addr} {c:Nat} {b:List Nat}
end
end Go.Bm
namespace Go.Bm
open Go Go.Den Go.Den.YtfaclehehhgpcaaGreat
section
variable {hB:Heap} {K:VK} {Kp:PK} {q:Option Addr} {c:Nat} {b:List Nat}
end
end Go.Bm
namespace Go.Bm
open Go Go.Den Go.Den.YtfaclehehhgpcaaGreat
section
variable {h0 h:Heap} {F:List Nat} {A B D:List Ent}
theorem Slot.appN {t:TypeId} {sz by_ n c m:Nat} {q:Option Addr} {xs z:List Value} (hd:Slot t sz D q n c xs) (H:Hp h0 F h (A++(D++B))) (hz:z.length=sz) (hs0:1<=sz) {src:Option Addr} {new:List Value} (hr:Go.Den.rdO h src (m*sz) new) (hm:new.length=m*sz)
  (hnew:∀ v∈new,v.oneCell'=true) (hby:(n+m)*by_<=70368744177664)
  {K:Option Addr->Nat->Nat->Heap->Prop} (hk:∀ (D':List Ent) (q':Option Addr) (c':Nat) h',Slot t sz D' q' (n+m) c' (xs++new)->Hp h0 F h' (A++(D'++B))->K q' (n+m) c' h'):appC h t sz by_ z q n c src m K:=by
 rcases Nat.eq_zero_or_pos m with h1 | h1
 ·subst h1
  rw [Nat.zero_mul] at hr hm
  have hn0:new=[]:=List.length_eq_zero_iff.1 hm
  subst hn0
  have hnc:n<=c:=by
   obtain ⟨hl,⟨_,_,h2,_⟩ | ⟨b,rest,_,_,h2⟩⟩:=hd
   ·omega
   ·rw [List.length_append,hl] at h2
    exact Nat.le_of_mul_le_mul_right (Nat.le.intro h2) hs0
  refine ⟨[],by rw [Nat.zero_mul]; exact hr,?_⟩
  rw [if_pos (by omega)]
  have:=hk D q c h (by rw [List.append_nil,Nat.add_zero]; exact hd) H
  cases q with
  | none=>exact this
  | some a=>exact this
 ·exact Slot.app hd H hz hr hm hnew h1 hby hk
end
section
variable {hB:Heap} {q:Option Addr} {c:Nat} {l:List Int} {K:VK} {Kp:PK}
end
section
variable {hB:Heap} {w g d s:Int} {K:VK} {Kp:PK}
end
end Go.Bm
namespace Go.Den.YtfaclehehhgpcaaGreat
open Go Go.Den
end Go.Den.YtfaclehehhgpcaaGreat
namespace Go.Den.YtfaclehehhgpcaaGreat
open Go Go.Den
end Go.Den.YtfaclehehhgpcaaGreat
namespace Go.Bm
open Go Go.Den Go.Den.YtfaclehehhgpcaaGreat
section
variable {x y op t w b:Int} {sk:Bool} {ws:List Nat}
variable {hB:Heap} {q1:Option Addr} {c1:Nat} {K:VK} {Kp:PK}
end
end Go.Bm
namespace Go.Bm
open Go Go.Den Go.Den.YtfaclehehhgpcaaGreat
end Go.Bm
