/- W9: put together by wip/tools/bundle.py: TxN TxP TxQ TxR TxS TxT TxU TxV TxW TxO TxX Mlaw14x Blaw14x TxY DcH DcI DcJ DcS TyA TyC Mlaw14TextDraws Blaw14TextDraws TyD TyE Mlaw14TextStrips Blaw14TextStrips TyG TyJ. -/
import Derived.Test.YtbknfejmdekhpaaGreatW1
import Derived.Test.YtbknfejmdekhpaaGreatW2
import Derived.Test.YtbknfejmdekhpaaGreatW3
import Derived.Test.YtbknfejmdekhpaaGreatW4
import Derived.Test.YtbknfejmdekhpaaGreatW5
import Derived.Test.YtbknfejmdekhpaaGreatW6
import Derived.Test.YtbknfejmdekhpaaGreatW7
import Derived.Test.YtbknfejmdekhpaaGreatW8
import Derived.Test.YtbknfejmdekhpaaGreatProg
set_option linter.unusedVariables false
set_option linter.unusedSimpArgs false
set_option maxRecDepth 100000
namespace Go.Bm
open Go Go.Den Go.Den.YtbknfejmdekhpaaGreat
open Go.Ar (Dec idx bytesM flushM)
section
variable (G R:Int->Int->Bool) (W m:Nat) (dx dy base:Int)
def dsF (n:Nat):List (Nat × Nat):=(List.range n).map fun i=>(kf G R W m dx dy base i,bf G W i)
theorem dsF_succ (n:Nat):dsF G R W m dx dy base (n+1)=dsF G R W m dx dy base n++[(kf G R W m dx dy base n,bf G W n)]:=by
 unfold dsF
 rw [List.range_succ,List.map_append]
 rfl
theorem dsF_len (n:Nat):(dsF G R W m dx dy base n).length=n:=by simp [dsF]
theorem dsF_bit (n:Nat):∀ d∈dsF G R W m dx dy base n,d.2<=1:=fun d hd=>by
 unfold dsF at hd
 obtain ⟨i,_,rfl⟩:=List.mem_map.1 hd
 exact toNat_le _
theorem enc_f (L:List (Nat × Nat)):∀ k,runN W R dx dy (stepP m base) k (G,cdL m L) = .inl (G,cdL m (L++dsF G R W m dx dy base k))
 | 0=>by simp [runN,dsF]
 | k+1=>by
  unfold runN
  rw [enc_f L k]
  simp only [stepP,upd_self]
  rw [dsF_succ,<- List.append_assoc,cdL_snoc]
  rfl
variable (hG:∀ x y:Int,¬ (0<=x/\x<W/\0<=y)->G x y=false)
include hG
theorem dec_f {L:List (Nat × Nat)} {D:Nat->Dec} (hD:Walk L D) (hW:1<=W) {A:List (Nat × Nat)}:∀ k C,L=A++(dsF G R W m dx dy base k++C)->runN W R dx dy (stepG m base) k (fun _ _=>false,D A.length) = .inl (partG G W k,D (A++dsF G R W m dx dy base k).length)
 | 0,C,hL=>by
  have:partG G W 0=fun _ _=>false:=by
   funext x y
   unfold partG
   rw [decide_eq_false (by omega),Bool.false_and]
  rw [this]
  simp [runN,dsF]
 | k+1,C,hL=>by
  have hL2:L=(A++dsF G R W m dx dy base k)++(kf G R W m dx dy base k,bf G W k)::C:=by
   rw [hL,dsF_succ]
   simp
  have hs:=hD.at hL2
  have hx:k % W<W:=Nat.mod_lt _ (by omega)
  have hi2:k / W*W+k % W=k:=by rw [Nat.mul_comm]; exact Nat.div_add_mod k W
  have h1:=part_ctx G R W dx dy hG (x:=k % W) (y:=k / W) hx
  have h2:=partG_next G W hG (x:=k % W) (y:=k / W) hx
  rw [hi2] at h1 h2
  unfold runN
  rw [dec_f hD hW k ((kf G R W m dx dy base k,bf G W k)::C) (hL2.trans (List.append_assoc _ _ _))]
  simp only [stepG]
  rw [h1]
  have hk:idx (base+((ctxN G R dx dy ((k % W:Nat):Int) ((k / W:Nat):Int):Nat):Int)) m=kf G R W m dx dy base k:=rfl
  rw [hk,hs]
  have hbit:decide (bf G W k=1)=G ((k % W:Nat):Int) ((k / W:Nat):Int):=by
   unfold bf
   cases G ((k % W:Nat):Int) ((k / W:Nat):Int) <;> rfl
  dsimp only
  rw [hbit,h2,dsF_succ]
  simp [Nat.add_assoc]
end
def RegOk (t:Reg14):Prop:=SizeP t.w t.h/\(0<=t.x/\t.x<=1048576)/\(0<=t.y/\t.y<=1048576)/\(0<=t.op/\t.op<=4)/\(0<=t.df/\t.df<=1)/\(0<=t.st/\t.st<=3)
def TForm (t:Reg14) (sy:List Bmp) (l:List Ins):Prop:=MayL sy/\RegOk t/\∀ i∈l,InsOk t.rf sy i
def arI (l:List Ins):Nat:=(l.map fun i=>i.b.w.toNat*i.b.h.toNat).sum
open Classical in
noncomputable def chkT (t:Reg14) (sy:List Bmp) (l:List Ins):Int:=if ¬ TForm t sy l then 140 else if 4096<sy.length\/16384<l.length\/1048576<arI l then 120 else 0
section
variable {t:Reg14} {sy:List Bmp} {l:List Ins}
theorem chkT_bad (h:¬ TForm t sy l):chkT t sy l=140:=by unfold chkT; rw [if_pos h]
theorem chkT_big (h:TForm t sy l) (h2:4096<sy.length\/16384<l.length\/1048576<arI l):chkT t sy l=120:=by unfold chkT; rw [if_neg (fun hh=>hh h),if_pos h2]
theorem chkT_ok (h:TForm t sy l) (h2:¬ (4096<sy.length\/16384<l.length\/1048576<arI l)):chkT t sy l=0:=by unfold chkT; rw [if_neg (fun hh=>hh h),if_neg h2]
theorem chkT_zero (h:chkT t sy l=0):TForm t sy l/\sy.length<=4096/\l.length<=16384/\arI l<=1048576:=by
 by_cases h1:TForm t sy l
 ·by_cases h2:4096<sy.length\/16384<l.length\/1048576<arI l
  ·rw [chkT_big h1 h2] at h; cases h
  ·exact ⟨h1,by omega,by omega,by omega⟩
 ·rw [chkT_bad h1] at h; cases h
theorem arI_cons (i:Ins) (l:List Ins):arI (i::l)=i.b.w.toNat*i.b.h.toNat+arI l:=rfl
theorem arI_snoc (l:List Ins) (i:Ins):arI (l++[i])=arI l+i.b.w.toNat*i.b.h.toNat:=by
 unfold arI
 rw [List.map_append,List.sum_append]
 simp
theorem arI_perm {a b:List Ins} (h:a.Perm b):arI a=arI b:=(h.map _).sum_nat
theorem InsOk.area {rf:Bool} {i:Ins} (h:InsOk rf sy i):(i.b.w=0/\i.b.h=0)\/i.b.may:=by
 cases hd:i.d with
 | false=>exact .inl ⟨(h.2.2.2.1 hd).1,(h.2.2.2.1 hd).2.1⟩
 | true=>exact .inr (h.2.2.2.2 hd).2.1
theorem InsOk.nat {rf:Bool} {i:Ins} (h:InsOk rf sy i):∃ W X:Nat,i.b.w=(W:Int)/\i.b.h=(X:Int)/\W*X<=1048576:=by
 rcases h.area with ⟨h1,h2⟩ | h1
 ·exact ⟨0,0,h1,h2,by omega⟩
 ·obtain ⟨W,X,e1,e2,hW1,hW2,hX1,hX2,hWX⟩:=size_nat h1.1
  exact ⟨W,X,e1,e2,hWX⟩
theorem arI_le:∀ (l:List Ins),(∀ i∈l,InsOk t.rf sy i)->arI l<=l.length*1048576
 | [],_=>Nat.zero_le _
 | i::l,h=>by
  have ih:=arI_le l fun x hx=>h x (List.mem_cons_of_mem _ hx)
  obtain ⟨W,X,e1,e2,hWX⟩:=(h i (List.mem_cons_self ..)).nat
  rw [arI_cons,List.length_cons,e1,e2,Int.toNat_natCast,Int.toNat_natCast,Nat.add_mul]
  omega
end
theorem sym_at {rf:Bool} {sy:List Bmp} {i:Ins} (h:InsOk rf sy i):sy[i.s.toNat]? = some (symOf sy i.s):=by
 obtain ⟨s,hs⟩:∃ s,sy[i.s.toNat]? = some s:=⟨_,List.getElem?_eq_getElem (by have:=h.1; omega)⟩
 unfold symOf
 rw [List.getD_eq_getElem?_getD,hs]
 rfl
def wdF:Nat->Nat->Nat->Nat
 | 0,_,w=>w
 | f+1,n,w=>if 2 ^ w<n then wdF f n (w+1) else w
def wid (n:Nat):Nat:=wdF 12 n 0
theorem wdF_ok {n:Nat} (h:n<=4096):∀ f w,w+f=12->n<=2 ^ wdF f n w/\wdF f n w<=12
 | 0,w,hw=>by
  obtain rfl:w=12:=by omega
  exact ⟨h,Nat.le_refl _⟩
 | f+1,w,hw=>by
  unfold wdF
  split
  ·exact wdF_ok h f (w+1) (by omega)
  ·exact ⟨by omega,by omega⟩
theorem wid_ok {n:Nat} (h:n<=4096):n<=2 ^ wid n/\wid n<=12:=wdF_ok h 12 0 rfl
def noneT:List (Nat × Nat):=dsWh 14337 1024 0 true
def refT (sy:List Bmp) (i:Ins):List (Nat × Nat):=dsF (getP i.b.ws i.b.w.toNat i.b.h.toNat) (getP (symOf sy i.s).ws (symOf sy i.s).w.toNat (symOf sy i.s).h.toNat) i.b.w.toNat 14337 0 0 6145 (i.b.h.toNat*i.b.w.toNat)
def flgT (rf:Bool) (sy:List Bmp) (i:Ins):List (Nat × Nat):=if rf=true then (if i.d=true then [(idx 6144 14337,1)]++refT sy i else [(idx 6144 14337,0)]) else []
def offT (st:Nat) (y:Int):Int:=y-flo y st*2 ^ st
def insD (t:Reg14) (sy:List Bmp) (i:Ins):List (Nat × Nat) :=
 (if 0<t.st then dsWh 14337 1536 (offT t.st.toNat i.y) false else [])++(dsId 14337 2048 (wid sy.length) i.s.toNat++flgT t.rf sy i)
def begD (t:Reg14) (i:Ins) (s f:Int):List (Nat × Nat):=dsWh 14337 0 (flo i.y t.st.toNat-s) false++dsWh 14337 512 (i.x-f) false
def stpD (t:Reg14) (sy:List Bmp):List Ins->Int->Int->Int->Bool->List (Nat × Nat)
 | [],_,_,_,b=>if b=true then noneT else []
 | i::l,s,f,x,b=>if b=true/\flo i.y t.st.toNat=s then dsWh 14337 1024 (i.x-x) false++(insD t sy i++stpD t sy l s f i.x true)
  else (if b=true then noneT else [])++(begD t i s f++(insD t sy i++stpD t sy l (flo i.y t.st.toNat) i.x i.x true))
def allD (t:Reg14) (sy:List Bmp) (l:List Ins):List (Nat × Nat):=stpD t sy (srtI t.st.toNat l) 0 0 0 false
def howT (t:Reg14):Nat:=t.op.toNat+16*t.df.toNat+32*t.st.toNat+if t.rf=true then 8 else 0
def headT (t:Reg14) (n:Nat):List Nat:=grp t.x.toNat++(grp t.y.toNat++(grp t.w.toNat++(grp t.h.toNat++([howT t]++grp n))))
def txtB (t:Reg14) (sy:List Bmp) (l:List Ins):List Nat:=headT t l.length++bytesM (flushM (cdL 14337 (allD t sy l)))
noncomputable def encT (t:Reg14) (sy:List Bmp) (l:List Ins):List Nat:=if chkT t sy l=0 then txtB t sy l else []
section
variable {t:Reg14} {sy:List Bmp}
theorem noneT_len:noneT.length<=39:=dsWh_len _ _ _ _
theorem noneT_bit:∀ d∈noneT,d.2<=1:=dsWh_bit _ _ _ _
theorem insD_len {i:Ins} (hi:InsOk t.rf sy i) (hs:sy.length<=4096):(insD t sy i).length<=52+i.b.w.toNat*i.b.h.toNat:=by
 have h1:=dsWh_len 14337 1536 (offT t.st.toNat i.y) false
 have h2:=dsId_len 14337 2048 (wid sy.length) i.s.toNat
 have h3:=(wid_ok hs).2
 have h4:(flgT t.rf sy i).length<=1+i.b.w.toNat*i.b.h.toNat:=by
  unfold flgT
  split
  ·split
   ·rw [List.length_append]
    unfold refT
    rw [dsF_len,Nat.mul_comm]
    exact Nat.le_refl _
   ·exact Nat.le_add_right _ _
  ·exact Nat.zero_le _
 unfold insD
 rw [List.length_append,List.length_append,h2]
 split
 ·omega
 ·show 0+_<=_
  omega
theorem insD_bit {i:Ins}:∀ d∈insD t sy i,d.2<=1:=fun d hd=>by
 unfold insD at hd
 rcases List.mem_append.1 hd with hd | hd
 ·split at hd
  ·exact dsWh_bit _ _ _ _ d hd
  ·cases hd
 rcases List.mem_append.1 hd with hd | hd
 ·exact dsId_bit _ _ _ _ d hd
 unfold flgT at hd
 split at hd
 ·split at hd
  ·rcases List.mem_append.1 hd with hd | hd
   ·rw [List.mem_singleton.1 hd]; exact Nat.le_refl _
   ·exact dsF_bit _ _ _ _ _ _ _ _ d hd
  ·rw [List.mem_singleton.1 hd]; exact Nat.zero_le _
 ·cases hd
theorem begD_len {i:Ins} {s f:Int}:(begD t i s f).length<=78:=by
 have h1:=dsWh_len 14337 0 (flo i.y t.st.toNat-s) false
 have h2:=dsWh_len 14337 512 (i.x-f) false
 unfold begD
 rw [List.length_append]
 omega
theorem begD_bit {i:Ins} {s f:Int}:∀ d∈begD t i s f,d.2<=1:=fun d hd=>by
 rcases List.mem_append.1 hd with hd | hd
 ·exact dsWh_bit _ _ _ _ d hd
 ·exact dsWh_bit _ _ _ _ d hd
theorem stpD_len (hs:sy.length<=4096):∀ (l:List Ins) (s f x:Int) (b:Bool),(∀ i∈l,InsOk t.rf sy i)->(stpD t sy l s f x b).length<=39+l.length*169+arI l
 | [],s,f,x,b,_=>by
  unfold stpD
  split
  ·have:=noneT_len; omega
  ·exact Nat.zero_le _
 | i::l,s,f,x,b,h=>by
  have hi:=insD_len (h i (List.mem_cons_self ..)) hs
  have h1:=noneT_len
  have h2:=begD_len (t:=t) (i:=i) (s:=s) (f:=f)
  have h3:=dsWh_len 14337 1024 (i.x-x) false
  have hl:∀ x' hx',_:=fun x' (hx':x'∈l)=>h x' (List.mem_cons_of_mem _ hx')
  unfold stpD
  rw [List.length_cons,arI_cons,Nat.add_mul]
  split
  ·have ih:=stpD_len hs l s f i.x true hl
   rw [List.length_append,List.length_append]
   omega
  ·have ih:=stpD_len hs l (flo i.y t.st.toNat) i.x i.x true hl
   rw [List.length_append,List.length_append,List.length_append]
   have h4:(if b=true then noneT else []).length<=39:=by
    split
    ·exact h1
    ·exact Nat.zero_le _
   omega
theorem stpD_bit:∀ (l:List Ins) (s f x:Int) (b:Bool),∀ d∈stpD t sy l s f x b,d.2<=1
 | [],s,f,x,b=>fun d hd=>by
  unfold stpD at hd
  split at hd
  ·exact noneT_bit d hd
  ·cases hd
 | i::l,s,f,x,b=>fun d hd=>by
  unfold stpD at hd
  split at hd
  ·rcases List.mem_append.1 hd with hd | hd
   ·exact dsWh_bit _ _ _ _ d hd
   rcases List.mem_append.1 hd with hd | hd
   ·exact insD_bit d hd
   ·exact stpD_bit l _ _ _ _ d hd
  ·rcases List.mem_append.1 hd with hd | hd
   ·split at hd
    ·exact noneT_bit d hd
    ·cases hd
   rcases List.mem_append.1 hd with hd | hd
   ·exact begD_bit d hd
   rcases List.mem_append.1 hd with hd | hd
   ·exact insD_bit d hd
   ·exact stpD_bit l _ _ _ _ d hd
theorem srtI_perm (st:Nat) (l:List Ins):l.Perm (srtI st l):=(srtK_ok l).1.perm
theorem srtI_len (st:Nat) (l:List Ins):(srtI st l).length=l.length:=(srtI_perm st l).length_eq.symm
theorem srtI_mem {st:Nat} {l:List Ins} {i:Ins}:i∈srtI st l↔i∈l:=(srtI_perm st l).mem_iff.symm
theorem allD_len {l:List Ins} (h:∀ i∈l,InsOk t.rf sy i) (hs:sy.length<=4096) (hl:l.length<=16384) (ha:arI l<=1048576):(allD t sy l).length<=4000000/\∀ d∈allD t sy l,d.2<=1:=by
 have h1:=stpD_len (t:=t) hs (srtI t.st.toNat l) 0 0 0 false fun i hi=>h i (srtI_mem.1 hi)
 rw [srtI_len,<- arI_perm (srtI_perm t.st.toNat l)] at h1
 exact ⟨Nat.le_trans h1 (by omega),stpD_bit _ _ _ _ _⟩
theorem stpD_close {l:List Ins} {s f x:Int} (h:∀ i,l[0]? = some i->flo i.y t.st.toNat≠s):stpD t sy l s f x true=noneT++stpD t sy l s f x false:=by
 cases l with
 | nil =>
  unfold stpD
  rw [if_pos rfl,if_neg (by decide),List.append_nil]
 | cons i l =>
  unfold stpD
  rw [if_neg (fun hh=>h i rfl hh.2),if_pos rfl,if_neg (fun hh=>by cases hh.1),if_neg (by decide),List.nil_append]
end
end Go.Bm
namespace Go.Bm
open Go Go.Den Go.Den.YtbknfejmdekhpaaGreat
section
variable {hB:Heap} {K:VK} {Kp:PK}
theorem contB_ok {q:Option Addr} {c:Nat} {l:List Bmp} {fv:Value} (hv:BmsV hB q l) (hl:l.length<=1000000000000)
  (hf:∀ h (b:Bmp) q1 c1 K1,hext hB h->rdO h q1 (b.ws.length*1) (u64s b.ws)->W64 b.ws->b.ws.length<140737488351300->(∀ (r:Bool) h',(r=true↔¬ b.may)->hext h h'->K1 (.bool r) h')->callD CP Kp fv [.agg #[.int .i64 b.w, .int .i64 b.h, .slice q1 b.ws.length c1]] h K1)
  (hk:∀ (r:Bool) h',(r=true↔¬ MayL l)->hext hB h'->K (.bool r) h'):CP F_slices_ContainsFunc_api_Bitmap_api_Bitmap #[.slice q l.length c,fv] hB K Kp:=by
 refine call_slices_ContainsFunc_api_Bitmap_api_Bitmap ?_
 unfold slices_ContainsFunc_api_Bitmap_api_Bitmap
 refine call_slices_IndexFunc_api_Bitmap_api_Bitmap ?_
 unfold slices_IndexFunc_api_Bitmap_api_Bitmap
 refine ⟨fun m vs h'=>∃ i:Nat,i+m=l.length/\vs=[.int .i64 (i:Nat)]/\MayL (l.take i)/\hext hB h',⟨l.length,0,by omega,rfl,(fun b hb=>by cases hb),hext.refl _⟩,?_⟩
 rintro m h u xx ⟨i,him,hxx,hm,e⟩
 injection hxx with hxx
 injection hxx with _ hxx
 subst xx
 refine bcase_dec (fun h1=>?_) fun h1=>?_
 ·obtain ⟨b,hb⟩:∃ b,l[i]? = some b:=⟨_,List.getElem?_eq_getElem (by omega)⟩
  obtain ⟨a,q1,c1,rfl,hc⟩:=hv i b hb
  have hc:=hc.ext e
  refine needs_of (by omega) (ptr_of (a:=a) ?_)
  rw [Int.toNat_natCast]
  refine ldI_of hc.c0 (ldI_of hc.c1 (ldS_of hc.c2 ?_))
  refine hf h b q1 c1 _ e hc.r1 hc.w1 hc.l1 fun r h' hr e'=>?_
  refine ⟨_,rfl,?_⟩
  refine bcase_of (fun h2=>?_) fun h2=>?_
  ·refine ⟨_,rfl,hk _ _ ?_ (e.trans e')⟩
   rw [decide_eq_true (by omega)]
   exact ⟨fun _ hh=>(hr.1 h2) (hh b (List.mem_of_getElem? hb)),fun _=>rfl⟩
  ·refine bindI_of (((i+1:Nat):Int)) (by exact i64_at _ _ (by omega) (by omega) (by omega)) ?_
   refine ⟨m-1,by omega,i+1,by omega,rfl,hm.take hb (Classical.byContradiction fun hn=>?_),e.trans e'⟩
   have:=hr.2 hn
   rw [h2] at this
   cases this
 ·refine ⟨_,rfl,hk _ _ ?_ e⟩
  rw [decide_eq_false (by omega)]
  rw [List.take_of_length_le (by omega)] at hm
  exact ⟨(fun hh=>by cases hh),fun hh=>absurd hm hh⟩
theorem contI_ok {q:Option Addr} {c:Nat} {l:List Ins} {P:Ins->Prop} {fv:Value} (hv:InsV hB q l) (hl:l.length<=1000000000000)
  (hf:∀ h (o:OwI) K1,hext hB h->o.Vw h->(∀ (r:Bool) h',(r=true↔¬ P o.i)->hext h h'->K1 (.bool r) h')->callD CP Kp fv [o.ag] h K1)
  (hk:∀ (r:Bool) h',(r=true↔¬ ∀ i∈l,P i)->hext hB h'->K (.bool r) h'):CP F_slices_ContainsFunc_api_Instance_api_Instance #[.slice q l.length c,fv] hB K Kp:=by
 obtain ⟨O,rfl,hr,hvw⟩:=hv
 rw [List.length_map] at hr hl ⊢
 refine call_slices_ContainsFunc_api_Instance_api_Instance ?_
 unfold slices_ContainsFunc_api_Instance_api_Instance
 refine call_slices_IndexFunc_api_Instance_api_Instance ?_
 unfold slices_IndexFunc_api_Instance_api_Instance
 refine ⟨fun m vs h'=>∃ i:Nat,i+m=O.length/\vs=[.int .i64 (i:Nat)]/\(∀ o∈O.take i,P o.i)/\hext hB h',⟨O.length,0,by omega,rfl,(fun b hb=>by cases hb),hext.refl _⟩,?_⟩
 rintro m h u xx ⟨i,him,hxx,hm,e⟩
 injection hxx with hxx
 injection hxx with _ hxx
 subst xx
 refine bcase_dec (fun h1=>?_) fun h1=>?_
 ·obtain ⟨o,ho⟩:∃ o,O[i]? = some o:=⟨_,List.getElem?_eq_getElem (by omega)⟩
  obtain ⟨a,ha,cell⟩:=ins_at (rdO_ext e hr) ho
  refine needs_of (by omega) (ptr_eq ha ?_)
  rw [Int.toNat_natCast]
  refine ld7v cell ?_
  refine hf h o _ e ((hvw o (List.mem_of_getElem? ho)).ext e) fun r h' hr e'=>?_
  refine ⟨_,rfl,?_⟩
  refine bcase_of (fun h2=>?_) fun h2=>?_
  ·refine ⟨_,rfl,hk _ _ ?_ (e.trans e')⟩
   rw [decide_eq_true (by omega)]
   exact ⟨fun _ hh=>(hr.1 h2) (hh _ (List.mem_map.2 ⟨o,List.mem_of_getElem? ho,rfl⟩)),fun _=>rfl⟩
  ·refine bindI_of (((i+1:Nat):Int)) (by exact i64_at _ _ (by omega) (by omega) (by omega)) ?_
   refine ⟨m-1,by omega,i+1,by omega,rfl,fun x hx=>?_,e.trans e'⟩
   rw [take_snocG ho] at hx
   rcases List.mem_append.1 hx with hx | hx
   ·exact hm x hx
   ·rw [List.mem_singleton.1 hx]
    refine Classical.byContradiction fun hn=>?_
    have:=hr.2 hn
    rw [h2] at this
    cases this
 ·refine ⟨_,rfl,hk _ _ ?_ e⟩
  rw [decide_eq_false (by omega)]
  rw [List.take_of_length_le (by omega)] at hm
  refine ⟨(fun hh=>by cases hh),fun hh=>absurd (fun i hi=>?_) hh⟩
  obtain ⟨o,ho,rfl⟩:=List.mem_map.1 hi
  exact hm o ho
theorem mayC1_ok {b:Bmp} {q1:Option Addr} {c1:Nat} (hr:rdO hB q1 (b.ws.length*1) (u64s b.ws)) (hw:W64 b.ws) (hl:b.ws.length<140737488351300) (hk:∀ (r:Bool) h',(r=true↔¬ b.may)->hext hB h'->K (.bool r) h') :
  CP F_text_may_c1 #[.agg #[.int .i64 b.w, .int .i64 b.h, .slice q1 b.ws.length c1]] hB K Kp:=by
 refine call_text_may_c1 ?_
 unfold text_may_c1
 have H:=Hp.nil hB []
 refine newC_hp H fun r1 h H=>?_
 refine ldI_of (hpA H 0 rfl rfl) (ldI_of (hpA H 0 rfl rfl) (ldS_of (hpA H 0 rfl rfl) ?_))
 refine check_ok (H.rdO hr) hw hl fun r h' hr' e=>?_
 refine ⟨_,rfl,hk _ _ ?_ (H.hext.trans e)⟩
 cases r with
 | true=>simp; exact hr'.1 rfl
 | false=>simp; exact fun hm=>by have:=hr'.2 hm; cases this
theorem mayC2_ok {t:Reg14} {q q2:Option Addr} {n c c2:Nat} {sy:List Bmp} {o:OwI} {a0 a1:Addr} (ct:∀ j v,(t.cs q n c)[j]? = some v->hcell hB (a0.add j)=some v) (c1:hcell hB a1=some (.slice q2 sy.length c2)) (hs:BmsV hB q2 sy) (hm:MayL sy) (ho:o.Vw hB)
  (hk:∀ (r:Bool) h',(r=true↔¬ InsOk t.rf sy o.i)->hext hB h'->K (.bool r) h'):CP F_text_may_c2 #[o.ag, .pointer (some a0), .pointer (some a1)] hB K Kp:=by
 refine call_text_may_c2 ?_
 unfold text_may_c2
 have H:=Hp.nil hB []
 refine newC_hp H fun r8 h H=>?_
 have H:Hp hB [] h [⟨r8,true,T_api_Instance,o.cs⟩]:=H
 have cell:∀ j v,(t.cs q n c)[j]? = some v->hcell h (a0.add j)=some v:=fun j v hv=>H.hext.cell (ct j v hv)
 refine ldI_of (cell 0 _ rfl) (ldI_of (cell 1 _ rfl) (ldI_of (cell 2 _ rfl) (ldI_of (cell 3 _ rfl) (ldI_of (cell 4 _ rfl) (ldB_of (cell 5 _ rfl) (ldI_of (cell 6 _ rfl) (ldI_of (cell 7 _ rfl) (ldS_of (cell 8 _ rfl) ?_))))))))
 refine ldS_of (H.hext.cell c1) ?_
 repeat first | with_reducible refine ldI_of (by with_unfolding_all first | exact hpA H 0 rfl rfl | exact Hp.cell H 0 rfl rfl | exact hpB H 0 rfl rfl | exact hpC H 0 rfl rfl) ?_ | with_reducible refine ldS_of (by with_unfolding_all first | exact hpA H 0 rfl rfl | exact Hp.cell H 0 rfl rfl | exact hpB H 0 rfl rfl | exact hpC H 0 rfl rfl) ?_ | with_reducible refine ldP_of (by with_unfolding_all first | exact hpA H 0 rfl rfl | exact Hp.cell H 0 rfl rfl | exact hpB H 0 rfl rfl | exact hpC H 0 rfl rfl) ?_ | with_reducible refine ldB_of (by with_unfolding_all first | exact hpA H 0 rfl rfl | exact Hp.cell H 0 rfl rfl | exact hpB H 0 rfl rfl | exact hpC H 0 rfl rfl) ?_ | with_reducible refine ldT_of (by with_unfolding_all first | exact hpA H 0 rfl rfl | exact Hp.cell H 0 rfl rfl | exact hpB H 0 rfl rfl | exact hpC H 0 rfl rfl) ?_
 refine instance_ok (t:=t) (hs.ext H.hext) hm (ho.ext H.hext) fun r h' hr e=>⟨_,rfl,hk _ _ ?_ (H.hext.trans e)⟩
 rw [Bool.not_eq_true',<- hr]
 cases r <;> simp
set_option maxHeartbeats 2000000 in
theorem mayT_ok {t:Reg14} {q q2:Option Addr} {c c2:Nat} {sy:List Bmp} {l:List Ins} (hv:InsV hB q l) (hs:BmsV hB q2 sy) (hl:l.length<=1000000000000) (hsl:sy.length<=1000000000000) (hk:∀ (r:Bool) h',(r=true↔TForm t sy l)->hext hB h'->K (.bool r) h') :
  CP F_text_may #[t.ag q l.length c, .slice q2 sy.length c2] hB K Kp:=by
 refine call_text_may ?_
 unfold text_may
 have H:=Hp.nil hB []
 refine newC_hp H fun r10 h H=>?_
 refine newC_hp H fun r12 h H=>?_
 have H:Hp hB [] h [⟨r10,true,T_api_Text,t.cs q l.length c⟩,⟨r12,true,T_s_api_Bitmap,[.slice q2 sy.length c2]⟩]:=H
 have no:∀ {h'},hext hB h'->¬ TForm t sy l->K (.bool false) h':=fun e hn=>hk _ _ ⟨(fun hh=>by cases hh),fun hh=>absurd hh hn⟩ e
 refine ldS_of (H.cell 1 rfl rfl) ?_
 refine contB_ok (hs.ext H.hext) hsl (fun h b q1 c1 K1 _ hr hw hl hk1=>?_) fun r h' hr e=>⟨_,rfl,?_⟩
 ·unfold callD
  simp only
  exact mayC1_ok hr hw hl hk1
 replace H:=H.ext e
 refine bcase_of (fun h1=>no H.hext fun hh=>hr.1 h1 hh.1) fun h1=>?_
 have hm:MayL sy:=Classical.byContradiction fun hn=>by
  rw [hr.2 hn] at h1
  cases h1
 refine ldI_of (hpA H 0 rfl rfl) (ldI_of (hpA H 0 rfl rfl) ?_)
 refine newM_ok (fun W X p qq h' hW hX hsz H'=>⟨_,_,rfl,?_⟩) fun hn=>⟨_,_,rfl,?_⟩
 rotate_left
 ·refine bcase_true rfl (no H.hext fun hh=>hn hh.2.1.1)
 replace H:=H.ext H'.hext
 clear H'
 refine bcase_false rfl ?_
 refine ldI_of (hpA H 0 rfl rfl) (within14_ok ⟨_,rfl,bcase_ndec (fun h2=>no H.hext fun hh=>h2 hh.2.1.2.1) fun h2=>?_⟩)
 refine ldI_of (hpA H 0 rfl rfl) (within14_ok ⟨_,rfl,bcase_ndec (fun h3=>no H.hext fun hh=>h3 hh.2.1.2.2.1) fun h3=>?_⟩)
 refine ldI_of (hpA H 0 rfl rfl) (bcase_dec (fun h4=>no H.hext fun hh=>by have:=hh.2.1.2.2.2.1; omega) fun h4=>?_)
 refine ldI_of (hpA H 0 rfl rfl) (bcase_dec (fun h5=>no H.hext fun hh=>by have:=hh.2.1.2.2.2.1; omega) fun h5=>?_)
 have tail:∀ {c':Nat},(0<=t.df/\t.df<=1)->ldI h' ((⟨r10,0,none⟩:Addr).add 7) .i64 (fun x_36=>bcase (decide (x_36<(0:Int))) (K (.bool false) h')<|ldI h' ((⟨r10,0,none⟩:Addr).add 7) .i64 fun x_37=>bcase (decide (x_37 > (3:Int))) (K (.bool false) h') <|
   ldS h' ((⟨r10,0,none⟩:Addr).add 8) fun x_38 x_38n x_38c=>CP F_slices_ContainsFunc_api_Instance_api_Instance #[.slice x_38 x_38n x_38c, .func (.func F_text_may_c2) #[] #[.pointer (some ⟨r10,0,none⟩), .pointer (some ⟨r12,0,none⟩)]] h' (fun v_39 h_40=>∃ (r_41:Bool),v_39 = .bool r_41/\(K (.bool (!r_41)) h_40)) (Kp)):=fun {_} hdf=>by
  refine ldI_of (hpA H 0 rfl rfl) (bcase_dec (fun h6=>no H.hext fun hh=>by have:=hh.2.1.2.2.2.2.2; omega) fun h6=>?_)
  refine ldI_of (hpA H 0 rfl rfl) (bcase_dec (fun h7=>no H.hext fun hh=>by have:=hh.2.1.2.2.2.2.2; omega) fun h7=>?_)
  refine ldS_of (hpA H 0 rfl rfl) ?_
  refine contI_ok (P:=fun i=>InsOk t.rf sy i) (hv.ext H.hext) hl (fun h o K1 e ho hk1=>?_) fun r h' hr e=>⟨_,rfl,hk _ _ ?_ (H.hext.trans e)⟩
  ·unfold callD
   simp only
   have H:=H.ext e
   exact mayC2_ok (t:=t) (sy:=sy) (q:=q) (n:=l.length) (c:=c) (fun j v hv=>hpA H 0 rfl (by rw [Nat.zero_add]; exact hv)) (H.cell 1 rfl rfl) (hs.ext H.hext) hm ho hk1
  ·rw [Bool.not_eq_true']
   constructor
   ·intro h8
    refine ⟨hm,⟨hsz,h2,h3,by omega,hdf,by omega⟩,Classical.byContradiction fun hn=>?_⟩
    rw [hr.2 hn] at h8
    cases h8
   ·intro hh
    cases r with
    | false=>rfl
    | true=>exact absurd hh.2.2 (hr.1 rfl)
 refine ldI_of (hpA H 0 rfl rfl) (bcase_ne (fun h6=>?_) fun h6=>tail (c':=0) (by omega))
 refine ldI_of (hpA H 0 rfl rfl) (bcase_ne (fun h7=>no H.hext fun hh=>by have:=hh.2.1.2.2.2.2.1; omega) fun h7=>tail (c':=0) (by omega))
set_option maxHeartbeats 2000000 in
theorem checkedT_ok {t:Reg14} {q q2:Option Addr} {c c2:Nat} {sy:List Bmp} {l:List Ins} (hv:InsV hB q l) (hs:BmsV hB q2 sy) (hl:l.length<=1000000) (hsl:sy.length<=1000000000000) (hk:∀ h',hext hB h'->K (.int .i64 (chkT t sy l)) h') :
  CP F_text_checked #[t.ag q l.length c, .slice q2 sy.length c2] hB K Kp:=by
 refine call_text_checked ?_
 unfold text_checked
 have H:=Hp.nil hB []
 refine newC_hp H fun r10 h H=>?_
 have H:Hp hB [] h [⟨r10,true,T_api_Text,t.cs q l.length c⟩]:=H
 repeat first | with_reducible refine ldI_of (by with_unfolding_all first | exact hpA H 0 rfl rfl | exact Hp.cell H 0 rfl rfl | exact hpB H 0 rfl rfl | exact hpC H 0 rfl rfl) ?_ | with_reducible refine ldS_of (by with_unfolding_all first | exact hpA H 0 rfl rfl | exact Hp.cell H 0 rfl rfl | exact hpB H 0 rfl rfl | exact hpC H 0 rfl rfl) ?_ | with_reducible refine ldP_of (by with_unfolding_all first | exact hpA H 0 rfl rfl | exact Hp.cell H 0 rfl rfl | exact hpB H 0 rfl rfl | exact hpC H 0 rfl rfl) ?_ | with_reducible refine ldB_of (by with_unfolding_all first | exact hpA H 0 rfl rfl | exact Hp.cell H 0 rfl rfl | exact hpB H 0 rfl rfl | exact hpC H 0 rfl rfl) ?_ | with_reducible refine ldT_of (by with_unfolding_all first | exact hpA H 0 rfl rfl | exact Hp.cell H 0 rfl rfl | exact hpB H 0 rfl rfl | exact hpC H 0 rfl rfl) ?_
 refine mayT_ok (t:=t) (hv.ext H.hext) (hs.ext H.hext) (by omega) hsl fun r h' hr e=>⟨_,rfl,?_⟩
 replace H:=H.ext e
 refine bcase_not (fun h1=>?_) fun h1=>?_
 ·have:=hk _ H.hext
  rwa [chkT_bad (fun hh=>by rw [hr.2 hh] at h1; cases h1)] at this
 have hf:=hr.1 h1
 obtain ⟨O,hO,hro,hvw⟩:=hv
 have hOl:O.length=l.length:=by rw [<- hO,List.length_map]
 refine ldS_of (hpA H 0 rfl rfl) ?_
 refine ⟨fun m vs h'=>∃ i:Nat,i+m=l.length/\vs=[.int .i64 ((min (arI (l.take i)) 1048577:Nat):Int), .int .i64 (i:Nat)]/\Hp hB [] h' [⟨r10,true,T_api_Text,t.cs q l.length c⟩],⟨l.length,0,by omega,rfl,H⟩,?_⟩
 clear H
 rintro m h u ar xx ⟨i,him,hxx,H⟩
 injection hxx with hx1 hxx
 injection hxx with hx2 hxx
 injection hx1 with _ hx1
 injection hx2 with _ hx2
 subst ar xx
 refine bcase_dec (fun h5=>?_) fun h5=>?_
 ·obtain ⟨o,ho⟩:∃ o,O[i]? = some o:=⟨_,List.getElem?_eq_getElem (by omega)⟩
  have hli:l[i]? = some o.i:=by rw [<- hO,List.getElem?_map,ho]; rfl
  obtain ⟨a,ha,cell⟩:=ins_at (rdO_ext H.hext hro) ho
  refine needs_of (by omega) (ptr_eq ha ?_)
  rw [Int.toNat_natCast]
  refine ld7v cell ?_
  refine newC_hp H fun r40 h H=>?_
  have H:Hp hB [] h [⟨r10,true,T_api_Text,t.cs q l.length c⟩,⟨r40,true,T_api_Instance,[.int .i64 0, .int .i64 0, .int .i64 0, .bool false, .int .i64 0, .int .i64 0, .slice none 0 0]⟩]:=H
  repeat first | with_reducible refine stA H 1 (by with_unfolding_all exact rfl) (by with_unfolding_all exact rfl) (by with_unfolding_all exact rfl) fun h H=>?_ | with_reducible refine st0 H 1 (by with_unfolding_all exact rfl) (by with_unfolding_all exact rfl) (by with_unfolding_all exact rfl) fun h H=>?_ | with_reducible refine stB H 1 (by with_unfolding_all exact rfl) (by with_unfolding_all exact rfl) (by with_unfolding_all exact rfl) fun h H=>?_
  refine ldI_of (hpB H 1 rfl rfl) (ldI_of (hpB H 1 rfl rfl) ?_)
  obtain ⟨W,X,e1,e2,hWX⟩:=(hf.2.2 _ (List.mem_of_getElem? hli)).nat
  have hA:arI (l.take (i+1))=arI (l.take i)+W*X:=by rw [take_snocG hli,arI_snoc,e1,e2,Int.toNat_natCast,Int.toNat_natCast]
  have hm:o.i.b.w*o.i.b.h=((W*X:Nat):Int):=by rw [e1,e2]; simp
  refine bindI_of (((W*X:Nat):Int)) (by exact i64_at _ _ hm (by omega) (by omega)) ?_
  refine bindI_of (((min (arI (l.take i)) 1048577+W*X:Nat):Int)) (by exact i64_at _ _ (by omega) (by omega) (by omega)) ?_
  refine bindI_of (((min (arI (l.take (i+1))) 1048577:Nat):Int)) (by (rw [hA]; unfold minI; split <;> omega)) ?_
  refine bindI_of (((i+1:Nat):Int)) (by exact i64_at _ _ (by omega) (by omega) (by omega)) ?_
  exact ⟨m-1,by omega,i+1,by omega,rfl,H.take 1⟩
 ·obtain rfl:i=l.length:=by omega
  rw [List.take_of_length_le (Nat.le_refl _)]
  refine bcase_dec (fun h6=>?_) fun h6=>?_
  ·have:=hk _ H.hext
   rwa [chkT_big hf (.inl (by omega))] at this
  refine ldS_of (hpA H 0 rfl rfl) (bcase_dec (fun h7=>?_) fun h7=>?_)
  ·have:=hk _ H.hext
   rwa [chkT_big hf (.inr (.inl (by omega)))] at this
  ·refine bcase_dec (fun h8=>?_) fun h8=>?_
   ·have:=hk _ H.hext
    rwa [chkT_big hf (.inr (.inr (by omega)))] at this
   ·have:=hk _ H.hext
    rwa [chkT_ok hf (by omega)] at this
theorem mayAll14_ok {q:Option Addr} {c:Nat} {l:List Bmp} (hv:BmsV hB q l) (hl:l.length<=1000000000000) (hk:∀ (r:Bool) h',(r=true↔MayL l)->hext hB h'->K (.bool r) h'):CP F_burinref14_mayAll #[.slice q l.length c] hB K Kp:=by
 refine call_burinref14_mayAll ?_
 unfold burinref14_mayAll
 refine ⟨fun m vs h'=>∃ i:Nat,i+m=l.length/\vs=[.int .i64 (i:Nat)]/\MayL (l.take i)/\hext hB h',⟨l.length,0,by omega,rfl,(fun b hb=>by cases hb),hext.refl _⟩,?_⟩
 rintro m h u xx ⟨i,him,hxx,hm,e⟩
 injection hxx with hxx
 injection hxx with _ hxx
 subst xx
 refine bcase_dec (fun h1=>?_) fun h1=>?_
 ·obtain ⟨b,hb⟩:∃ b,l[i]? = some b:=⟨_,List.getElem?_eq_getElem (by omega)⟩
  obtain ⟨a,q1,c1,rfl,hc⟩:=hv i b hb
  have hc:=hc.ext e
  refine needs_of (by omega) (ptr_of (a:=a) ?_)
  rw [Int.toNat_natCast]
  refine ldI_of hc.c0 (ldI_of hc.c1 (ldS_of hc.c2 ?_))
  refine may_ok hc.r1 hc.w1 hc.l1 fun r h' hr e'=>?_
  refine ⟨_,rfl,?_⟩
  refine bcase_not (fun h2=>?_) fun h2=>?_
  ·refine hk _ _ ⟨fun hh=>by (cases hh),fun hh=>?_⟩ (e.trans e')
   have:=hr.2 (hh b (List.mem_of_getElem? hb))
   rw [h2] at this
   exact this
  ·refine bindI_of (((i+1:Nat):Int)) (by exact i64_at _ _ (by omega) (by omega) (by omega)) ?_
   exact ⟨m-1,by omega,i+1,by omega,rfl,hm.take hb (hr.1 h2),e.trans e'⟩
 ·refine hk _ _ ⟨fun _=>?_,fun _=>rfl⟩ e
  rw [List.take_of_length_le (by omega)] at hm
  exact hm
set_option maxHeartbeats 2000000 in
theorem bad14_ok {t:Reg14} {q q2:Option Addr} {c c2:Nat} {sy:List Bmp} {l:List Ins} (hv:InsV hB q l) (hs:BmsV hB q2 sy) (hl:l.length<=1000000) (hsl:sy.length<=1000000000000) (hk:∀ h',hext hB h'->K (.int .i64 (chkT t sy l)) h') :
  CP F_burinref14_Bad #[t.ag q l.length c, .slice q2 sy.length c2] hB K Kp:=by
 refine call_burinref14_Bad ?_
 unfold burinref14_Bad
 have H:=Hp.nil hB []
 refine newC_hp H fun r10 h H=>?_
 have H:Hp hB [] h [⟨r10,true,T_api_Text,t.cs q l.length c⟩]:=H
 have no:∀ {h'},hext hB h'->¬ TForm t sy l->K (.int .i64 140) h':=fun e hf=>by have:=hk _ e; rwa [chkT_bad hf] at this
 refine mayAll14_ok (hs.ext H.hext) hsl fun r h' hr e=>⟨_,rfl,?_⟩
 replace H:=H.ext e
 refine bcase_not (fun h1=>no H.hext fun hh=>by rw [hr.2 hh.1] at h1; cases h1) fun h1=>?_
 have hm:MayL sy:=hr.1 h1
 refine ldI_of (hpA H 0 rfl rfl) (ldI_of (hpA H 0 rfl rfl) (rsize_ok fun b hb=>⟨_,rfl,?_⟩))
 refine bcase_not (fun h2=>no H.hext fun hh=>by rw [hb.2 hh.2.1.1] at h2; cases h2) fun h2=>?_
 have hsz:=hb.1 h2
 refine ldI_of (hpA H 0 rfl rfl) (bcase_dec (fun h3=>no H.hext fun hh=>by have:=hh.2.1.2.1; omega) fun h3=>?_)
 refine ldI_of (hpA H 0 rfl rfl) (bcase_dec (fun h4=>no H.hext fun hh=>by have:=hh.2.1.2.2.1; omega) fun h4=>?_)
 refine ldI_of (hpA H 0 rfl rfl) (bcase_dec (fun h5=>no H.hext fun hh=>by have:=hh.2.1.2.1; omega) fun h5=>?_)
 refine ldI_of (hpA H 0 rfl rfl) (bcase_dec (fun h6=>no H.hext fun hh=>by have:=hh.2.1.2.2.1; omega) fun h6=>?_)
 refine ldI_of (hpA H 0 rfl rfl) (bcase_dec (fun h7=>no H.hext fun hh=>by have:=hh.2.1.2.2.2.1; omega) fun h7=>?_)
 refine ldI_of (hpA H 0 rfl rfl) (bcase_dec (fun h8=>no H.hext fun hh=>by have:=hh.2.1.2.2.2.1; omega) fun h8=>?_)
 refine ldI_of (hpA H 0 rfl rfl) (bcase_dec (fun h9=>no H.hext fun hh=>by have:=hh.2.1.2.2.2.2.1; omega) fun h9=>?_)
 refine ldI_of (hpA H 0 rfl rfl) (bcase_dec (fun h10=>no H.hext fun hh=>by have:=hh.2.1.2.2.2.2.1; omega) fun h10=>?_)
 refine ldI_of (hpA H 0 rfl rfl) (bcase_dec (fun h11=>no H.hext fun hh=>by have:=hh.2.1.2.2.2.2.2; omega) fun h11=>?_)
 refine ldI_of (hpA H 0 rfl rfl) (bcase_dec (fun h12=>no H.hext fun hh=>by have:=hh.2.1.2.2.2.2.2; omega) fun h12=>?_)
 have hreg:RegOk t:=⟨hsz,by omega,by omega,by omega,by omega,by omega⟩
 obtain ⟨O,hO,hro,hvw⟩:=hv
 have hOl:O.length=l.length:=by rw [<- hO,List.length_map]
 refine ⟨fun m vs h'=>∃ i:Nat,i+m=l.length/\vs=[.int .i64 ((arI (l.take i):Nat):Int), .int .i64 (i:Nat)]/\(∀ x∈l.take i,InsOk t.rf sy x)/\Hp hB [] h' [⟨r10,true,T_api_Text,t.cs q l.length c⟩],⟨l.length,0,by omega,rfl,(fun x hx=>by cases hx),H⟩,?_⟩
 clear H
 rintro m h u ar xx ⟨i,him,hxx,hok,H⟩
 injection hxx with hx1 hxx
 injection hxx with hx2 hxx
 injection hx1 with _ hx1
 injection hx2 with _ hx2
 subst ar xx
 refine ldS_of (hpA H 0 rfl rfl) ?_
 refine bcase_dec (fun h5=>?_) fun h5=>?_
 ·obtain ⟨o,ho⟩:∃ o,O[i]? = some o:=⟨_,List.getElem?_eq_getElem (by omega)⟩
  have hli:l[i]? = some o.i:=by rw [<- hO,List.getElem?_map,ho]; rfl
  obtain ⟨a,ha,cell⟩:=ins_at (rdO_ext H.hext hro) ho
  have hnd:0<=((i:Nat):Int)/\((i:Nat):Int)<((l.length:Nat):Int):=by omega
  repeat first | with_reducible refine ldI_of (by with_unfolding_all first | exact hpA H 0 rfl rfl | exact Hp.cell H 0 rfl rfl | exact hpB H 0 rfl rfl | exact hpC H 0 rfl rfl) ?_ | with_reducible refine ldS_of (by with_unfolding_all first | exact hpA H 0 rfl rfl | exact Hp.cell H 0 rfl rfl | exact hpB H 0 rfl rfl | exact hpC H 0 rfl rfl) ?_ | with_reducible refine ldP_of (by with_unfolding_all first | exact hpA H 0 rfl rfl | exact Hp.cell H 0 rfl rfl | exact hpB H 0 rfl rfl | exact hpC H 0 rfl rfl) ?_ | with_reducible refine ldB_of (by with_unfolding_all first | exact hpA H 0 rfl rfl | exact Hp.cell H 0 rfl rfl | exact hpB H 0 rfl rfl | exact hpC H 0 rfl rfl) ?_ | with_reducible refine ldT_of (by with_unfolding_all first | exact hpA H 0 rfl rfl | exact Hp.cell H 0 rfl rfl | exact hpB H 0 rfl rfl | exact hpC H 0 rfl rfl) ?_
  refine needs_of hnd (ptr_eq ha ?_)
  rw [Int.toNat_natCast]
  refine ld7v cell ?_
  refine mayIns_ok (t:=t) (hs.ext H.hext) hm ((hvw o (List.mem_of_getElem? ho)).ext H.hext) fun r h' hr e=>⟨_,rfl,?_⟩
  replace H:=H.ext e
  have cell:∀ j v,o.cs[j]? = some v->hcell h' ((a.add (i*7)).add j)=some v:=fun j v hv=>e.cell (cell j v hv)
  refine bcase_not (fun h6=>no H.hext fun hh=>by rw [hr.2 (hh.2.2 _ (List.mem_of_getElem? hli))] at h6; cases h6) fun h6=>?_
  have hio:=hr.1 h6
  obtain ⟨W,X,e1,e2,hWX⟩:=hio.nat
  refine ldS_of (hpA H 0 rfl rfl) (needs_of hnd (ptr_eq ha ?_))
  rw [add_zero']
  refine ldI_of (cell 4 _ rfl) ?_
  refine ldS_of (hpA H 0 rfl rfl) (needs_of hnd (ptr_eq ha ?_))
  rw [add_addT]
  refine ldI_of (cell 5 _ rfl) ?_
  have hok':∀ x∈l.take (i+1),InsOk t.rf sy x:=fun x hx=>by
   rw [take_snocG hli] at hx
   rcases List.mem_append.1 hx with hx | hx
   ·exact hok x hx
   ·rw [List.mem_singleton.1 hx]; exact hio
  have hal:=arI_le (l.take (i+1)) hok'
  have hil:(l.take (i+1)).length<=1000000:=by rw [List.length_take]; omega
  have hA:arI (l.take (i+1))=arI (l.take i)+W*X:=by rw [take_snocG hli,arI_snoc,e1,e2,Int.toNat_natCast,Int.toNat_natCast]
  have hmz:o.i.b.w*o.i.b.h=((W*X:Nat):Int):=by rw [e1,e2]; simp
  refine bindI_of (((W*X:Nat):Int)) (by exact i64_at _ _ hmz (by omega) (by omega)) ?_
  refine bindI_of (((arI (l.take (i+1)):Nat):Int)) (by exact i64_at _ _ (by omega) (by omega) (by omega)) ?_
  refine bindI_of (((i+1:Nat):Int)) (by exact i64_at _ _ (by omega) (by omega) (by omega)) ?_
  exact ⟨m-1,by omega,i+1,by omega,rfl,hok',H⟩
 ·obtain rfl:i=l.length:=by omega
  rw [List.take_of_length_le (Nat.le_refl _)] at hok ⊢
  have hf:TForm t sy l:=⟨hm,hreg,hok⟩
  refine bcase_dec (fun h6=>?_) fun h6=>?_
  ·have:=hk _ H.hext
   rwa [chkT_big hf (.inl (by omega))] at this
  refine ldS_of (hpA H 0 rfl rfl) (bcase_dec (fun h7=>?_) fun h7=>?_)
  ·have:=hk _ H.hext
   rwa [chkT_big hf (.inr (.inl (by omega)))] at this
  ·refine bcase_dec (fun h8=>?_) fun h8=>?_
   ·have:=hk _ H.hext
    rwa [chkT_big hf (.inr (.inr (by omega)))] at this
   ·have:=hk _ H.hext
    rwa [chkT_ok hf (by omega)] at this
end
end Go.Bm
namespace Go.Bm
open Go Go.Den Go.Den.YtbknfejmdekhpaaGreat
open Go.Ar (idx codL)
theorem flo_div (y:Int) {st:Nat} (h:st<=3):flo y st=y / (2 ^ st:Int):=by
 unfold flo
 rw [Int.fdiv_eq_ediv_of_nonneg]
 rcases (by omega:st=0\/st=1\/st=2\/st=3) with rfl | rfl | rfl | rfl <;> decide
theorem flo_off {y:Int} {st:Nat} (h:st<=3):0<=offT st y/\offT st y<((2 ^ st:Nat):Int)/\flo y st*2 ^ st+offT st y=y:=by
 have e:=flo_div y h
 unfold offT
 rcases (by omega:st=0\/st=1\/st=2\/st=3) with rfl | rfl | rfl | rfl
 all_goals
  simp only [Nat.reducePow,Int.reducePow] at *
  omega
theorem flo_le {y:Int} {st:Nat} (h:st<=3) (hy:-1048576<=y/\y<=1048576):-1048576<=flo y st/\flo y st<=1048576:=by
 have e:=flo_div y h
 rcases (by omega:st=0\/st=1\/st=2\/st=3) with rfl | rfl | rfl | rfl
 all_goals
  simp only [Nat.reducePow,Int.reducePow] at *
  omega
theorem shl_int {x:Int} {i:Nat} (hi:i<=64) {z:Int} (e:x*2 ^ i=z) (h:-9223372036854775808<=z/\z<9223372036854775808):shlI .i64 x (i:Int)=z:=by
 unfold shlI
 rw [Int.toNat_natCast,Nat.min_eq_left (by exact hi),e]
 exact i64_in _ h.1 h.2
theorem pow8 {st:Nat} (h:st<=3):1<=2 ^ st/\2 ^ st<=8:=by
 rcases (by omega:st=0\/st=1\/st=2\/st=3) with rfl | rfl | rfl | rfl <;> decide
theorem shl_flo {y:Int} {st:Nat} (h:st<=3) (hy:-1048576<=y/\y<=1048576):shlI .i64 (flo y st) (st:Int)=flo y st*2 ^ st:=by
 have h1:=flo_off (y:=y) h
 have h2:=pow8 h
 exact shl_int (by omega) rfl (by omega)
section
variable {hB h:Heap} {K:VK} {Kp:PK}
theorem tneed_ok (hk:K (.tuple #[]) h):CP F_text_need #[.int .i64 0] h K Kp:=by
 refine call_text_need ?_
 unfold text_need
 refine bcase_false (by rfl) ?_
 exact hk
theorem twidth_ok {n:Nat} (hn:n<=4096) (hk:K (.int .i64 (wid n:Nat)) h):CP F_text_width #[.int .i64 (n:Nat)] h K Kp:=by
 refine call_text_width ?_
 unfold text_width
 refine ⟨fun m vs h'=>∃ w:Nat,w+m=12/\h'=h/\vs=[.int .i64 (w:Nat)]/\wdF m n w=wid n,⟨12,0,rfl,rfl,rfl,rfl⟩,?_⟩
 rintro m h' u xw ⟨w,hw,rfl,hxx,he⟩
 injection hxx with hx1 hxx
 injection hx1 with _ hx1
 subst xw
 have hp:=pow12 (w:=w) (by omega)
 refine needs_of (by omega) (bindI_of ((2 ^ w:Nat):Int) (by exact shl1_of (by omega)) ?_)
 refine bcase_dec (fun h1=>?_) fun h1=>?_
 ·have hw12:w≠12:=fun hh=>by
   subst hh
   have:(2:Nat) ^ 12=4096:=by decide
   omega
  obtain ⟨m,rfl⟩:∃ k,m=k+1:=⟨m-1,by omega⟩
  unfold wdF at he
  rw [if_pos (by omega)] at he
  refine bindI_of ((w+1:Nat):Int) (by exact i64_at _ _ (by omega) (by omega) (by omega)) ?_
  exact ⟨m,by omega,w+1,by omega,rfl,rfl,he⟩
 ·have e:w=wid n:=by
   rw [<- he]
   cases m with
   | zero=>rfl
   | succ m =>
    unfold wdF
    rw [if_neg (by omega)]
  rw [<- e] at hk
  exact hk
def cdE (rc p:Nat) (t:Reg14) (q:Option Addr) (n c:Nat) (q2:Option Addr) (ns c2:Nat):Ent:=⟨rc,true,T_text_coder,[.pointer (at0 p), .int .i64 t.x, .int .i64 t.y, .int .i64 t.w, .int .i64 t.h, .int .i64 t.op, .bool t.rf, .int .i64 t.df, .int .i64 t.st, .slice q n c, .slice q2 ns c2]⟩
variable {rc p qq r:Nat} {t:Reg14} {q q2:Option Addr} {n c c2:Nat} {sy:List Bmp} {L:List (Nat × Nat)} {rest:List Value} {X:List Ent}
theorem cwput_ok {Y:List Ent} (H:Hp hB [] h (Y++codL p qq r (cdL 14337 L) rest)) (hL:L.length+64<=16777216) {base v:Int} {nn:Bool} (hf:0<=base/\base+(512:Nat)<=14337) (hr:rightW v nn) (hv:-9223372036854775808<=v/\v<9223372036854775808)
  (hk:∀ r' rest' h',Hp hB [] h' (Y++codL p qq r' (cdL 14337 (L++dsWh 14337 base v nn)) rest')->K (.int .i64 0) h'):CP F_whole_Put #[.pointer (at0 p), .int .i64 base, .agg #[.int .i64 v, .bool nn]] h K Kp:=by
 refine wputL_ok (m:=14337) (Hp.giveS H) hL (by omega) (by omega) hf hr hv fun r' rest' h' H'=>?_
 exact hk r' rest' h' (Hp.putS H rfl H' rfl)
theorem cput_ok (H:Hp hB [] h ((cdE rc p t q n c q2 sy.length c2::X)++codL p qq r (cdL 14337 L) rest)) (hL:L.length+64<=16777216) {base v:Int} (hf:0<=base/\base+(512:Nat)<=14337) (hr:-2147483648<=v/\v<=2147483648)
  (hk:∀ r' rest' h',Hp hB [] h' ((cdE rc p t q n c q2 sy.length c2::X)++codL p qq r' (cdL 14337 (L++dsWh 14337 base v false)) rest')->K (.tuple #[]) h'):CP F_text_coder_put #[.pointer (some ⟨rc,0,none⟩), .int .i64 base, .int .i64 v] h K Kp:=by
 refine call_text_coder_put ?_
 unfold text_coder_put
 refine ptr_of (a:=⟨rc,0,none⟩) (ldP_of (hpA H 0 rfl rfl) ?_)
 refine cwput_ok H hL hf (.inr hr) (by omega) fun r' rest' h' H=>⟨_,rfl,?_⟩
 exact tneed_ok (hk r' rest' h' H)
theorem cnone_ok {Y:List Ent} (H:Hp hB [] h (Y++codL p qq r (cdL 14337 L) rest)) (hL:L.length+64<=16777216)
  (hk:∀ r' rest' h',Hp hB [] h' (Y++codL p qq r' (cdL 14337 (L++noneT)) rest')->K (.int .i64 0) h'):CP F_whole_Put #[.pointer (at0 p), .int .i64 1024, .agg #[.int .i64 0, .bool true]] h K Kp :=
 cwput_ok H hL (by omega) (.inl rfl) (by omega) hk
theorem cbit_ok {Y:List Ent} (H:Hp hB [] h (Y++codL p qq r (cdL 14337 L) rest)) (hL:L.length+64<=16777216) {ctx:Int} {bit:Nat} (hb:bit<=1)
  (hk:∀ r' rest' h',Hp hB [] h' (Y++codL p qq r' (cdL 14337 (L++[(idx ctx 14337,bit)])) rest')->K (.int .i64 0) h'):CP F_arith_Coder_Put #[.pointer (at0 p), .int .i64 ctx, .int .i64 (bit:Nat)] h K Kp:=by
 have hco:=cdL_ok (m:=14337) (L:=L) (by omega)
 refine Go.Ar.put_ok (ctx:=ctx) (bit:=bit) (Hp.giveS H) hco.wf hco.done (by rw [hco.n]; omega) (by rw [hco.len]; decide) (by rw [hco.len]; decide) hb fun r' rest' h' H'=>?_
 have H:=Hp.putS H rfl H' rfl
 rw [hco.len,<- cdL_snoc (m:=14337) L (idx ctx 14337,bit)] at H
 exact hk r' rest' h' H
theorem cid_ok {Y:List Ent} (H:Hp hB [] h (Y++codL p qq r (cdL 14337 L) rest)) (hL:L.length+64<=16777216) {w:Nat} (hw:w<=12) {id:Int} (hid:0<=id/\id<((2 ^ w:Nat):Int))
  (hk:∀ r' rest' h',Hp hB [] h' (Y++codL p qq r' (cdL 14337 (L++dsId 14337 2048 w id.toNat)) rest')->K (.int .i64 0) h'):CP F_whole_PutID #[.pointer (at0 p), .int .i64 2048, .int .i64 (w:Nat), .int .i64 id] h K Kp:=by
 have hco:=cdL_ok (m:=14337) (L:=L) (by omega)
 have hp:=pow12 hw
 have hfit:IdFit 2048 w 14337:=⟨by omega,by omega⟩
 refine wputid_ok (n0:=L.length) (m:=14337) (Hp.giveS H) hco (by omega) (by omega) (by omega) (fun hn=>absurd ⟨by omega,by omega⟩ hn) (fun w' e hw' hn=>?_) (fun w' e hw' _ hn=>?_) fun w' x r' rest' h' e hw' _ e2 hx H'=>?_
 ·obtain rfl:w=w':=by omega
  exact absurd hfit hn
 ·obtain rfl:w=w':=by omega
  exact absurd hid hn
 ·obtain rfl:w=w':=by omega
  subst e2
  have H:=Hp.putS H rfl H' rfl
  rw [run_id] at H
  rw [Int.toNat_natCast] at hk
  exact hk r' rest' h' H
theorem cref_ok {Y:List Ent} (H:Hp hB [] h (Y++codL p qq r (cdL 14337 L) rest)) {b s:Bmp} (hb:b.may) (hs:s.may) {q1 q3:Option Addr} {c1 c3:Nat} (hr1:rdO h q1 (b.ws.length*1) (u64s b.ws)) (hw1:W64 b.ws) (hl1:b.ws.length<140737488351300) (hr2:rdO h q3 (s.ws.length*1) (u64s s.ws)) (hw2:W64 s.ws) (hl2:s.ws.length<140737488351300)
  (hL:L.length+b.h.toNat*b.w.toNat<=16777216)
  (hk:∀ r' rest' h',Hp hB [] h' (Y++codL p qq r' (cdL 14337 (L++dsF (getP b.ws b.w.toNat b.h.toNat) (getP s.ws s.w.toNat s.h.toNat) b.w.toNat 14337 0 0 6145 (b.h.toNat*b.w.toNat))) rest')->K (.int .i64 0) h') :
  CP F_refine_Put #[.pointer (at0 p), .int .i64 6145, .agg #[.int .i64 b.w, .int .i64 b.h, .slice q1 b.ws.length c1], .agg #[.int .i64 s.w, .int .i64 s.h, .slice q3 s.ws.length c3], .int .i64 0, .int .i64 0] h K Kp:=by
 have hco:=cdL_ok (m:=14337) (L:=L) (by omega)
 refine rfPut_ok (m:=14337) (n0:=L.length) (Hp.giveS H) hco (by omega) (by omega) (base:=6145) (by omega) hr1 hw1 hl1 (fun h' e=>rdO_ext e hr2) hw2 hl2 (fun _=>hL) (fun h' hn _=>absurd ⟨hb,hs⟩ hn) (fun h' _ hn _=>absurd ⟨by omega,by omega⟩ hn) (fun h' _ _ hn _=>absurd (by omega) hn) fun s' r' rest' G h' _ _ _ hrun _ H'=>?_
 have H:=Hp.putS H rfl H' rfl
 unfold rfRun at hrun
 rw [enc_f] at hrun
 injection hrun with hrun
 injection hrun with _ hrun
 subst hrun
 exact hk r' rest' h' H
set_option maxHeartbeats 4000000 in
theorem cone_ok {o:OwI} (H:Hp hB [] h ((cdE rc p t q n c q2 sy.length c2::X)++codL p qq r (cdL 14337 L) rest)) (hXw:X.all Ent.w=true) (hs:BmsV hB q2 sy) (hm:MayL sy) (hsl:sy.length<=4096) (hst:0<=t.st/\t.st<=3) (hi:InsOk t.rf sy o.i)
  (hov:∀ {h S},Hp hB [] h ((cdE rc p t q n c q2 sy.length c2::X)++S)->o.Vw h) (hL:L.length+52+o.i.b.w.toNat*o.i.b.h.toNat+64<=16777216)
  (hk:∀ r' rest' h',Hp hB [] h' ((cdE rc p t q n c q2 sy.length c2::X)++codL p qq r' (cdL 14337 (L++insD t sy o.i)) rest')->K (.tuple #[]) h') :
  CP F_text_coder_one #[.pointer (some ⟨rc,0,none⟩),o.ag] h K Kp:=by
 refine call_text_coder_one ?_
 unfold text_coder_one
 obtain ⟨ST,hST⟩:∃ ST:Nat,t.st=(ST:Int):=⟨t.st.toNat,by omega⟩
 have hSTn:t.st.toNat=ST:=by omega
 have hSTle:ST<=3:=by omega
 have hoff:=flo_off (y:=o.i.y) hSTle
 have hp8:=pow8 hSTle
 have hwid:=wid_ok hsl
 refine newC_hp H fun r8 h H=>?_
 have H:=H.rot
 have H:Hp hB [] h ((⟨r8,true,T_api_Instance,o.cs⟩::cdE rc p t q n c q2 sy.length c2::X)++codL p qq r (cdL 14337 L) rest):=H
 have dr:∀ {h S},Hp hB [] h ((⟨r8,true,T_api_Instance,o.cs⟩::cdE rc p t q n c q2 sy.length c2::X)++S)->Hp hB [] h ((cdE rc p t q n c q2 sy.length c2::X)++S):=fun {h S} H=>Hp.suf (X:=[⟨r8,true,T_api_Instance,o.cs⟩]) H
 obtain ⟨A1,hA1⟩:∃ A1,A1=if 0<t.st then dsWh 14337 1536 (offT ST o.i.y) false else []:=⟨_,rfl⟩
 have hA1l:A1.length<=39:=by
  rw [hA1]
  split
  ·exact dsWh_len _ _ _ _
  ·exact Nat.zero_le _
 refine ⟨fun _ h'=>∃ r' rest',Hp hB [] h' ((⟨r8,true,T_api_Instance,o.cs⟩::cdE rc p t q n c q2 sy.length c2::X)++codL p qq r' (cdL 14337 (L++A1)) rest'),?_,?_⟩
 ·refine ptr_of (a:=⟨rc,0,none⟩) (ldI_of (hpB H 1 rfl rfl) ?_)
  refine bcase_dec (fun h1=>?_) fun h1=>?_
  ·refine ptr_of (a:=⟨rc,0,none⟩) (ptr_of (a:=⟨rc,0,none⟩) ?_)
   refine ldI_of (hpA H 0 rfl rfl) (ldI_of (hpA H 0 rfl rfl) (ldI_of (hpB H 1 rfl rfl) (needs_of (by omega) ?_)))
   rw [hST]
   refine bindI_of _ (shr_flo (by omega)) ?_
   refine ldI_of (hpB H 1 rfl rfl) (needs_of (by omega) ?_)
   rw [hST]
   refine bindI_of _ (shl_flo hSTle hi.2.2.1) ?_
   refine bindI_of (offT ST o.i.y) (by exact i64_in _ (by show _<=offT ST o.i.y; omega) (by show offT ST o.i.y<_; omega)) ?_
   have H:=H.perm (List.Perm.swap _ _ _)
   refine cput_ok (X:=⟨r8,true,T_api_Instance,o.cs⟩::X) H (by omega) (by omega) (by omega) fun r' rest' h' H=>?_
   refine ⟨r',rest',?_⟩
   rw [hA1,if_pos (by omega)]
   exact H.perm (List.Perm.swap _ _ _)
  ·rw [hA1,if_neg (by omega),List.append_nil]
   exact ⟨r,rest,H⟩
 clear H
 rintro h u ⟨r,rest,H⟩
 refine ptr_of (a:=⟨rc,0,none⟩) (ptr_of (a:=⟨rc,0,none⟩) ?_)
 refine ldP_of (hpA H 1 rfl rfl) (ldS_of (hpA H 1 rfl rfl) (ldI_of (hpA H 0 rfl rfl) ?_))
 refine twidth_ok hsl ⟨_,rfl,hext.refl _,?_⟩
 have hid:=hi.1
 refine cid_ok H (by rw [List.length_append]; omega) hwid.2 (by omega) fun r rest h H=>⟨_,rfl,tneed_ok ?_⟩
 have hinsD:insD t sy o.i=A1++(dsId 14337 2048 (wid sy.length) o.i.s.toNat++flgT t.rf sy o.i):=by
  unfold insD
  rw [hA1,hSTn]
 have hidl:=dsId_len 14337 2048 (wid sy.length) o.i.s.toNat
 obtain ⟨A2,hA2⟩:∃ A2,A2=(L++A1)++dsId 14337 2048 (wid sy.length) o.i.s.toNat:=⟨_,rfl⟩
 have hA2l:A2.length<=L.length+51:=by rw [hA2,List.length_append,List.length_append,hidl]; omega
 have hfin:∀ Z,A2++Z=L++(A1++(dsId 14337 2048 (wid sy.length) o.i.s.toNat++Z)):=fun Z=>by rw [hA2]; simp only [List.append_assoc]
 rw [<- hA2] at H
 refine ptr_of (a:=⟨rc,0,none⟩) (ldB_of (hpB H 1 rfl rfl) ?_)
 refine bcase_not (fun h1=>?_) fun h1=>?_
 ·refine hk r rest h ?_
  rw [hinsD,<- hfin]
  unfold flgT
  rw [if_neg (by rw [h1]; decide),List.append_nil]
  exact dr H
 refine ldB_of (hpA H 0 rfl rfl) (bcase_not (fun h2=>?_) fun h2=>?_)
 ·refine ptr_of (a:=⟨rc,0,none⟩) (ldP_of (hpA H 1 rfl rfl) ?_)
  refine cbit_ok (bit:=0) H (by omega) (by omega) fun r rest h H=>⟨_,rfl,tneed_ok ?_⟩
  refine hk r rest h ?_
  rw [hinsD,<- hfin]
  unfold flgT
  rw [if_pos h1,if_neg (by rw [h2]; decide)]
  exact dr H
 ·refine ptr_of (a:=⟨rc,0,none⟩) (ldP_of (hpA H 1 rfl rfl) ?_)
  refine cbit_ok (bit:=1) H (by omega) (by omega) fun r rest h H=>⟨_,rfl,tneed_ok ?_⟩
  refine ptr_of (a:=⟨rc,0,none⟩) (ptr_of (a:=⟨rc,0,none⟩) (ldP_of (hpA H 1 rfl rfl) ?_))
  refine ldI_of (hpB H 0 rfl rfl) (ldI_of (hpB H 0 rfl rfl) (ldS_of (hpB H 0 rfl rfl) (ldS_of (hpA H 1 rfl rfl) (ldI_of (hpA H 0 rfl rfl) (needs_of (by omega) ?_)))))
  obtain ⟨a,q3,c3,ha,hc0⟩:=hs _ _ (sym_at hi)
  have hc:=hc0.ext H.hext
  refine ptr_eq ha ?_
  refine ldI_of hc.c0 (ldI_of hc.c1 (ldS_of hc.c2 ?_))
  have hmay:=hi.2.2.2.2 h2
  have hov:=hov (dr H)
  refine cref_ok (b:=o.i.b) (s:=symOf sy o.i.s) H hmay.2.1 (hm _ (List.mem_of_getElem? (sym_at hi))) hov.r hov.w hov.l hc.r1 hc.w1 hc.l1 (by rw [List.length_append,List.length_singleton,Nat.mul_comm]; omega) fun r rest h H=>⟨_,rfl,tneed_ok ?_⟩
  refine hk r rest h ?_
  rw [hinsD,<- hfin]
  unfold flgT
  rw [if_pos h1,if_pos h2]
  unfold refT
  rw [<- List.append_assoc]
  exact dr H
end
end Go.Bm
namespace Go.Bm
open Go Go.Den Go.Den.YtbknfejmdekhpaaGreat
open Go.Ar (codL)
theorem InsOk.ws {rf:Bool} {sy:List Bmp} {i:Ins} (h:InsOk rf sy i):i.b.ws.length<=1048576:=by
 cases hd:i.d with
 | false=>rw [(h.2.2.2.1 hd).2.2]; exact Nat.zero_le _
 | true =>
  have hm:=(h.2.2.2.2 hd).2.1
  obtain ⟨W,X,e1,e2,hW1,hW2,hX1,hX2,hWX⟩:=size_nat hm.1
  have:=hm.2.1
  rw [e1,e2,Int.toNat_natCast,Int.toNat_natCast] at this
  rw [this]
  exact hw_le hW1 hWX
theorem stOf_reg {t:Reg14} (h:0<=t.st/\t.st<=3):stOf t.st=t.st.toNat:=by
 unfold stOf
 rw [if_neg (by omega),if_neg (by omega)]
theorem drop_get {α:Type} {l:List α} {k:Nat} {x:α} (h:l[k]? = some x):l.drop k=x::l.drop (k+1):=by
 obtain ⟨h1,rfl⟩:=List.getElem?_eq_some_iff.1 h
 exact List.drop_eq_getElem_cons h1
section
variable {hB h:Heap} {K:VK} {Kp:PK}
variable {rc p qq r:Nat} {t:Reg14} {q q2:Option Addr} {n c c2:Nat} {sy:List Bmp} {l:List Ins} {rest:List Value} {X:List Ent}
set_option maxHeartbeats 8000000 in
theorem cinst_ok (H:Hp hB [] h ((cdE rc p t q l.length c q2 sy.length c2::X)++codL p qq r (cdL 14337 []) rest)) (hXw:X.all Ent.w=true) (hv:InsV hB q l) (hs:BmsV hB q2 sy) (hf:TForm t sy l) (hsl:sy.length<=4096) (hl:l.length<=16384) (har:arI l<=1048576)
  (hk:∀ r' rest' h',Hp hB [] h' ((cdE rc p t q l.length c q2 sy.length c2::X)++codL p qq r' (cdL 14337 (allD t sy l)) rest')->K (.tuple #[]) h') :
  CP F_text_coder_all #[.pointer (some ⟨rc,0,none⟩)] h K Kp:=by
 refine call_text_coder_all ?_
 unfold text_coder_all
 have hst:=hf.2.1.2.2.2.2.2
 have hstl:t.st.toNat<=3:=by omega
 have hstI:((t.st.toNat:Nat):Int)=t.st:=by omega
 have hTl:=allD_len (t:=t) hf.2.2 hsl hl har
 refine ptr_of (a:=⟨rc,0,none⟩) ?_
 refine ldI_of (hpB H 0 rfl rfl) (ldI_of (hpB H 0 rfl rfl) (ldI_of (hpB H 0 rfl rfl) (ldI_of (hpB H 0 rfl rfl) (ldI_of (hpB H 0 rfl rfl) (ldB_of (hpB H 0 rfl rfl) (ldI_of (hpB H 0 rfl rfl) (ldI_of (hpB H 0 rfl rfl) (ldS_of (hpB H 0 rfl rfl) ?_))))))))
 refine sortedP_ok (t:=t) (hv.ext H.hext) (by omega) (fun i hi=>Nat.le_trans (hf.2.2 i hi).ws (by decide)) fun R q' c' h' hL H'=>?_
 refine ⟨_,_,_,rfl,?_⟩
 replace H:=H.join H' hL.w
 clear H'
 rw [stOf_reg hst] at hL
 have hRw:=hL.w
 obtain ⟨O,E,h1,h2,h3,rfl⟩:=hL
 obtain ⟨S,hS⟩:∃ S,S=srtI t.st.toNat l:=⟨_,rfl⟩
 rw [<- hS] at h2 h3
 have hSl:S.length=l.length:=by rw [hS]; exact srtI_len _ _
 have hSok:∀ i∈S,InsOk t.rf sy i:=fun i hi=>hf.2.2 i (srtI_mem.1 (hS ▸ hi))
 rw [<- hSl]
 rw [<- hSl] at H
 obtain ⟨T,hT⟩:∃ T,T=allD t sy l:=⟨_,rfl⟩
 have hT0:stpD t sy S 0 0 0 false=T:=by rw [hT,hS]; rfl
 rw [<- hT] at hTl hk
 obtain ⟨Y,hY⟩:∃ Y,Y=X++(dsI O++E):=⟨_,rfl⟩
 have hYw:Y.all Ent.w=true:=by rw [hY,List.all_append,hXw,hRw]; rfl
 have H:Hp hB [] h' ((cdE rc p t q S.length c q2 sy.length c2::Y)++codL p qq r (cdL 14337 []) rest):=by
  rw [hY]
  have H:Hp hB [] h' ((cdE rc p t q S.length c q2 sy.length c2::X)++(codL p qq r (cdL 14337 []) rest++(dsI O++E))):=H.asc
  have H:=Hp.swap H.asc'
  exact H.as (by simp only [List.cons_append,List.append_assoc])
 have rdS:∀ {h Z},Hp hB [] h ((cdE rc p t q S.length c q2 sy.length c2::Y)++Z)->rdO h q' (S.length*7) (csI O):=fun {h Z} H=>Slot.rdO' h3 H fun e he=>by
  rw [hY]
  exact List.mem_append_left _ (List.mem_cons_of_mem _ (List.mem_append_right _ (List.mem_append_right _ he)))
 have rdV:∀ {o:OwI} {h Z},o∈O->Hp hB [] h ((cdE rc p t q S.length c q2 sy.length c2::Y)++Z)->o.Vw h:=fun {o h Z} ho H=>⟨Slot.rdO' (h1 o ho).s H fun e he=>by
  rw [hY]
  exact List.mem_append_left _ (List.mem_cons_of_mem _ (List.mem_append_right _ (List.mem_append_left _ (dsI_mem ho e he)))),(h1 o ho).w,(h1 o ho).l⟩
 have hOl:O.length=S.length:=by rw [<- h2,List.length_map]
 refine ⟨fun m vs h'=>∃ (k:Nat) (ah fi x:Int) (A:List (Nat × Nat)) (r:Nat) (rest:List Value),k+m=S.length/\vs=[.int .i64 ah, .int .i64 fi, .int .i64 (k:Nat)]/\(-1048576<=ah/\ah<=1048576)/\(-1048576<=fi/\fi<=1048576)/\A++stpD t sy (S.drop k) ah fi x false=T /\
   Hp hB [] h' ((cdE rc p t q S.length c q2 sy.length c2::Y)++codL p qq r (cdL 14337 A) rest),⟨S.length,0,0,0,0,[],r,rest,by omega,rfl,by omega,by omega,hT0,H⟩,?_⟩
 clear H hT0
 rintro m h u xa xf xk ⟨k,ah,fi,x,A,r,rest,hkm,hxx,hah,hfi,hA,H⟩
 injection hxx with hx1 hxx
 injection hxx with hx2 hxx
 injection hxx with hx3 hxx
 injection hx1 with _ hx1
 injection hx2 with _ hx2
 injection hx3 with _ hx3
 subst xa xf xk
 have hAT:A.length<=T.length:=by rw [<- hA,List.length_append]; omega
 refine bcase_dec (fun h5=>?_) fun h5=>?_
 rotate_left
 ·obtain rfl:k=S.length:=by omega
  rw [List.drop_length] at hA
  unfold stpD at hA
  rw [if_neg (by decide),List.append_nil] at hA
  subst hA
  refine hk r rest h ?_
  rw [<- hSl]
  rw [hY] at H
  have H:=H.as (L':=((cdE rc p t q S.length c q2 sy.length c2::X)++(dsI O++E))++codL p qq r (cdL 14337 A) rest) (by simp only [List.cons_append,List.append_assoc])
  have H:=Hp.swap H
  exact Hp.pre H
 obtain ⟨o,ho⟩:∃ o,O[k]? = some o:=⟨_,List.getElem?_eq_getElem (by omega)⟩
 have hoS:S[k]? = some o.i:=by rw [<- h2,List.getElem?_map,ho]; rfl
 have hio:=hSok _ (List.mem_of_getElem? hoS)
 have hfl:=flo_le hstl hio.2.2.1
 have hxb:=hio.2.1
 rw [drop_get hoS] at hA
 unfold stpD at hA
 rw [if_neg (fun hh=>by cases hh.1),if_neg (by decide),List.nil_append] at hA
 unfold begD at hA
 obtain ⟨a,ha,cell⟩:=ins_at (rdS H) ho
 refine needs_of (by omega) (ptr_eq ha (ptr_of (a:=⟨rc,0,none⟩) ?_))
 rw [Int.toNat_natCast]
 refine ldI_of (cell 1 _ rfl) (ldI_of (hpB H 0 rfl rfl) (needs_of (by omega) ?_))
 rw [<- hstI]
 refine bindI_of _ (shr_flo (by omega)) ?_
 obtain ⟨s,hs'⟩:∃ s,s=flo o.i.y t.st.toNat:=⟨_,rfl⟩
 rw [<- hs'] at hA hfl ⊢
 refine bindI_of ((s-ah)) (by exact i64_in _ (by omega) (by omega)) ?_
 refine cput_ok H (by omega) (by omega) (by omega) fun r rest h H=>?_
 obtain ⟨a',ha',cell⟩:=ins_at (rdS H) ho
 refine needs_of (by omega) (ptr_eq ha' ?_)
 refine ldI_of (cell 0 _ rfl) ?_
 refine bindI_of ((o.i.x-fi)) (by exact i64_in _ (by omega) (by omega)) ?_
 have hw1:=dsWh_len 14337 0 (s-ah) false
 have hw2:=dsWh_len 14337 512 (o.i.x-fi) false
 refine cput_ok H (by rw [List.length_append]; omega) (by omega) (by omega) fun r rest h H=>?_
 obtain ⟨a',ha',cell⟩:=ins_at (rdS H) ho
 refine needs_of (by omega) (ptr_eq ha' ?_)
 refine ldI_of (cell 0 _ rfl) ?_
 obtain ⟨fx,hfx⟩:∃ fx,fx=o.i.x:=⟨_,rfl⟩
 rw [<- hfx] at hA H hxb hw2 ⊢
 refine ⟨fun m' vs h'=>∃ (k:Nat) (i:Ins) (A:List (Nat × Nat)) (r:Nat) (rest:List Value),k+m'=S.length/\S.length-k<=m/\vs=[.int .i64 (k:Nat)]/\S[k]? = some i/\flo i.y t.st.toNat=s/\A++(insD t sy i++stpD t sy (S.drop (k+1)) s fx i.x true)=T /\
   Hp hB [] h' ((cdE rc p t q S.length c q2 sy.length c2::Y)++codL p qq r (cdL 14337 A) rest),⟨S.length-k,k,o.i,_,r,rest,by omega,by omega,rfl,hoS,hs'.symm,by rw [<- hA,<- hfx]; simp only [List.append_assoc],H⟩,?_⟩
 clear H hA hw1 hw2 hAT
 rintro m' h u xk ⟨k',i,A,r,rest,hkm',hkm2,hxx,hi,hsi,hA,H⟩
 injection hxx with hx1 hxx
 injection hx1 with _ hx1
 subst xk
 have hk':k'<S.length:=(List.getElem?_eq_some_iff.1 hi).1
 obtain ⟨o',ho'⟩:∃ o,O[k']? = some o:=⟨_,List.getElem?_eq_getElem (by omega)⟩
 have hoi:o'.i=i:=by
  have:S[k']? = some o'.i:=by rw [<- h2,List.getElem?_map,ho']; rfl
  rw [hi] at this
  injection this with this
  exact this.symm
 subst hoi
 have hio':=hSok _ (List.mem_of_getElem? hi)
 have hAl:A.length+(insD t sy o'.i).length<=T.length:=by rw [<- hA,List.length_append,List.length_append]; omega
 have hpx:o'.i.b.w.toNat*o'.i.b.h.toNat<=1048576:=by
  obtain ⟨W,XX,e1,e2,hWX⟩:=hio'.nat
  rw [e1,e2,Int.toNat_natCast,Int.toNat_natCast]
  exact hWX
 obtain ⟨a,ha,cell⟩:=ins_at (rdS H) ho'
 refine needs_of (by omega) (ptr_eq ha ?_)
 rw [Int.toNat_natCast]
 refine ld7v cell ?_
 refine cone_ok (X:=Y) H hYw hs hf.1 hsl hst hio' (fun H=>rdV (List.mem_of_getElem? ho') H) (by omega) fun r rest h H=>?_
 obtain ⟨A',hA'⟩:∃ A',A'=A++insD t sy o'.i:=⟨_,rfl⟩
 rw [<- hA'] at H
 rw [<- List.append_assoc,<- hA'] at hA
 have hA'l:A'.length<=T.length:=by rw [<- hA,List.length_append]; omega
 clear hAl
 refine bindI_of (((k'+1:Nat):Int)) (by exact i64_at _ _ (by omega) (by omega) (by omega)) ?_
 have fin:∀ {h r rest},(∀ i,(S.drop (k'+1))[0]? = some i->flo i.y t.st.toNat≠s)->Hp hB [] h ((cdE rc p t q S.length c q2 sy.length c2::Y)++codL p qq r (cdL 14337 (A'++noneT)) rest) ->
   ∃ m_15,m_15<m/\∃ (k:Nat) (ah fi x:Int) (A:List (Nat × Nat)) (r:Nat) (rest:List Value),k+m_15=S.length/\[Value.int .i64 s, .int .i64 fx, .int .i64 ((k'+1:Nat):Int)]=[Value.int .i64 ah, .int .i64 fi, .int .i64 (k:Nat)]/\(-1048576<=ah/\ah<=1048576)/\(-1048576<=fi/\fi<=1048576)/\A++stpD t sy (S.drop k) ah fi x false=T /\
   Hp hB [] h ((cdE rc p t q S.length c q2 sy.length c2::Y)++codL p qq r (cdL 14337 A) rest):=fun {h r rest} hcl H=>by
  refine ⟨S.length-(k'+1),by omega,k'+1,s,fx,o'.i.x,A'++noneT,r,rest,by omega,rfl,by omega,by omega,?_,H⟩
  rw [List.append_assoc,<- stpD_close hcl]
  exact hA
 refine bcase_eq (fun h6=>?_) fun h6=>?_
 ·refine ptr_of (a:=⟨rc,0,none⟩) (ldP_of (hpA H 0 rfl rfl) ?_)
  refine cnone_ok H (by omega) fun r rest h H=>⟨_,rfl,tneed_ok ?_⟩
  refine fin (fun i hh=>?_) H
  rw [List.drop_of_length_le (by omega)] at hh
  cases hh
 obtain ⟨o2,ho2⟩:∃ o,O[k'+1]? = some o:=⟨_,List.getElem?_eq_getElem (by omega)⟩
 have hoS2:S[k'+1]? = some o2.i:=by rw [<- h2,List.getElem?_map,ho2]; rfl
 have hd2:=drop_get hoS2
 have hio2:=hSok _ (List.mem_of_getElem? hoS2)
 obtain ⟨a2,ha2,cell2⟩:=ins_at (rdS H) ho2
 refine needs_of (by omega) (ptr_eq ha2 (ptr_of (a:=⟨rc,0,none⟩) ?_))
 rw [Int.toNat_natCast]
 refine ldI_of (cell2 1 _ rfl) (ldI_of (hpB H 0 rfl rfl) (needs_of (by omega) ?_))
 rw [<- hstI]
 refine bindI_of _ (shr_flo (by omega)) ?_
 refine bcase_ne (fun h7=>?_) fun h7=>?_
 ·refine ptr_of (a:=⟨rc,0,none⟩) (ldP_of (hpA H 0 rfl rfl) ?_)
  refine cnone_ok H (by omega) fun r rest h H=>⟨_,rfl,tneed_ok ?_⟩
  refine fin (fun i hh=>?_) H
  rw [hd2] at hh
  injection hh with hh
  subst hh
  exact h7
 obtain ⟨a1,ha1,cell1⟩:=ins_at (rdS H) ho'
 have hb1:=hio'.2.1
 have hb2:=hio2.2.1
 refine needs_of (by omega) (ptr_eq ha2 ?_)
 refine bindI_of (((k':Nat):Int)) (by exact i64_at _ _ (by omega) (by omega) (by omega)) ?_
 refine needs_of (by omega) (ptr_eq ha1 ?_)
 rw [Int.toNat_natCast,Int.toNat_natCast]
 refine ldI_of (cell2 0 _ rfl) (ldI_of (cell1 0 _ rfl) ?_)
 refine bindI_of ((o2.i.x-o'.i.x)) (by exact i64_in _ (by omega) (by omega)) ?_
 refine cput_ok H (by omega) (by omega) (by omega) fun r rest h H=>?_
 refine ⟨m'-1,by omega,k'+1,o2.i,_,r,rest,by omega,by omega,rfl,hoS2,h7,?_,H⟩
 rw [<- hA,hd2,List.append_assoc]
 congr 1
 rw [stpD,if_pos ⟨rfl,h7⟩]
end
end Go.Bm
namespace Go.Bm
open Go Go.Den Go.Den.YtbknfejmdekhpaaGreat
open Go.Ar (bytesM flushM codL u8s u8s_length u8s_cells)
theorem grps_len:∀ l:List Nat,(l.flatMap grp).length<=11*l.length
 | []=>Nat.zero_le _
 | x::l=>by
  have h1:=grps_len l
  have h2:=(grp_len x).2
  rw [List.flatMap_cons,List.length_append,List.length_cons]
  omega
def numsT (t:Reg14):List Nat:=[t.x.toNat,t.y.toNat,t.w.toNat,t.h.toNat]
theorem headT_eq (t:Reg14) (n:Nat):headT t n=((numsT t).flatMap grp++[howT t])++grp n:=by
 unfold headT numsT
 simp only [List.flatMap_cons,List.flatMap_nil,List.append_nil,List.append_assoc]
theorem headT_len (t:Reg14) (n:Nat):(headT t n).length<=56:=by
 have h1:=grps_len (numsT t)
 have h2:=(grp_len n).2
 have h3:(numsT t).length=4:=rfl
 rw [headT_eq,List.length_append,List.length_append,List.length_singleton]
 omega
theorem howT_lt {t:Reg14} (h:RegOk t):howT t<128:=by
 unfold howT
 have:=h.2.2.2
 split <;> omega
section
variable {hB h:Heap} {K:VK} {Kp:PK}
set_option maxHeartbeats 2000000 in
theorem thead_ok {t:Reg14} {q:Option Addr} {n c:Nat} (ht:RegOk t) (hn:n<=1000000) (hk:∀ D qo co h',Slot T_uint8 1 D qo (headT t n).length co (u8s (headT t n))->Hp hB [] h' D->K (.slice qo (headT t n).length co) h') :
  CP F_text_head #[t.ag q n c] hB K Kp:=by
 refine call_text_head ?_
 unfold text_head
 have hsz:=ht.1
 unfold SizeP at hsz
 have hx:=ht.2.1
 have hy:=ht.2.2.1
 have hop:=ht.2.2.2.1
 have hdf:=ht.2.2.2.2.1
 have hst:=ht.2.2.2.2.2
 have H:=Hp.nil hB []
 refine newC_hp H fun r10 h H=>?_
 have H:Hp hB [] h [⟨r10,true,T_api_Text,t.cs q n c⟩]:=H
 refine newWriter_ok fun w h' H'=>?_
 have hw:WrL w [] [wrE w none 0 []]:=⟨none,0,[],Slot.nil _ _,rfl⟩
 replace H:=H.join H' rfl
 clear H'
 refine ⟨_,_,rfl,?_⟩
 refine tneed_ok ?_
 refine ldI_of (hpA H 0 rfl rfl) (ldI_of (hpA H 0 rfl rfl) (ldI_of (hpA H 0 rfl rfl) (ldI_of (hpA H 0 rfl rfl) ?_)))
 refine newC_hp H fun r22 h H=>?_
 have H:=H.rot
 obtain ⟨A,hA⟩:∃ A:List Ent,A=[⟨r22,true,T_int,[.int .i64 t.x, .int .i64 t.y, .int .i64 t.w, .int .i64 t.h]⟩,⟨r10,true,T_api_Text,t.cs q n c⟩]:=⟨_,rfl⟩
 have H:Hp hB [] h (A++[wrE w none 0 []]):=by rw [hA]; exact H
 refine ⟨fun m vs h'=>∃ (i:Nat) (L:List Ent),i+m=4/\vs=[.int .i64 (i:Nat)]/\WrL w (((numsT t).take i).flatMap grp) L/\Hp hB [] h' (A++L),⟨4,0,_,rfl,rfl,hw,H⟩,?_⟩
 clear H hw
 rintro m h u xi ⟨i,L,him,hxx,hw,H⟩
 injection hxx with hx1 hxx
 injection hx1 with _ hx1
 subst xi
 have hgl:=grps_len ((numsT t).take i)
 have hti:((numsT t).take i).length<=4:=by
  rw [List.length_take]
  exact Nat.le_trans (Nat.min_le_right _ _) (Nat.le_refl 4)
 refine bcase_dec (fun h1=>?_) fun h1=>?_
 ·have step:∀ v:Int,0<=v/\v<=1048576->(numsT t)[i]? = some v.toNat->hcell h ⟨r22,i,none⟩=some (.int .i64 v)->ldI h ((⟨r22,0,none⟩:Addr).add (((i:Nat):Int).toNat*1)) .i64 (fun x_30=>bindI (IntKind.u64.wrap x_30) fun z_31 =>
    CP F_bits_Writer_Var #[.pointer (some ⟨w,0,none⟩), .int .u64 z_31] h (fun v_32 h_33=>∃ (r_34:Int),v_32 = .int .i64 r_34/\(CP F_text_need #[.int .i64 r_34] h_33 (fun v_35 h_36=>bindI (IntKind.i64.wrap (((i:Nat):Int)+(1:Int))) fun z_37 =>
     ∃ m_25,m_25<m/\∃ (i:Nat) (L:List Ent),i+m_25=4/\[Value.int .i64 z_37]=[.int .i64 (i:Nat)]/\WrL w (((numsT t).take i).flatMap grp) L/\Hp hB [] h_36 (A++L)) (Kp))) (Kp)):=fun v hv hg hc=>by
   rw [Int.toNat_natCast,Nat.mul_one,add_mk,Nat.zero_add]
   refine ldI_of hc ?_
   refine bindI_of (((v.toNat:Nat):Int)) (by (rw [Int.toNat_of_nonneg hv.1]; exact u64_in _ (by omega) (by omega))) ?_
   refine var_ok (Hp.giveS H) hw (by omega) (by omega) fun L' h' hw' H'=>?_
   have H:=Hp.putS H hw.w H' hw'.w
   refine ⟨_,rfl,tneed_ok ?_⟩
   refine bindI_of (((i+1:Nat):Int)) (by exact i64_at _ _ (by omega) (by omega) (by omega)) ?_
   refine ⟨m-1,by omega,i+1,L',by omega,rfl,?_,H⟩
   rw [take_snocG hg,List.flatMap_append]
   simpa using hw'
  refine needs_of (by omega) ?_
  rw [hA] at H
  rcases (by omega:i=0\/i=1\/i=2\/i=3) with rfl | rfl | rfl | rfl
  ·exact step t.x hx rfl (H.cell 0 rfl rfl)
  ·exact step t.y hy rfl (H.cell 0 rfl rfl)
  ·exact step t.w (by omega) rfl (H.cell 0 rfl rfl)
  ·exact step t.h (by omega) rfl (H.cell 0 rfl rfl)
 obtain rfl:i=4:=by omega
 have e4:(numsT t).take 4=numsT t:=rfl
 rw [e4] at hw hgl hti
 have rd:∀ {h:Heap} {L:List Ent},Hp hB [] h (A++L)->∀ j v,(t.cs q n c)[j]? = some v->hcell h ((⟨r10,0,none⟩:Addr).add j)=some v:=fun {h L} H j v hv=>by
  rw [hA] at H
  exact hpA H 1 rfl (by rw [Nat.zero_add]; exact hv)
 refine ldI_of (rd H 4 _ rfl) (ldI_of (rd H 6 _ rfl) ?_)
 refine bindI_of (((16:Int)*t.df)) (by exact i64_in _ (by omega) (by omega)) ?_
 refine bindI_of ((t.op+16*t.df)) (by exact i64_in _ (by omega) (by omega)) ?_
 refine ldI_of (rd H 7 _ rfl) ?_
 refine bindI_of (((32:Int)*t.st)) (by exact i64_in _ (by omega) (by omega)) ?_
 refine bindI_of ((t.op+16*t.df+32*t.st)) (by exact i64_in _ (by omega) (by omega)) ?_
 refine ⟨fun vs h'=>vs=[.int .i64 (howT t:Nat)]/\h'=h,?_,?_⟩
 ·refine ldB_of (rd H 5 _ rfl) (bcase_of (fun h2=>?_) fun h2=>?_)
  ·refine bindI_of ((t.op+16*t.df+32*t.st+8)) (by exact i64_in _ (by omega) (by omega)) ?_
   refine ⟨?_,rfl⟩
   unfold howT
   rw [if_pos h2]
   congr 2
   omega
  ·refine ⟨?_,rfl⟩
   unfold howT
   rw [if_neg (by rw [h2]; decide)]
   congr 2
   omega
 rintro h' u xh ⟨hxx,rfl⟩
 injection hxx with hx1 hxx
 injection hx1 with _ hx1
 subst xh
 have hhow:=howT_lt ht
 refine bindI_of (((howT t:Nat):Int)) (by exact u64_in _ (by omega) (by omega)) ?_
 have h3:(numsT t).length=4:=rfl
 refine put8_ok (Hp.giveS H) hw (by omega) (by omega) fun L2 h2 hw2 H'=>?_
 have H:=Hp.putS H hw.w H' hw2.w
 clear H'
 refine ⟨_,rfl,tneed_ok ?_⟩
 refine ldS_of (rd H 8 _ rfl) ?_
 refine bindI_of (((n:Nat):Int)) (by exact u64_in _ (by omega) (by omega)) ?_
 refine var_ok (Hp.giveS H) hw2 (by omega) (by rw [List.length_append,List.length_singleton]; omega) fun L3 h3 hw3 H'=>?_
 have H:=Hp.putS H hw2.w H' hw3.w
 clear H'
 refine ⟨_,rfl,tneed_ok ?_⟩
 rw [<- headT_eq] at hw3
 refine bytes_ok (Hp.giveS H) hw3 (by have:=headT_len t n; omega) fun D qo co h4 hsl H'=>?_
 have H:=Hp.putS H hw3.w H' (by rw [List.all_append,hw3.w,hsl.w]; rfl)
 refine ⟨_,_,_,rfl,?_⟩
 exact hk D qo co h4 hsl (Hp.suf (Hp.suf H))
end
def tfl (e:Int):List PanicEntry:=[{ v := .iface T_text_fault (.agg #[.int .i64 e]),recovered:=false }]
theorem tcatch_idle {h:Heap} {r:Nat} {Kd:FrameMode->Heap->Prop} {Kdp:FrameMode->PK} (hk:Kd .returning h):DCalls Go.Proofs.Tryz.prog F_text_caught_c1 #[.pointer (some ⟨r,0,none⟩)] .returning h Kd Kdp :=
 dcall_text_caught_c1 (cap0:=⟨r,0,none⟩) (by unfold text_caught_c1 recD; exact hk)
theorem tcatch {h0 h:Heap} {FF:List Nat} {L:List Ent} {r:Nat} {K:VK} {Kp:PK} {e x:Int} (H:Hp h0 FF h ([⟨r,true,T_api_Errno,[.int .i64 x]⟩]++L)) (hk:∀ h',Hp h0 FF h' L->K (.int .i64 e) h') :
  leaveD (DCalls Go.Proofs.Tryz.prog) (fun h=>ldI h ⟨r,0,none⟩ .i64 fun v=>K (.int .i64 v) h) Kp [{ target := .fn (.func F_text_caught_c1) #[.pointer (some ⟨r,0,none⟩)],args:=#[] }] (.panicking (tfl e)) h:=by
 show DCalls Go.Proofs.Tryz.prog F_text_caught_c1 #[.pointer (some ⟨r,0,none⟩)] _ h _ _
 refine dcall_text_caught_c1 (cap0:=⟨r,0,none⟩) ?_
 unfold text_caught_c1
 refine recD_iface ?_
 refine bcase_true (by decide) ?_
 refine ⟨e,rfl,?_⟩
 refine newC_hp H fun r6 h H=>?_
 have H:=H.rot
 refine stA H 0 rfl rfl rfl fun h H=>?_
 refine ldI_of (hpA H 0 rfl rfl) ?_
 refine st0 H 1 rfl rfl rfl fun h H=>?_
 show ldI h ⟨r,0,none⟩ .i64 _
 refine ldI_of (H.cell 1 rfl rfl) ?_
 have H:Hp h0 FF h ([⟨r6,true,T_text_fault,[.int .i64 e]⟩,⟨r,true,T_api_Errno,[.int .i64 e]⟩]++L):=H
 exact hk h (Hp.suf H)
theorem tcaught_ok {h0 h:Heap} {FF:List Nat} {L:List Ent} {run:Value} {K:VK} {Kp:PK} (Post:List Ent->Prop) (PostB:Int->List Ent->Prop) (H:Hp h0 FF h L)
  (hrun:∀ {r:Nat} {h1:Heap} {K1:VK} {Kp1:PK},Hp h0 FF h1 ([⟨r,true,T_api_Errno,[.int .i64 0]⟩]++L)->(∀ h2 L2,Post L2->Hp h0 FF h2 ([⟨r,true,T_api_Errno,[.int .i64 0]⟩]++L2)->K1 (.tuple #[]) h2) ->
   (∀ e h2 L2,PostB e L2->Hp h0 FF h2 ([⟨r,true,T_api_Errno,[.int .i64 0]⟩]++L2)->Kp1 (tfl e) h2)->callD (CallsHP Go.Proofs.Tryz.prog) Kp1 run [] h1 K1)
  (hk0:∀ h' L',Post L'->Hp h0 FF h' L'->K (.int .i64 0) h') (hke:∀ e h' L',PostB e L'->Hp h0 FF h' L'->K (.int .i64 e) h'):CP F_text_caught #[run] h K Kp:=by
 refine call_text_caught ?_
 unfold text_caught
 refine newC_hp H fun r1 h H=>?_
 have H:=H.rot
 refine hrun H (fun h2 L2 hp H=>?_) fun e h2 L2 hp H=>?_
 ·refine st0 H 0 rfl rfl rfl fun h H=>?_
  show DCalls Go.Proofs.Tryz.prog F_text_caught_c1 #[.pointer (some ⟨r1,0,none⟩)] .returning h _ _
  refine tcatch_idle ?_
  show ldI h ⟨r1,0,none⟩ .i64 _
  refine ldI_of (H.cell 0 rfl rfl) ?_
  have H:Hp h0 FF h ([⟨r1,true,T_api_Errno,[.int .i64 0]⟩]++L2):=H
  exact hk0 h L2 hp (Hp.suf H)
 ·exact tcatch H fun h' H=>hke e h' L2 hp H
theorem txtB_len {t:Reg14} {sy:List Bmp} {l:List Ins} (hf:TForm t sy l) (hsl:sy.length<=4096) (hl:l.length<=16384) (ha:arI l<=1048576):(bytesM (flushM (cdL 14337 (allD t sy l)))).length<=90000000:=by
 have h1:=(allD_len (t:=t) hf.2.2 hsl hl ha).1
 have h2:=cdL_ok (m:=14337) (L:=allD t sy l) (by omega)
 have h3:=Go.Ar.flushM_len (cdL 14337 (allD t sy l))
 have h4:=h2.wf.len
 have h5:=h2.wf.n
 have h6:=h2.n
 omega
theorem encT_bad {t:Reg14} {sy:List Bmp} {l:List Ins} (h:chkT t sy l≠0):encT t sy l=[]:=if_neg h
theorem encT_ok {t:Reg14} {sy:List Bmp} {l:List Ins} (h:chkT t sy l=0):encT t sy l=txtB t sy l:=if_pos h
section
variable {hB:Heap} {K:VK} {Kp:PK} {t:Reg14} {q q2:Option Addr} {c c2:Nat} {sy:List Bmp} {l:List Ins}
set_option maxHeartbeats 8000000 in
theorem tEnc_ok (hv:InsV hB q l) (hs:BmsV hB q2 sy) (hl:l.length<=1000000) (hsl:sy.length<=1000000000000)
  (hk:∀ D qo co h',Slot T_uint8 1 D qo (encT t sy l).length co (u8s (encT t sy l))->Hp hB [] h' D->K (.tuple #[.slice qo (encT t sy l).length co, .int .i64 (chkT t sy l)]) h') :
  CP F_text_Encode #[t.ag q l.length c, .slice q2 sy.length c2] hB K Kp:=by
 refine call_text_Encode ?_
 unfold text_Encode
 have H:=Hp.nil hB []
 refine newC_hp H fun r10 h H=>?_
 refine newC_hp H fun r12 h H=>?_
 refine newC_hp H fun r14 h H=>?_
 have H:Hp hB [] h [⟨r10,true,T_api_Text,t.cs q l.length c⟩,⟨r12,true,T_s_api_Bitmap,[.slice q2 sy.length c2]⟩,⟨r14,true,T_s_uint8,[.slice none 0 0]⟩]:=H
 repeat first | with_reducible refine ldI_of (by with_unfolding_all first | exact hpA H 0 rfl rfl | exact Hp.cell H 0 rfl rfl | exact hpB H 0 rfl rfl | exact hpC H 0 rfl rfl) ?_ | with_reducible refine ldS_of (by with_unfolding_all first | exact hpA H 0 rfl rfl | exact Hp.cell H 0 rfl rfl | exact hpB H 0 rfl rfl | exact hpC H 0 rfl rfl) ?_ | with_reducible refine ldP_of (by with_unfolding_all first | exact hpA H 0 rfl rfl | exact Hp.cell H 0 rfl rfl | exact hpB H 0 rfl rfl | exact hpC H 0 rfl rfl) ?_ | with_reducible refine ldB_of (by with_unfolding_all first | exact hpA H 0 rfl rfl | exact Hp.cell H 0 rfl rfl | exact hpB H 0 rfl rfl | exact hpC H 0 rfl rfl) ?_ | with_reducible refine ldT_of (by with_unfolding_all first | exact hpA H 0 rfl rfl | exact Hp.cell H 0 rfl rfl | exact hpB H 0 rfl rfl | exact hpC H 0 rfl rfl) ?_
 refine ldS_of (H.cell 1 rfl rfl) ?_
 refine checkedT_ok (t:=t) (hv.ext H.hext) (hs.ext H.hext) hl hsl fun h' e=>⟨_,rfl,?_⟩
 have H:=H.ext e
 refine bcase_ne (fun h1=>?_) fun h1=>?_
 ·refine st0 H 2 rfl rfl rfl fun h H=>?_
  refine ldS_of (H.cell 2 rfl rfl) ?_
  rw [encT_bad h1] at hk
  exact hk [] none 0 h (Slot.nil _ _) (H.take 0)
 obtain ⟨hf,hsl4,hl16,har⟩:=chkT_zero h1
 rw [encT_ok h1,h1] at hk
 clear h1
 have hbl:=txtB_len hf hsl4 hl16 har
 have hhl:=headT_len t l.length
 refine tcaught_ok (fun L2=>∃ D qo co,L2=[⟨r10,true,T_api_Text,t.cs q l.length c⟩,⟨r12,true,T_s_api_Bitmap,[.slice q2 sy.length c2]⟩,⟨r14,true,T_s_uint8,[.slice qo (txtB t sy l).length co]⟩]++D/\Slot T_uint8 1 D qo (txtB t sy l).length co (u8s (txtB t sy l))) (fun _ _=>False) H (fun {r h1 K1 Kp1} H hK1 hKp1=>?_) (fun h' L' hp H=>?_) fun e h' L' hp H=>hp.elim
 ·unfold callD
  simp only
  refine call_text_Encode_c1 (cap0:=⟨r10,0,none⟩) (cap1:=⟨r12,0,none⟩) (cap2:=⟨r14,0,none⟩) ?_
  unfold text_Encode_c1
  obtain ⟨A,hA⟩:∃ A:List Ent,A=[⟨r,true,T_api_Errno,[.int .i64 0]⟩,⟨r10,true,T_api_Text,t.cs q l.length c⟩,⟨r12,true,T_s_api_Bitmap,[.slice q2 sy.length c2]⟩,⟨r14,true,T_s_uint8,[.slice none 0 0]⟩]:=⟨_,rfl⟩
  have hAw:A.all Ent.w=true:=by rw [hA]; rfl
  have H:Hp hB [] h1 A:=by rw [hA]; exact H
  have rd:∀ {h:Heap} {X:List Ent},Hp hB [] h (A++X)->∀ j v,(t.cs q l.length c)[j]? = some v->hcell h ((⟨r10,0,none⟩:Addr).add j)=some v:=fun {h X} H j v hv=>by
   rw [hA] at H
   exact hpA H 1 rfl (by rw [Nat.zero_add]; exact hv)
  refine Go.Ar.new_ok (n:=14337) (by omega) (by omega) fun p q' r0 h' H'=>?_
  replace H:=H.join H' rfl
  clear H'
  refine ⟨_,_,rfl,tneed_ok ?_⟩
  refine ldI_of (rd H 0 _ rfl) (ldI_of (rd H 1 _ rfl) (ldI_of (rd H 2 _ rfl) (ldI_of (rd H 3 _ rfl) (ldI_of (rd H 4 _ rfl) (ldB_of (rd H 5 _ rfl) (ldI_of (rd H 6 _ rfl) (ldI_of (rd H 7 _ rfl) (ldS_of (rd H 8 _ rfl) ?_))))))))
  refine ldS_of (by rw [hA] at H; exact H.cell 2 rfl rfl) ?_
  refine newC_hp H fun r17 h H=>?_
  have H:=H.rot
  have H:Hp hB [] h ((cdE r17 p t q l.length c q2 sy.length c2::A)++codL p q' r0 (cdL 14337 []) []):=H
  refine cinst_ok H hAw hv hs hf hsl4 hl16 har fun r1 rest1 h H=>?_
  have hTl:=(allD_len (t:=t) hf.2.2 hsl4 hl16 har).1
  have hco:=cdL_ok (m:=14337) (L:=allD t sy l) (by omega)
  obtain ⟨S,hS⟩:∃ S,S=cdL 14337 (allD t sy l):=⟨_,rfl⟩
  rw [<- hS] at H hco hbl
  refine Go.Ar.flush_ok (Hp.giveS H) hco.wf hco.done fun r3 rest3 o orest h' H'=>?_
  replace H:=Hp.putS H rfl H' rfl
  clear H'
  refine ⟨_,_,_,_,rfl,tneed_ok ?_⟩
  have H:Hp hB [] h' (cdE r17 p t q l.length c q2 sy.length c2::(A++(codL p q' r3 (flushM S) rest3++[⟨o,true,T_uint8,u8s (bytesM (flushM S))++orest⟩]))):=H
  have H:=Hp.suf (X:=[_]) H
  refine ldI_of (rd H 0 _ rfl) (ldI_of (rd H 1 _ rfl) (ldI_of (rd H 2 _ rfl) (ldI_of (rd H 3 _ rfl) (ldI_of (rd H 4 _ rfl) (ldB_of (rd H 5 _ rfl) (ldI_of (rd H 6 _ rfl) (ldI_of (rd H 7 _ rfl) (ldS_of (rd H 8 _ rfl) ?_))))))))
  refine thead_ok (t:=t) hf.2.1 (by omega) fun D qo co h2 hsl H'=>?_
  replace H:=H.join H' hsl.w
  clear H'
  refine ⟨_,_,_,rfl,?_⟩
  have H:Hp hB [] h2 ((A++(codL p q' r3 (flushM S) rest3++[⟨o,true,T_uint8,u8s (bytesM (flushM S))++orest⟩]))++(D++[])):=by rw [List.append_nil]; exact H
  refine Slot.appN (m:=(bytesM (flushM S)).length) (new:=u8s (bytesM (flushM S))) hsl H rfl (by decide) (Hp.rdO_mem (rest:=orest) H (List.mem_append_left _ (List.mem_append_right _ (List.mem_append_right _ (List.mem_singleton.2 rfl)))) (by rw [u8s_length,Nat.mul_one])) (by rw [u8s_length,Nat.mul_one]) (u8s_cells _) (by omega) fun D2 q4 c4 h3 hs2 H=>?_
  have hlen:(headT t l.length).length+(bytesM (flushM S)).length=(txtB t sy l).length:=by
   unfold txtB
   rw [<- hS,List.length_append]
  have hbs:u8s (headT t l.length)++u8s (bytesM (flushM S))=u8s (txtB t sy l):=by
   unfold txtB
   rw [<- hS]
   simp [u8s]
  rw [hlen,hbs] at hs2
  rw [hlen]
  rw [hA] at H
  have H:Hp hB [] h3 ([⟨r,true,T_api_Errno,[.int .i64 0]⟩,⟨r10,true,T_api_Text,t.cs q l.length c⟩,⟨r12,true,T_s_api_Bitmap,[.slice q2 sy.length c2]⟩,⟨r14,true,T_s_uint8,[.slice none 0 0]⟩]++(codL p q' r3 (flushM S) rest3++[⟨o,true,T_uint8,u8s (bytesM (flushM S))++orest⟩])++D2):=H.as (by rw [List.append_nil])
  refine st0 H 3 rfl rfl rfl fun h H=>?_
  have H:Hp hB [] h ([⟨r,true,T_api_Errno,[.int .i64 0]⟩,⟨r10,true,T_api_Text,t.cs q l.length c⟩,⟨r12,true,T_s_api_Bitmap,[.slice q2 sy.length c2]⟩,⟨r14,true,T_s_uint8,[.slice q4 (txtB t sy l).length c4]⟩]++(codL p q' r3 (flushM S) rest3++[⟨o,true,T_uint8,u8s (bytesM (flushM S))++orest⟩])++D2):=H
  have H:=Hp.mid H
  exact hK1 h _ ⟨D2,q4,c4,rfl,hs2⟩ H
 ·obtain ⟨D,qo,co,rfl,hsl⟩:=hp
  refine ⟨_,rfl,?_⟩
  refine bcase_false (by rfl) ?_
  refine ldS_of (H.cell 2 rfl rfl) ?_
  refine st0 H 2 rfl rfl rfl fun h H=>?_
  refine ldS_of (H.cell 2 rfl rfl) ?_
  have H:Hp hB [] h ([⟨r10,true,T_api_Text,t.cs q l.length c⟩,⟨r12,true,T_s_api_Bitmap,[.slice q2 sy.length c2]⟩,⟨r14,true,T_s_uint8,[.slice qo (txtB t sy l).length co]⟩]++D):=H
  exact hk D qo co h hsl (Hp.suf H)
end
end Go.Bm
namespace Go.Bm
open Go Go.Den Go.Den.YtbknfejmdekhpaaGreat
open Go.Ar (Dec idx decL BOk)
structure Strm (T:List (Nat × Nat)) (D:Nat->Dec) (b:List Nat) (e:Ent) (bp:Option Addr):Prop where
 w:Walk T D
 ok:∀ i,i<=T.length->Go.Ar.DecOk b 14337 i (D i)
 bo:BOk e bp b
 bl:b.length<140737488351300
 tl:T.length+64<=16777216
theorem Strm.dw {T:List (Nat × Nat)} {D:Nat->Dec} {b:List Nat} {e:Ent} {bp:Option Addr} (h:Strm T D b e bp) {p qd bc:Nat} {s:Dec}:(decL p qd e bp bc s).all Ent.w=true:=by simp [decL,Go.Ar.decE,h.bo.1]
def rtE (rr p:Nat) (t:Reg14) (q:Option Addr) (n c:Nat) (q2:Option Addr) (ns c2:Nat) (left area:Int):Ent:=⟨rr,true,T_text_reader,[.pointer (at0 p), .int .i64 t.x, .int .i64 t.y, .int .i64 t.w, .int .i64 t.h, .int .i64 t.op, .bool t.rf, .int .i64 t.df, .int .i64 t.st, .slice q n c, .slice q2 ns c2, .int .i64 left, .int .i64 area]⟩
section
variable {hB h:Heap} {K:VK} {Kp:PK}
theorem twrong_ok {b:Bool} (hb:b=false) (hk:K (.tuple #[]) h):CP F_text_wrong #[.bool b] h K Kp:=by
 refine call_text_wrong ?_
 unfold text_wrong
 exact bcase_false hb hk
theorem tbig_ok {b:Bool} (hb:b=false) (hk:K (.tuple #[]) h):CP F_text_big #[.bool b] h K Kp:=by
 refine call_text_big ?_
 unfold text_big
 exact bcase_false hb hk
variable {rr p qd bc:Nat} {e:Ent} {bp:Option Addr} {t:Reg14} {q q2:Option Addr} {n c c2:Nat} {sy:List Bmp} {T A B:List (Nat × Nat)} {D:Nat->Dec} {b:List Nat} {X:List Ent} {left area:Int}
theorem tnum_ok (hS:Strm T D b e bp) (H:Hp hB [] h ((rtE rr p t q n c q2 sy.length c2 left area::X)++decL p qd e bp bc (D A.length))) {base v:Int} {nn:Bool} (eT:T=A++(dsWh 14337 base v nn++B)) (hr:rightW v nn) (hf:0<=base/\base+(512:Nat)<=14337)
  (hk:∀ h',Hp hB [] h' ((rtE rr p t q n c q2 sy.length c2 left area::X)++decL p qd e bp bc (D (A++dsWh 14337 base v nn).length))->K (.agg #[.int .i64 (if nn=true then 0 else v), .bool nn]) h') :
  CP F_text_reader_number #[.pointer (some ⟨rr,0,none⟩), .int .i64 base] h K Kp:=by
 refine call_text_reader_number ?_
 unfold text_reader_number
 have hAl:A.length<=T.length:=by rw [eT,List.length_append]; omega
 have htl:=hS.tl
 refine newC_hp H fun r1 h H=>?_
 have H:=H.rot
 have H:Hp hB [] h ((⟨r1,true,T_api_Whole,[.int .i64 0, .bool false]⟩::rtE rr p t q n c q2 sy.length c2 left area::X)++decL p qd e bp bc (D A.length)):=H
 refine ptr_of (a:=⟨rr,0,none⟩) (ldP_of (hpA H 1 rfl rfl) ?_)
 refine wget_ok (m:=14337) (n:=A.length) (Hp.giveS H) hS.bo.1 hS.bo (hS.ok _ hAl) hS.bl (by omega) (by omega) (by omega) hf fun h' n' _ _ H'=>?_
 rw [get_wh hS.w hr eT] at H' ⊢
 have H:=Hp.putS H hS.dw H' hS.dw
 clear H'
 refine ⟨_,_,_,rfl,?_⟩
 refine newC_hp H fun r10 h H=>?_
 have H:=H.rot
 have H:Hp hB [] h (⟨r10,true,T_api_Whole,[.int .i64 0, .bool false]⟩::((⟨r1,true,T_api_Whole,[.int .i64 0, .bool false]⟩::rtE rr p t q n c q2 sy.length c2 left area::X)++decL p qd e bp bc (D (A++dsWh 14337 base v nn).length))):=H
 refine stA H 0 rfl rfl rfl fun h H=>?_
 refine stA H 0 rfl rfl rfl fun h H=>?_
 refine twrong_ok rfl (tneed_ok ?_)
 refine ldI_of (hpA H 0 rfl rfl) (ldB_of (hpA H 0 rfl rfl) ?_)
 refine stA H 1 rfl rfl rfl fun h H=>?_
 refine stA H 1 rfl rfl rfl fun h H=>?_
 refine ldI_of (hpA H 1 rfl rfl) (ldB_of (hpA H 1 rfl rfl) ?_)
 exact hk h (Hp.suf (X:=[_,_]) H)
theorem tid_ok {Y:List Ent} (hS:Strm T D b e bp) (H:Hp hB [] h (Y++decL p qd e bp bc (D A.length))) {w:Nat} {id:Int} (hid:0<=id/\id<((2 ^ w:Nat):Int)) (hw:w<=12) (eT:T=A++(dsId 14337 2048 w id.toNat++B))
  (hk:∀ h',Hp hB [] h' (Y++decL p qd e bp bc (D (A++dsId 14337 2048 w id.toNat).length))->K (.tuple #[.int .i64 id, .int .i64 0]) h') :
  CP F_whole_GetID #[.pointer (at0 p), .int .i64 2048, .int .i64 (w:Nat)] h K Kp:=by
 have hAl:A.length<=T.length:=by rw [eT,List.length_append]; omega
 have htl:=hS.tl
 have hp:=pow12 hw
 have hfit:IdFit 2048 w 14337:=⟨by omega,by omega⟩
 refine wgetid_ok (m:=14337) (n:=A.length) (Hp.giveS H) hS.bo.1 hS.bo (hS.ok _ hAl) hS.bl (by omega) (by omega) (by omega) (fun hn=>absurd ⟨by omega,by omega⟩ hn) (fun w' e hw' hn=>?_) fun w' h' e hw' _ _ H'=>?_
 ·obtain rfl:w=w':=by omega
  exact absurd hfit hn
 obtain rfl:w=w':=by omega
 have hx:id.toNat<2 ^ w:=by omega
 rw [get_ID hS.w hx eT] at H' ⊢
 have H:=Hp.putS H hS.dw H' hS.dw
 have hv:(((2 ^ w+id.toNat:Nat):Int)-((2 ^ w:Nat):Int))=id:=by omega
 rw [hv]
 exact hk h' H
theorem tbit_ok' {Y:List Ent} (hS:Strm T D b e bp) (H:Hp hB [] h (Y++decL p qd e bp bc (D A.length))) {ctx:Int} {bit:Nat} (eT:T=A++([(idx ctx 14337,bit)]++B))
  (hk:∀ h',Hp hB [] h' (Y++decL p qd e bp bc (D (A++[(idx ctx 14337,bit)]).length))->K (.tuple #[.int .i64 (bit:Nat), .int .i64 0]) h') :
  CP F_arith_Decoder_Get #[.pointer (at0 p), .int .i64 ctx] h K Kp:=by
 have hAl:A.length<=T.length:=by rw [eT,List.length_append]; omega
 have htl:=hS.tl
 have hok:=hS.ok _ hAl
 have hat:=hS.w.at eT
 refine Go.Ar.get_ok (ctx:=ctx) (Hp.giveS H) (by rw [hok.b]; exact hS.bo) hok.wf (by rw [hok.b]; exact hS.bl) (by rw [hok.n]; omega) (by rw [hok.len]; decide) (by rw [hok.len]; decide) fun h' H'=>?_
 rw [hok.len] at H' ⊢
 dsimp only at hat
 rw [hat] at H' ⊢
 have H:=Hp.putS H hS.dw H' hS.dw
 rw [List.length_append,List.length_singleton] at hk
 exact hk h' H
theorem padZ_of {W X:Nat} {ws:List Nat} (hm:MayP (W:Int) (X:Int) ws):PadZ W X ws:=fun y hy x k1 k2=>pix_of_may hm hy k1 k2
theorem tref_ok {Y:List Ent} (hS:Strm T D b e bp) (H:Hp hB [] h (Y++decL p qd e bp bc (D A.length))) {m s:Bmp} (hm:m.may) (hmw:W64 m.ws) (hs:s.may) (hw:m.w=s.w) (hh:m.h=s.h) {q3:Option Addr} {c3:Nat} (hr2:rdO h q3 (s.ws.length*1) (u64s s.ws)) (hw2:W64 s.ws) (hl2:s.ws.length<140737488351300)
  (eT:T=A++(dsF (getP m.ws m.w.toNat m.h.toNat) (getP s.ws s.w.toNat s.h.toNat) m.w.toNat 14337 0 0 6145 (m.h.toNat*m.w.toNat)++B))
  (hk:∀ Dm qo co h',Slot T_uint64 1 Dm qo m.ws.length co (u64s m.ws)->Hp hB [] h' (Y++(decL p qd e bp bc (D (A++dsF (getP m.ws m.w.toNat m.h.toNat) (getP s.ws s.w.toNat s.h.toNat) m.w.toNat 14337 0 0 6145 (m.h.toNat*m.w.toNat)).length)++Dm))->K (.tuple #[.agg #[.int .i64 m.w, .int .i64 m.h, .slice qo m.ws.length co], .int .i64 0]) h') :
  CP F_refine_Get #[.pointer (at0 p), .int .i64 6145, .int .i64 s.w, .int .i64 s.h, .agg #[.int .i64 s.w, .int .i64 s.h, .slice q3 s.ws.length c3], .int .i64 0, .int .i64 0] h K Kp:=by
 have hlen:A.length+m.h.toNat*m.w.toNat<=T.length:=by
  rw [eT,List.length_append,List.length_append,dsF_len]
  omega
 have htl:=hS.tl
 have hok:=hS.ok A.length (by omega)
 obtain ⟨mw,mh,ms⟩:=m
 obtain ⟨W,XX,e1,e2,hW1,hW2,hX1,hX2,hWX⟩:=size_nat hm.1
 have e1:mw=W:=e1
 have e2:mh=XX:=e2
 subst e1 e2
 dsimp only at hw hh
 rw [<- hw,<- hh] at eT hk ⊢
 simp only [Int.toNat_natCast] at hlen eT hk ⊢
 have hms:MayP ((W:Nat):Int) ((XX:Nat):Int) s.ws:=by
  have:=hs
  unfold Bmp.may at this
  rw [<- hw,<- hh] at this
  exact this
 refine rfGet_ok (m:=14337) (n0:=A.length) (base:=6145) (Hp.giveS H) (by rw [hok.b]; exact hS.bo) hS.bl hok (by omega) (by omega) hr2 hw2 hl2 (fun _=>by simp only [Int.toNat_natCast]; omega) fun er w' b' bs s' Dm qo co h' hget hsl H'=>?_
 rcases hget with ⟨hn,_⟩ | ⟨_,hn,_⟩ | ⟨_,_,hn,_⟩ | ⟨_,_,_,hn,_⟩ | ⟨_,_,_,_,rfl,rfl,rfl,hrun,hbl,hbw,hpz,_⟩
 ·exact absurd hms hn
 ·exact absurd hm.1 hn
 ·exact absurd ⟨by omega,by omega⟩ hn
 ·exact absurd (by omega) hn
 simp only [Int.toNat_natCast] at hrun hbl hpz
 have hdr:=dec_f (getP ms W XX) (getP s.ws W XX) W 14337 0 0 6145 (getP_out _ _ _) hS.w hW1 (XX*W) B eT
 rw [part_all] at hdr
 have hrr:=hrun.symm.trans hdr
 injection hrr with hrr
 injection hrr with h1 h2
 have hbs:bs=ms:=getP_ext hbl (may_len hm) hbw hmw hpz (padZ_of hm) h1
 subst hbs h2
 have H:=Hp.putS H hS.dw H' (by rw [List.all_append,hS.dw,hsl.w]; rfl)
 exact hk Dm qo co h' hsl H
theorem insD_split {i:Ins} (h:i.d=true->t.rf=true):insD t sy i=(if 0<t.st then dsWh 14337 1536 (offT t.st.toNat i.y) false else [])++(dsId 14337 2048 (wid sy.length) i.s.toNat++((if t.rf=true then [(idx 6144 14337,i.d.toNat)] else [])++(if i.d=true then refT sy i else []))):=by
 unfold insD flgT
 congr 2
 cases hd:i.d with
 | false =>
  cases t.rf <;> simp
 | true =>
  rw [h hd]
  simp
set_option maxHeartbeats 8000000 in
theorem tone_ok (hS:Strm T D b e bp) {i:Ins} {l0:List Ins} {R:List Ent} (H:Hp hB [] h ((rtE rr p t q l0.length c q2 sy.length c2 left area::(X++R))++decL p qd e bp bc (D A.length))) (hXw:X.all Ent.w=true) (hL:ListI R q c l0) (hl0:l0.length<=1000000) (eT:T=A++(insD t sy i++B))
  (hs:BmsV hB q2 sy) (hm:MayL sy) (hsl:sy.length<=4096) (hst:0<=t.st/\t.st<=3) (hi:InsOk t.rf sy i) (hiw:W64 i.b.ws) (hleft:1<=left/\left<=1000000) (har:0<=area/\area+i.b.w*i.b.h<=1048576)
  (hk:∀ R' q' c' h',ListI R' q' c' (l0++[i])->Hp hB [] h' ((rtE rr p t q' (l0.length+1) c' q2 sy.length c2 (left-1) (area+i.b.w*i.b.h)::(X++R'))++decL p qd e bp bc (D (A++insD t sy i).length))->K (.tuple #[]) h') :
  CP F_text_reader_one #[.pointer (some ⟨rr,0,none⟩), .int .i64 (flo i.y t.st.toNat), .int .i64 i.x] h K Kp:=by
 refine call_text_reader_one ?_
 unfold text_reader_one
 obtain ⟨ST,hST⟩:∃ ST:Nat,t.st=(ST:Int):=⟨t.st.toNat,by omega⟩
 have hSTn:t.st.toNat=ST:=by omega
 have hSTle:ST<=3:=by omega
 have hoff:=flo_off (y:=i.y) hSTle
 have hfl:=flo_le (y:=i.y) hSTle hi.2.2.1
 have hp8:=pow8 hSTle
 have hwid:=wid_ok hsl
 have hid:=hi.1
 have hrf:i.d=true->t.rf=true:=fun hd=>(hi.2.2.2.2 hd).1
 rw [insD_split hrf,hSTn] at eT hk
 rw [hSTn]
 obtain ⟨A1,hA1⟩:∃ A1,A1=if 0<t.st then dsWh 14337 1536 (offT ST i.y) false else []:=⟨_,rfl⟩
 obtain ⟨A2,hA2⟩:∃ A2,A2=dsId 14337 2048 (wid sy.length) i.s.toNat:=⟨_,rfl⟩
 obtain ⟨A3,hA3⟩:∃ A3,A3=if t.rf=true then [(idx 6144 14337,i.d.toNat)] else []:=⟨_,rfl⟩
 obtain ⟨A4,hA4⟩:∃ A4,A4=if i.d=true then refT sy i else []:=⟨_,rfl⟩
 rw [<- hA1,<- hA2,<- hA3,<- hA4] at eT hk
 have eT:T=A++(A1++(A2++(A3++(A4++B)))):=by rw [eT]; simp only [List.append_assoc]
 refine within14_ok ⟨_,rfl,twrong_ok (by rw [decide_eq_true hi.2.1]; rfl) ?_⟩
 refine ptr_of (a:=⟨rr,0,none⟩) (ldI_of (hpB H 0 rfl rfl) (needs_of (by omega) ?_))
 rw [hST]
 refine bindI_of _ (shl_flo hSTle hi.2.2.1) ?_
 refine newC_hp H fun r9 h H=>?_
 have H:=H.rot
 have H:Hp hB [] h (⟨r9,true,T_api_Instance,[.int .i64 0, .int .i64 0, .int .i64 0, .bool false, .int .i64 0, .int .i64 0, .slice none 0 0]⟩::((rtE rr p t q l0.length c q2 sy.length c2 left area::(X++R))++decL p qd e bp bc (D A.length))):=H
 repeat first | with_reducible refine stA H 0 (by with_unfolding_all exact rfl) (by with_unfolding_all exact rfl) (by with_unfolding_all exact rfl) fun h H=>?_ | with_reducible refine st0 H 0 (by with_unfolding_all exact rfl) (by with_unfolding_all exact rfl) (by with_unfolding_all exact rfl) fun h H=>?_ | with_reducible refine stB H 0 (by with_unfolding_all exact rfl) (by with_unfolding_all exact rfl) (by with_unfolding_all exact rfl) fun h H=>?_
 obtain ⟨Rc,hRc⟩:∃ Rc:Int->Int->Bool->Bmp->Option Addr->Nat->Ent,Rc=fun y s d m qo co=>⟨r9,true,T_api_Instance,[.int .i64 i.x, .int .i64 y, .int .i64 s, .bool d, .int .i64 m.w, .int .i64 m.h, .slice qo m.ws.length co]⟩:=⟨_,rfl⟩
 have hRcd:∀ y s d m qo co,Rc y s d m qo co=⟨r9,true,T_api_Instance,[.int .i64 i.x, .int .i64 y, .int .i64 s, .bool d, .int .i64 m.w, .int .i64 m.h, .slice qo m.ws.length co]⟩:=fun y s d m qo co=>by rw [hRc]
 have H:Hp hB [] h ((Rc (flo i.y ST*2 ^ ST) 0 false ⟨0,0,[]⟩ none 0::rtE rr p t q l0.length c q2 sy.length c2 left area::(X++R))++decL p qd e bp bc (D A.length)):=by rw [hRcd]; exact H
 refine ⟨fun _ h'=>Hp hB [] h' ((Rc i.y 0 false ⟨0,0,[]⟩ none 0::rtE rr p t q l0.length c q2 sy.length c2 left area::(X++R))++decL p qd e bp bc (D (A++A1).length)),?_,?_⟩
 ·refine ptr_of (a:=⟨rr,0,none⟩) (ldI_of (hpB H 1 rfl rfl) ?_)
  refine bcase_dec (fun h1=>?_) fun h1=>?_
  ·rw [if_pos (by omega)] at hA1
   rw [hA1] at eT
   have H:=H.perm (List.Perm.swap _ _ _)
   refine tnum_ok (X:=Rc (flo i.y ST*2 ^ ST) 0 false ⟨0,0,[]⟩ none 0::(X++R)) hS H eT (.inr (by omega)) (by omega) fun h H=>?_
   rw [<- hA1] at H
   have H:=H.perm (List.Perm.swap _ _ _)
   refine ⟨_,_,rfl,?_⟩
   refine newC_hp H fun r27 h H=>?_
   have H:=H.rot
   rw [hRcd] at H
   have H:Hp hB [] h (⟨r27,true,T_api_Whole,[.int .i64 0, .bool false]⟩::((⟨r9,true,T_api_Instance,[.int .i64 i.x, .int .i64 (flo i.y ST*2 ^ ST), .int .i64 0, .bool false, .int .i64 0, .int .i64 0, .slice none 0 0]⟩::rtE rr p t q l0.length c q2 sy.length c2 left area::(X++R))++decL p qd e bp bc (D (A++A1).length))):=H
   refine stA H 0 rfl rfl rfl fun h H=>?_
   refine stA H 0 rfl rfl rfl fun h H=>?_
   refine ldB_of (hpA H 0 rfl rfl) (bcase_false rfl ?_)
   refine ldI_of (hpA H 0 rfl rfl) (bcase_dec (fun h2=>by omega) fun h2=>?_)
   refine ptr_of (a:=⟨rr,0,none⟩) (ldI_of (hpA H 0 rfl rfl) (ldI_of (hpB H 2 rfl rfl) (needs_of (by omega) ?_)))
   rw [hST]
   refine bindI_of _ (shl1_of (by omega)) ?_
   refine twrong_ok (by rw [decide_eq_false (by omega)]) ?_
   refine ldI_of (hpA H 1 rfl rfl) (ldI_of (hpA H 0 rfl rfl) ?_)
   refine bindI_of i.y (by show IntKind.i64.wrap (flo i.y ST*2 ^ ST+offT ST i.y)=i.y; rw [hoff.2.2]; exact i64_in _ (by have:=hi.2.2.1; omega) (by have:=hi.2.2.1; omega)) ?_
   refine stA H 1 rfl rfl rfl fun h H=>?_
   rw [hRcd]
   exact Hp.suf (X:=[_]) H
  ·rw [if_neg (by omega)] at hA1
   have hST0:ST=0:=by omega
   rw [hA1,List.append_nil]
   have e1:flo i.y ST*2 ^ ST=i.y:=by
    have:(2 ^ ST:Nat)=1:=by rw [hST0]
    omega
   rw [e1] at H
   exact H
 clear H
 rintro h u H
 have rdR:∀ {h:Heap} {y s:Int} {d:Bool} {m:Bmp} {qo:Option Addr} {co:Nat} {Z:List Ent},Hp hB [] h (Rc y s d m qo co::Z)->∀ j v,[Value.int .i64 i.x, .int .i64 y, .int .i64 s, .bool d, .int .i64 m.w, .int .i64 m.h, .slice qo m.ws.length co][j]? = some v->hcell h ((⟨r9,0,none⟩:Addr).add j)=some v:=fun {h y s d m qo co Z} H j v hv=>by
  rw [hRcd] at H
  exact hpA H 0 rfl (by rw [Nat.zero_add]; exact hv)
 refine ldI_of (rdR H 1 _ rfl) ?_
 refine within14_ok ⟨_,rfl,twrong_ok (by rw [decide_eq_true hi.2.2.1]; rfl) ?_⟩
 refine ptr_of (a:=⟨rr,0,none⟩) (ptr_of (a:=⟨rr,0,none⟩) ?_)
 refine ldP_of (hpA H 1 rfl rfl) (ldS_of (hpA H 1 rfl rfl) ?_)
 refine twidth_ok hsl ⟨_,rfl,hext.refl _,?_⟩
 have eT:T=(A++A1)++(A2++(A3++(A4++B))):=by rw [eT]; simp only [List.append_assoc]
 rw [hA2] at eT
 refine tid_ok hS H (id:=i.s) (by omega) hwid.2 eT fun h H=>?_
 rw [<- hA2] at H eT
 refine ⟨_,_,rfl,?_⟩
 rw [hRcd] at H
 refine stA H 0 rfl rfl rfl fun h H=>?_
 have H:Hp hB [] h ((Rc i.y i.s false ⟨0,0,[]⟩ none 0::rtE rr p t q l0.length c q2 sy.length c2 left area::(X++R))++decL p qd e bp bc (D (A++A1++A2).length)):=by rw [hRcd]; exact H
 refine tneed_ok ?_
 refine ptr_of (a:=⟨rr,0,none⟩) (ldI_of (rdR H 2 _ rfl) (ldS_of (hpA H 1 rfl rfl) ?_))
 refine twrong_ok (by rw [decide_eq_false (by omega)]) ?_
 have eT:T=(A++A1++A2)++(A3++(A4++B)):=by rw [eT]; simp only [List.append_assoc]
 refine ⟨fun _ h'=>Hp hB [] h' ((Rc i.y i.s i.d ⟨0,0,[]⟩ none 0::rtE rr p t q l0.length c q2 sy.length c2 left area::(X++R))++decL p qd e bp bc (D (A++A1++A2++A3).length)),?_,?_⟩
 ·refine ptr_of (a:=⟨rr,0,none⟩) (ldB_of (hpB H 1 rfl rfl) (bcase_of (fun h1=>?_) fun h1=>?_))
  ·rw [if_pos h1] at hA3
   rw [hA3] at eT
   refine ptr_of (a:=⟨rr,0,none⟩) (ldP_of (hpA H 1 rfl rfl) ?_)
   refine tbit_ok' hS H eT fun h H=>⟨_,_,rfl,tneed_ok ?_⟩
   rw [<- hA3] at H
   have e1:(((i.d.toNat:Nat):Int) == (1:Int))=i.d:=by cases i.d <;> rfl
   rw [e1]
   rw [hRcd] at H
   refine stA H 0 rfl rfl rfl fun h H=>?_
   rw [hRcd]
   exact H
  ·rw [if_neg (by rw [h1]; decide)] at hA3
   have e1:i.d=false:=Bool.eq_false_iff.2 fun hh=>by
    rw [hrf hh] at h1
    cases h1
   rw [hA3,List.append_nil,e1]
   exact H
 clear H
 rintro h u H
 have eT:T=(A++A1++A2++A3)++(A4++B):=by rw [eT]; simp only [List.append_assoc]
 have hfin:A++A1++A2++A3++A4=A++(A1++(A2++(A3++A4))):=by simp only [List.append_assoc]
 obtain ⟨A5,hA5⟩:∃ A5,A5=A++A1++A2++A3:=⟨_,rfl⟩
 rw [<- hA5] at H eT hfin
 rw [<- hfin] at hk
 refine ⟨fun _ h'=>∃ o:OwI,o.i=i/\o.Ok/\Hp hB [] h' ((⟨r9,true,T_api_Instance,o.cs⟩::rtE rr p t q l0.length c q2 sy.length c2 left (area+i.b.w*i.b.h)::(X++R))++(decL p qd e bp bc (D (A5++A4).length)++o.D)),?_,?_⟩
 ·refine ptr_of (a:=⟨rr,0,none⟩) (ldS_of (hpA H 1 rfl rfl) (ldI_of (rdR H 2 _ rfl) (needs_of (by omega) ?_)))
  obtain ⟨a,q3,c3,ha,hc0⟩:=hs _ _ (sym_at hi)
  have hc:=hc0.ext H.hext
  refine ptr_eq ha ?_
  refine ldI_of hc.c0 (ldI_of hc.c1 (ldS_of hc.c2 ?_))
  obtain ⟨s,hsd⟩:∃ s,s=symOf sy i.s:=⟨_,rfl⟩
  rw [<- hsd] at hc0 hc ⊢
  refine newC_hp H fun r104 h H=>?_
  have H:=H.rot
  have H:Hp hB [] h (⟨r104,true,T_api_Bitmap,[.int .i64 0, .int .i64 0, .slice none 0 0]⟩::((Rc i.y i.s i.d ⟨0,0,[]⟩ none 0::rtE rr p t q l0.length c q2 sy.length c2 left area::(X++R))++decL p qd e bp bc (D A5.length))):=H
  repeat first | with_reducible refine stA H 0 (by with_unfolding_all exact rfl) (by with_unfolding_all exact rfl) (by with_unfolding_all exact rfl) fun h H=>?_ | with_reducible refine st0 H 0 (by with_unfolding_all exact rfl) (by with_unfolding_all exact rfl) (by with_unfolding_all exact rfl) fun h H=>?_ | with_reducible refine stB H 0 (by with_unfolding_all exact rfl) (by with_unfolding_all exact rfl) (by with_unfolding_all exact rfl) fun h H=>?_
  rw [hRcd] at H
  have H:Hp hB [] h ((⟨r104,true,T_api_Bitmap,[.int .i64 s.w, .int .i64 s.h, .slice q3 s.ws.length c3]⟩::⟨r9,true,T_api_Instance,[.int .i64 i.x, .int .i64 i.y, .int .i64 i.s, .bool i.d, .int .i64 0, .int .i64 0, .slice none 0 0]⟩::rtE rr p t q l0.length c q2 sy.length c2 left area::(X++R))++decL p qd e bp bc (D A5.length)):=H
  refine ldB_of (hpA H 1 rfl rfl) (bcase_of (fun h1=>?_) fun h1=>?_)
  ·have hmay:=hi.2.2.2.2 h1
   rw [<- hsd] at hmay
   have hsmay:s.may:=hsd ▸ hm _ (List.mem_of_getElem? (sym_at hi))
   rw [if_pos h1] at hA4
   obtain ⟨W,XX,e1,e2,hW1,hW2,hX1,hX2,hWX⟩:=size_nat hsmay.1
   have hmul:s.w*s.h=((W*XX:Nat):Int):=by rw [e1,e2]; simp
   have hmul2:i.b.w*i.b.h=((W*XX:Nat):Int):=by rw [hmay.2.2.1,hmay.2.2.2.1,hmul]
   refine ptr_of (a:=⟨rr,0,none⟩) (ldI_of (hpA H 2 rfl rfl) (ldI_of (hpA H 0 rfl rfl) (ldI_of (hpA H 0 rfl rfl) ?_)))
   refine bindI_of (((W*XX:Nat):Int)) (by exact i64_at _ _ hmul (by omega) (by omega)) ?_
   rw [hmul2] at har ⊢
   refine bindI_of ((area+((W*XX:Nat):Int))) (by exact i64_in _ (by omega) (by omega)) ?_
   refine ptr_of (a:=⟨rr,0,none⟩) ?_
   refine stA H 2 rfl rfl rfl fun h H=>?_
   have H:Hp hB [] h ((⟨r104,true,T_api_Bitmap,[.int .i64 s.w, .int .i64 s.h, .slice q3 s.ws.length c3]⟩::⟨r9,true,T_api_Instance,[.int .i64 i.x, .int .i64 i.y, .int .i64 i.s, .bool i.d, .int .i64 0, .int .i64 0, .slice none 0 0]⟩::rtE rr p t q l0.length c q2 sy.length c2 left (area+((W*XX:Nat):Int))::(X++R))++decL p qd e bp bc (D A5.length)):=H
   refine ptr_of (a:=⟨rr,0,none⟩) (ldI_of (hpA H 2 rfl rfl) ?_)
   refine tbig_ok (by rw [decide_eq_false (by omega)]) ?_
   refine ptr_of (a:=⟨rr,0,none⟩) (ldP_of (hpA H 2 rfl rfl) ?_)
   refine ldI_of (hpA H 0 rfl rfl) (ldI_of (hpA H 0 rfl rfl) (ldI_of (hpA H 0 rfl rfl) (ldI_of (hpA H 0 rfl rfl) (ldS_of (hpA H 0 rfl rfl) ?_))))
   rw [hA4] at eT
   unfold refT at eT hA4
   rw [<- hsd] at eT hA4
   refine tref_ok (m:=i.b) (s:=s) hS H hmay.2.1 hiw hsmay hmay.2.2.1 hmay.2.2.2.1 (H.rdO hc0.r1) hc0.w1 hc0.l1 eT fun Dm qo co h hsl H=>?_
   rw [<- hA4] at H
   refine ⟨_,_,_,_,_,_,rfl,?_⟩
   refine stB H 1 rfl rfl rfl fun h H=>?_
   refine stB H 1 rfl rfl rfl fun h H=>?_
   refine stB H 1 rfl rfl rfl fun h H=>?_
   have hib:i.b.ws.length<=1048576:=hi.ws
   obtain ⟨o,ho⟩:∃ o:OwI,o=⟨i,qo,co,Dm⟩:=⟨_,rfl⟩
   have hoi:o.i=i:=by rw [ho]
   have hoOk:o.Ok:=by rw [ho]; exact ⟨hsl,hiw,by show i.b.ws.length<_; omega⟩
   have H:Hp hB [] h ((⟨r104,true,T_api_Bitmap,[.int .i64 s.w, .int .i64 s.h, .slice q3 s.ws.length c3]⟩::⟨r9,true,T_api_Instance,o.cs⟩::rtE rr p t q l0.length c q2 sy.length c2 left (area+((W*XX:Nat):Int))::(X++R))++(decL p qd e bp bc (D (A5++A4).length)++o.D)):=by rw [ho]; exact H
   have hov:rdO h o.q (o.i.b.ws.length*1) (u64s o.i.b.ws):=Slot.rdO' hoOk.s H fun e he=>List.mem_append_right _ (List.mem_append_right _ he)
   refine tneed_ok ?_
   refine ldI_of (hpB H 1 rfl rfl) (ldI_of (hpB H 1 rfl rfl) (ldS_of (hpB H 1 rfl rfl) ?_))
   refine ldI_of (hpA H 0 rfl rfl) (ldI_of (hpA H 0 rfl rfl) (ldS_of (hpA H 0 rfl rfl) ?_))
   refine equal_ok (b1:=o.i.b) (b2:=s) hov (H.rdO hc0.r1) hoOk.w hc0.w1 hoOk.l hc0.l1 (by rw [hoi]; exact hmay.2.1) hsmay fun h' e=>⟨_,rfl,?_⟩
   have H:=H.ext e
   refine twrong_ok (by rw [hoi]; exact decide_eq_false fun hh=>hmay.2.2.2.2 hh.2.2) ?_
   exact ⟨o,hoi,hoOk,Hp.suf (X:=[_]) H⟩
  ·rw [if_neg (by rw [h1]; decide)] at hA4
   have hz:=hi.2.2.2.1 h1
   refine ⟨⟨i,none,0,[]⟩,rfl,⟨?_,hiw,by rw [hz.2.2]; decide⟩,?_⟩
   ·show Slot T_uint64 1 [] none i.b.ws.length 0 (u64s i.b.ws)
    rw [hz.2.2]
    exact Slot.nil _ _
   ·have e0:(⟨i,none,0,[]⟩:OwI).cs=[.int .i64 i.x, .int .i64 i.y, .int .i64 i.s, .bool i.d, .int .i64 0, .int .i64 0, .slice none 0 0]:=by
     show [Value.int .i64 i.x, .int .i64 i.y, .int .i64 i.s, .bool i.d, .int .i64 i.b.w, .int .i64 i.b.h, .slice none i.b.ws.length 0]=_
     rw [hz.1,hz.2.1,hz.2.2]
     rfl
    rw [e0,hz.1,hz.2.1,hA4,List.append_nil,Int.zero_mul,Int.add_zero,List.append_nil]
    exact Hp.suf (X:=[_]) H
 clear H rdR
 rintro h u ⟨o,hoi,hoOk,H⟩
 refine ptr_of (a:=⟨rr,0,none⟩) (ldS_of (hpB H 1 rfl rfl) ?_)
 repeat first | with_reducible refine ldI_of (by with_unfolding_all first | exact hpA H 0 rfl rfl | exact Hp.cell H 0 rfl rfl | exact hpB H 0 rfl rfl | exact hpC H 0 rfl rfl) ?_ | with_reducible refine ldS_of (by with_unfolding_all first | exact hpA H 0 rfl rfl | exact Hp.cell H 0 rfl rfl | exact hpB H 0 rfl rfl | exact hpC H 0 rfl rfl) ?_ | with_reducible refine ldP_of (by with_unfolding_all first | exact hpA H 0 rfl rfl | exact Hp.cell H 0 rfl rfl | exact hpB H 0 rfl rfl | exact hpC H 0 rfl rfl) ?_ | with_reducible refine ldB_of (by with_unfolding_all first | exact hpA H 0 rfl rfl | exact Hp.cell H 0 rfl rfl | exact hpB H 0 rfl rfl | exact hpC H 0 rfl rfl) ?_ | with_reducible refine ldT_of (by with_unfolding_all first | exact hpA H 0 rfl rfl | exact Hp.cell H 0 rfl rfl | exact hpB H 0 rfl rfl | exact hpC H 0 rfl rfl) ?_
 refine newC_hp H fun r160 h H=>?_
 have hoD:=hoOk.s.w
 have hRw:=hL.w
 have H:Hp hB [] h (((⟨r9,true,T_api_Instance,o.cs⟩::rtE rr p t q l0.length c q2 sy.length c2 left (area+i.b.w*i.b.h)::X)++decL p qd e bp bc (D (A5++A4).length))++R++(o.D++[⟨r160,true,T_api_Instance,o.cs⟩])):=by
  have H:Hp hB [] h (((⟨r9,true,T_api_Instance,o.cs⟩::rtE rr p t q l0.length c q2 sy.length c2 left (area+i.b.w*i.b.h)::X)++R++decL p qd e bp bc (D (A5++A4).length))++(o.D++[⟨r160,true,T_api_Instance,o.cs⟩])):=H.as (by simp only [List.cons_append,List.append_assoc]; rfl)
  refine H.perm (List.Perm.append_right _ ?_)
  rw [List.append_assoc,List.append_assoc]
  exact List.Perm.append_left _ List.perm_append_comm
 refine hL.app hoOk H hl0 fun R' q' c' h' hL' H=>?_
 rw [hoi] at hL'
 have H:=Hp.swap H
 have H:Hp hB [] h' (⟨r9,true,T_api_Instance,o.cs⟩::rtE rr p t q l0.length c q2 sy.length c2 left (area+i.b.w*i.b.h)::((X++R')++decL p qd e bp bc (D (A5++A4).length))):=H
 refine ptr_of (a:=⟨rr,0,none⟩) ?_
 refine stB H 1 rfl rfl rfl fun h H=>?_
 refine ptr_of (a:=⟨rr,0,none⟩) (ldI_of (hpA H 1 rfl rfl) ?_)
 refine bindI_of ((left-1)) (by exact i64_in _ (by omega) (by omega)) ?_
 refine ptr_of (a:=⟨rr,0,none⟩) ?_
 refine stA H 1 rfl rfl rfl fun h H=>?_
 refine hk R' q' c' h hL' ?_
 exact Hp.suf (X:=[⟨r9,true,T_api_Instance,o.cs⟩]) H
end
end Go.Bm
namespace Go.Bm
open Go Go.Den Go.Den.YtbknfejmdekhpaaGreat
open Go.Ar (Dec newC decL)
theorem Hp.keepY {h0 h h':Heap} {F:List Nat} {Y S S':List Ent} (H:Hp h0 F h (Y++S)) (H':Hp h (S.map Ent.b) h' S'):hkeep (fun b=>b∈Y.map Ent.b) h h':=⟨H'.fr.1,fun b hb hR=>H'.fr.2 b hb fun hm=>by
 obtain ⟨x,hx,rfl⟩:=List.mem_map.1 hR
 obtain ⟨y,hy,he⟩:=List.mem_map.1 hm
 exact (List.pairwise_append.1 H.pw).2.2 x hx y hy he.symm⟩
theorem srt_next {st:Nat} {S:List Ins} (h:Srt (keyI st) S) {k:Nat} {a b:Ins} (ha:S[k]? = some a) (hb:S[k+1]? = some b):flo a.y st<=flo b.y st/\(flo a.y st=flo b.y st->a.x<=b.x):=by
 obtain ⟨h1,e1⟩:=List.getElem?_eq_some_iff.1 ha
 obtain ⟨h2,e2⟩:=List.getElem?_eq_some_iff.1 hb
 have:=List.pairwise_iff_getElem.1 h k (k+1) h1 h2 (Nat.lt_succ_self k)
 rw [e1,e2] at this
 unfold Key.lt keyI at this
 dsimp only at this
 omega
theorem arI_take (l:List Ins) (k:Nat):arI (l.take k)<=arI l:=by
 have:arI l=arI (l.take k)+arI (l.drop k):=by
  unfold arI
  rw [<- List.sum_append,<- List.map_append,List.take_append_drop]
 omega
section
variable {hB h:Heap} {K:VK} {Kp:PK}
variable {rr p qd bc:Nat} {e:Ent} {bp:Option Addr} {t:Reg14} {q2:Option Addr} {c2:Nat} {sy:List Bmp} {T:List (Nat × Nat)} {D:Nat->Dec} {b:List Nat} {X:List Ent} {S:List Ins}
set_option maxHeartbeats 8000000 in
theorem tall_ok (hS:Strm T D b e bp) (H:Hp hB [] h ((rtE rr p t none 0 0 q2 sy.length c2 (S.length:Nat) 0::X)++decL p qd e bp bc (D 0))) (hXw:X.all Ent.w=true) (hT0:stpD t sy S 0 0 0 false=T)
  (hs:BmsV hB q2 sy) (hm:MayL sy) (hsl:sy.length<=4096) (hst:0<=t.st/\t.st<=3) (hSi:∀ i∈S,InsOk t.rf sy i) (hSw:∀ i∈S,W64 i.b.ws) (hsr:Srt (keyI t.st.toNat) S) (hl:S.length<=16384) (har:arI S<=1048576)
  (hk:∀ R q c h',ListI R q c S->Hp hB [] h' ((rtE rr p t q S.length c q2 sy.length c2 0 (arI S:Nat)::(X++R))++decL p qd e bp bc (D T.length))->K (.tuple #[]) h') :
  CP F_text_reader_all #[.pointer (some ⟨rr,0,none⟩)] h K Kp:=by
 refine call_text_reader_all ?_
 unfold text_reader_all
 have hstl:t.st.toNat<=3:=by omega
 refine ⟨fun m vs h'=>∃ (k:Nat) (ah fi x:Int) (bg:Bool) (A:List (Nat × Nat)) (R:List Ent) (q:Option Addr) (c:Nat),k+m=S.length/\vs=[.int .i64 ah, .int .i64 fi, .bool bg]/\(-1048576<=ah/\ah<=1048576)/\(-1048576<=fi/\fi<=1048576)/\A++stpD t sy (S.drop k) ah fi x false=T /\
   (bg=true->∀ i,S[k]? = some i->ah<flo i.y t.st.toNat)/\ListI R q c (S.take k)/\Hp hB [] h' ((rtE rr p t q (S.take k).length c q2 sy.length c2 ((S.length-k:Nat):Int) (arI (S.take k):Nat)::(X++R))++decL p qd e bp bc (D A.length)),
  ⟨S.length,0,0,0,0,false,[],[],none,0,by omega,rfl,by omega,by omega,hT0,(fun hh=>by cases hh),ListI.nil,by rw [List.append_nil]; exact H⟩,?_⟩
 clear H hT0
 rintro m h u xa xf xb ⟨k,ah,fi,x,bg,A,R,q,c,hkm,hxx,hah,hfi,hA,hbg,hL,H⟩
 injection hxx with hx1 hxx
 injection hxx with hx2 hxx
 injection hxx with hx3 hxx
 injection hx1 with _ hx1
 injection hx2 with _ hx2
 injection hx3 with hx3
 subst xa xf xb
 refine ptr_of (a:=⟨rr,0,none⟩) (ldI_of (hpA H 0 rfl rfl) ?_)
 refine bcase_dec (fun h5=>?_) fun h5=>?_
 rotate_left
 ·obtain rfl:k=S.length:=by omega
  rw [List.drop_length] at hA
  unfold stpD at hA
  rw [if_neg (by decide),List.append_nil] at hA
  subst hA
  rw [List.take_of_length_le (Nat.le_refl _),Nat.sub_self] at H
  rw [List.take_of_length_le (Nat.le_refl _)] at hL
  exact hk R q c h hL H
 obtain ⟨i,hi⟩:∃ i,S[k]? = some i:=⟨_,List.getElem?_eq_getElem (by omega)⟩
 have hio:=hSi _ (List.mem_of_getElem? hi)
 have hfl:=flo_le hstl hio.2.2.1
 have hxb:=hio.2.1
 rw [drop_get hi] at hA
 unfold stpD at hA
 rw [if_neg (fun hh=>by cases hh.1),if_neg (by decide),List.nil_append] at hA
 unfold begD at hA
 obtain ⟨s,hs'⟩:∃ s,s=flo i.y t.st.toNat:=⟨_,rfl⟩
 rw [<- hs'] at hA hfl
 have hA:T=A++(dsWh 14337 0 (s-ah) false++(dsWh 14337 512 (i.x-fi) false++(insD t sy i++stpD t sy (S.drop (k+1)) s i.x i.x true))):=by rw [<- hA]; simp only [List.append_assoc]
 refine tnum_ok hS H hA (.inr (by omega)) (by omega) fun h H=>⟨_,_,rfl,?_⟩
 refine newC_hp H fun r15 h H=>?_
 have H:=H.rot
 have H:Hp hB [] h (⟨r15,true,T_api_Whole,[.int .i64 0, .bool false]⟩::((rtE rr p t q (S.take k).length c q2 sy.length c2 ((S.length-k:Nat):Int) (arI (S.take k):Nat)::(X++R))++decL p qd e bp bc (D (A++dsWh 14337 0 (s-ah) false).length))):=H
 refine stA H 0 rfl rfl rfl fun h H=>?_
 refine stA H 0 rfl rfl rfl fun h H=>?_
 have H:Hp hB [] h (⟨r15,true,T_api_Whole,[.int .i64 (s-ah), .bool false]⟩::((rtE rr p t q (S.take k).length c q2 sy.length c2 ((S.length-k:Nat):Int) (arI (S.take k):Nat)::(X++R))++decL p qd e bp bc (D (A++dsWh 14337 0 (s-ah) false).length))):=H
 refine ⟨fun _ h'=>h'=h,?_,?_⟩
 ·refine ldB_of (hpA H 0 rfl rfl) (bcase_false rfl ?_)
  refine bcase_of (fun h1=>?_) fun h1=>?_
  ·have:=hbg h1 i hi
   exact ldI_of (hpA H 0 rfl rfl) (twrong_ok (decide_eq_false (by omega)) rfl)
  ·exact twrong_ok rfl rfl
 rintro h' u rfl
 refine ldI_of (hpA H 0 rfl rfl) ?_
 refine bindI_of s (by rw [show ah+(s-ah)=s by omega]; exact i64_in _ (by omega) (by omega)) ?_
 have H:=H.perm (List.Perm.swap _ _ _)
 have hA2:T=(A++dsWh 14337 0 (s-ah) false)++(dsWh 14337 512 (i.x-fi) false++(insD t sy i++stpD t sy (S.drop (k+1)) s i.x i.x true)):=by rw [hA]; simp only [List.append_assoc]
 refine tnum_ok (X:=⟨r15,true,T_api_Whole,[.int .i64 (s-ah), .bool false]⟩::(X++R)) hS H hA2 (.inr (by omega)) (by omega) fun h H=>⟨_,_,rfl,?_⟩
 have H:Hp hB [] h (rtE rr p t q (S.take k).length c q2 sy.length c2 ((S.length-k:Nat):Int) (arI (S.take k):Nat)::⟨r15,true,T_api_Whole,[.int .i64 (s-ah), .bool false]⟩::((X++R)++decL p qd e bp bc (D (A++dsWh 14337 0 (s-ah) false++dsWh 14337 512 (i.x-fi) false).length))):=H
 refine stA H 1 rfl rfl rfl fun h H=>?_
 refine stA H 1 rfl rfl rfl fun h H=>?_
 refine ldB_of (hpA H 1 rfl rfl) (twrong_ok rfl ?_)
 refine ldI_of (hpA H 1 rfl rfl) ?_
 refine bindI_of i.x (by show IntKind.i64.wrap (fi+(i.x-fi))=i.x; rw [show fi+(i.x-fi)=i.x by omega]; exact i64_in _ (by omega) (by omega)) ?_
 have H:=H.perm (List.Perm.swap _ _ _)
 have H:=Hp.suf (X:=[_]) H
 have H:Hp hB [] h ((rtE rr p t q (S.take k).length c q2 sy.length c2 ((S.length-k:Nat):Int) (arI (S.take k):Nat)::(X++R))++decL p qd e bp bc (D (A++dsWh 14337 0 (s-ah) false++dsWh 14337 512 (i.x-fi) false).length)):=H
 obtain ⟨fx,hfx⟩:∃ fx,fx=i.x:=⟨_,rfl⟩
 have hfxb:-1048576<=fx/\fx<=1048576:=by omega
 refine ⟨fun m' vs h'=>∃ (k:Nat) (i:Ins) (A:List (Nat × Nat)) (R:List Ent) (q:Option Addr) (c:Nat),k+m'=S.length/\S.length-k<=m/\vs=[.int .i64 i.x]/\S[k]? = some i/\flo i.y t.st.toNat=s/\T=A++(insD t sy i++stpD t sy (S.drop (k+1)) s fx i.x true) /\
   ListI R q c (S.take k)/\Hp hB [] h' ((rtE rr p t q (S.take k).length c q2 sy.length c2 ((S.length-k:Nat):Int) (arI (S.take k):Nat)::(X++R))++decL p qd e bp bc (D A.length)),
  ⟨S.length-k,k,i,_,R,q,c,by omega,by omega,rfl,hi,hs'.symm,by rw [hA,hfx]; simp only [List.append_assoc],hL,H⟩,?_⟩
 clear H hL hA hA2
 rintro m' h u xk ⟨k',i',A,R,q,c,hkm',hkm2,hxx,hi',hsi,hA,hL,H⟩
 injection hxx with hx1 hxx
 injection hx1 with _ hx1
 subst xk
 have hk':k'<S.length:=(List.getElem?_eq_some_iff.1 hi').1
 have hio':=hSi _ (List.mem_of_getElem? hi')
 have hiw':=hSw _ (List.mem_of_getElem? hi')
 have htl:(S.take k').length=k':=by rw [List.length_take]; omega
 have htk:S.take (k'+1)=S.take k'++[i']:=take_snocG hi'
 obtain ⟨W,XX,e1,e2,hWX⟩:=hio'.nat
 have hA1:arI (S.take (k'+1))=arI (S.take k')+W*XX:=by rw [htk,arI_snoc,e1,e2,Int.toNat_natCast,Int.toNat_natCast]
 have hA2:=arI_take S (k'+1)
 have hmul:i'.b.w*i'.b.h=((W*XX:Nat):Int):=by rw [e1,e2]; simp
 rw [<- hsi]
 refine tone_ok hS H hXw hL (by omega) hA hs hm hsl hst hio' hiw' (by omega) (by omega) fun R q c h hL H=>?_
 rw [hmul] at H
 have e3:(((arI (S.take k'):Nat):Int)+((W*XX:Nat):Int))=(arI (S.take (k'+1)):Nat):=by omega
 have e4:(((S.length-k':Nat):Int)-1)=((S.length-(k'+1):Nat):Int):=by omega
 have e5:(S.take k').length+1=(S.take (k'+1)).length:=by rw [htk,List.length_append]; rfl
 rw [e3,e4,e5] at H
 rw [<- htk] at hL
 obtain ⟨A',hA'⟩:∃ A',A'=A++insD t sy i':=⟨_,rfl⟩
 rw [<- List.append_assoc,<- hA'] at hA
 rw [<- hA'] at H
 rw [hsi]
 have fin:(∀ j,(S.drop (k'+1))[0]? = some j->flo j.y t.st.toNat≠s)->CP F_text_reader_number #[.pointer (some ⟨rr,0,none⟩), .int .i64 1024] h (fun v_51 h_52=>∃ (r_53:Int) (r_54:Bool),v_51 = .agg #[.int .i64 r_53, .bool r_54]/\(newC h_52 [.int .i64 0, .bool false] T_api_Whole fun r_55 h_56=>stV h_56 ((⟨r_55,0,none⟩:Addr).add 0) (.int .i64 r_53) fun h_57=>stV h_57 ((⟨r_55,0,none⟩:Addr).add 1) (.bool r_54) fun h_58 =>
   ldB h_58 ((⟨r_55,0,none⟩:Addr).add 1) fun x_59=>bcase x_59 (∃ m_2,m_2<m/\∃ (k:Nat) (ah fi x:Int) (bg:Bool) (A:List (Nat × Nat)) (R:List Ent) (q:Option Addr) (c:Nat),k+m_2=S.length/\[Value.int .i64 s, .int .i64 i.x, .bool true]=[Value.int .i64 ah, .int .i64 fi, .bool bg]/\(-1048576<=ah/\ah<=1048576)/\(-1048576<=fi/\fi<=1048576)/\A++stpD t sy (S.drop k) ah fi x false=T /\
   (bg=true->∀ i,S[k]? = some i->ah<flo i.y t.st.toNat)/\ListI R q c (S.take k)/\Hp hB [] h_58 ((rtE rr p t q (S.take k).length c q2 sy.length c2 ((S.length-k:Nat):Int) (arI (S.take k):Nat)::(X++R))++decL p qd e bp bc (D A.length))) <|
   ptr (some ⟨rr,0,none⟩) fun a_60=>ldI h_58 (a_60.add 11) .i64 fun x_61=>bcase (x_61 == (0:Int)) (CP F_text_wrong #[.bool true] h_58 (fun v_62 h_63=>ldI h_63 ((⟨r_55,0,none⟩:Addr).add 0) .i64 fun x_64=>bindI (IntKind.i64.wrap (i'.x+x_64)) fun z_65=>∃ m_44,m_44<m'/\∃ (k:Nat) (i:Ins) (A:List (Nat × Nat)) (R:List Ent) (q:Option Addr) (c:Nat),k+m_44=S.length/\S.length-k<=m/\[Value.int .i64 z_65]=[.int .i64 i.x]/\S[k]? = some i/\flo i.y t.st.toNat=s/\T=A++(insD t sy i++stpD t sy (S.drop (k+1)) s fx i.x true) /\
   ListI R q c (S.take k)/\Hp hB [] h_63 ((rtE rr p t q (S.take k).length c q2 sy.length c2 ((S.length-k:Nat):Int) (arI (S.take k):Nat)::(X++R))++decL p qd e bp bc (D A.length))) (Kp)) <|
   ldI h_58 ((⟨r_55,0,none⟩:Addr).add 0) .i64 fun x_66=>CP F_text_wrong #[.bool (decide (x_66<(0:Int)))] h_58 (fun v_67 h_68=>ldI h_68 ((⟨r_55,0,none⟩:Addr).add 0) .i64 fun x_69=>bindI (IntKind.i64.wrap (i'.x+x_69)) fun z_70=>∃ m_44,m_44<m'/\∃ (k:Nat) (i:Ins) (A:List (Nat × Nat)) (R:List Ent) (q:Option Addr) (c:Nat),k+m_44=S.length/\S.length-k<=m/\[Value.int .i64 z_70]=[.int .i64 i.x]/\S[k]? = some i/\flo i.y t.st.toNat=s/\T=A++(insD t sy i++stpD t sy (S.drop (k+1)) s fx i.x true) /\
   ListI R q c (S.take k)/\Hp hB [] h_68 ((rtE rr p t q (S.take k).length c q2 sy.length c2 ((S.length-k:Nat):Int) (arI (S.take k):Nat)::(X++R))++decL p qd e bp bc (D A.length))) (Kp))) (Kp):=fun hcl=>by
  have hA2:=hA
  rw [stpD_close hcl] at hA2
  unfold noneT at hA2
  refine tnum_ok hS H hA2 (.inl rfl) (by omega) fun h H=>⟨_,_,rfl,?_⟩
  refine newC_hp H fun r55 h H=>?_
  have H:=H.rot
  have H:Hp hB [] h (⟨r55,true,T_api_Whole,[.int .i64 0, .bool false]⟩::((rtE rr p t q (S.take (k'+1)).length c q2 sy.length c2 ((S.length-(k'+1):Nat):Int) (arI (S.take (k'+1)):Nat)::(X++R))++decL p qd e bp bc (D (A'++dsWh 14337 1024 0 true).length))):=H
  refine stA H 0 rfl rfl rfl fun h H=>?_
  refine stA H 0 rfl rfl rfl fun h H=>?_
  refine ldB_of (hpA H 0 rfl rfl) (bcase_true rfl ?_)
  refine ⟨S.length-(k'+1),by omega,k'+1,s,i.x,i'.x,true,_,R,q,c,by omega,rfl,by omega,hxb,by rw [hA2,List.append_assoc,hfx],fun _ j hj=>?_,hL,Hp.suf (X:=[_]) H⟩
  have h7:=srt_next hsr hi' hj
  have h8:=hcl j (by rw [List.getElem?_drop]; exact hj)
  omega
 rcases Nat.lt_or_ge (k'+1) S.length with h6 | h6
 rotate_left
 ·exact fin fun j hj=>by
   rw [List.drop_of_length_le h6] at hj
   cases hj
 obtain ⟨j,hj⟩:∃ j,S[k'+1]? = some j:=⟨_,List.getElem?_eq_getElem h6⟩
 have hd2:=drop_get hj
 have hjo:=hSi _ (List.mem_of_getElem? hj)
 by_cases h7:flo j.y t.st.toNat=s
 rotate_left
 ·exact fin fun j' hj'=>by
   rw [hd2] at hj'
   injection hj' with hj'
   subst hj'
   exact h7
 clear fin
 rw [hd2,stpD,if_pos ⟨rfl,h7⟩] at hA
 have h8:=(srt_next hsr hi' hj).2 (by rw [hsi,h7])
 have hb1:=hio'.2.1
 have hb2:=hjo.2.1
 refine tnum_ok hS H hA (.inr (by omega)) (by omega) fun h H=>⟨_,_,rfl,?_⟩
 refine newC_hp H fun r55 h H=>?_
 have H:=H.rot
 have H:Hp hB [] h (⟨r55,true,T_api_Whole,[.int .i64 0, .bool false]⟩::((rtE rr p t q (S.take (k'+1)).length c q2 sy.length c2 ((S.length-(k'+1):Nat):Int) (arI (S.take (k'+1)):Nat)::(X++R))++decL p qd e bp bc (D (A'++dsWh 14337 1024 (j.x-i'.x) false).length))):=H
 refine stA H 0 rfl rfl rfl fun h H=>?_
 refine stA H 0 rfl rfl rfl fun h H=>?_
 refine ldB_of (hpA H 0 rfl rfl) (bcase_false rfl ?_)
 refine ptr_of (a:=⟨rr,0,none⟩) (ldI_of (hpA H 1 rfl rfl) ?_)
 refine bcase_eq (fun h9=>by omega) fun h9=>?_
 refine ldI_of (hpA H 0 rfl rfl) (twrong_ok (decide_eq_false (by show ¬ (j.x-i'.x<0); omega)) ?_)
 refine ldI_of (hpA H 0 rfl rfl) ?_
 refine bindI_of j.x (by show IntKind.i64.wrap (i'.x+(j.x-i'.x))=j.x; rw [show i'.x+(j.x-i'.x)=j.x by omega]; exact i64_in _ (by omega) (by omega)) ?_
 exact ⟨m'-1,by omega,k'+1,j,_,R,q,c,by omega,by omega,rfl,hj,h7,by rw [hA]; simp only [List.append_assoc],hL,Hp.suf (X:=[_]) H⟩
end
end Go.Bm
namespace Go.Bm
open Go Go.Den Go.Den.YtbknfejmdekhpaaGreat
open Go.Ar (u8s)
theorem varP_at {b:List Nat} {i n:Nat} {rest:List Nat} (h:b.drop i=grp n++rest) (hn:n<=1048576):varP b i=(0,n,i+(grp n).length)/\b.drop (i+(grp n).length)=rest:=by
 have h1:=varF_grp (b:=b) (i:=i) (rest:=rest) 10 0 n 0 rfl h (by rw [Nat.pow_zero,Nat.mul_one]; exact lt9 hn) (fun hh=>absurd hh (Nat.lt_irrefl 0))
 rw [Nat.pow_zero,Nat.mul_one,Nat.zero_add,Nat.add_zero] at h1
 refine ⟨h1,?_⟩
 rw [<- List.drop_drop,h,List.drop_left]
theorem drop_lt {b:List Nat} {i:Nat} {x:Nat} {r:List Nat} (h:b.drop i=x::r):i<b.length:=by
 rcases Nat.lt_or_ge i b.length with h1 | h1
 ·exact h1
 ·rw [List.drop_of_length_le h1] at h
  cases h
theorem drop_grp {b:List Nat} {i n:Nat} {rest:List Nat} (h:b.drop i=grp n++rest):i+(grp n).length<=b.length:=by
 have h1:(b.drop i).length=b.length-i:=List.length_drop
 have h2:=(grp_len n).1
 rw [h,List.length_append] at h1
 omega
theorem hw_tab:((List.range 128).all fun a=>Nat.beq (a &&& 7) (a % 8) && Nat.beq (a &&& 8) (a / 8 % 2*8) && Nat.beq (a / 16 &&& 1) (a / 16 % 2))=true:=by decide +kernel
theorem hw_at {a:Nat} (h:a<128):a &&& 7=a % 8/\a &&& 8=a / 8 % 2*8/\a / 16 &&& 1=a / 16 % 2:=by
 have:=List.all_eq_true.1 hw_tab a (List.mem_range.2 h)
 rw [Bool.and_eq_true,Bool.and_eq_true] at this
 exact ⟨Nat.eq_of_beq_eq_true this.1.1,Nat.eq_of_beq_eq_true this.1.2,Nat.eq_of_beq_eq_true this.2⟩
theorem howT_at {t:Reg14} (h:RegOk t):((howT t % 8:Nat):Int)=t.op/\(howT t / 8 % 2=if t.rf=true then 1 else 0)/\((howT t / 16 % 2:Nat):Int)=t.df/\((howT t / 32:Nat):Int)=t.st:=by
 have:=h.2.2.2
 unfold howT
 split <;> omega
theorem andU (a b:Nat) (ha:a<256) (hb:b<256):bitI .and .u64 (a:Int) (b:Int)=((a &&& b:Nat):Int):=(bits_nat .u64 64 (by decide) wr64 a b (Nat.lt_of_lt_of_le ha (by decide)) (Nat.lt_of_lt_of_le hb (by decide))).1
section
variable {h0 h:Heap} {FF:List Nat} {K:VK} {Kp:PK}
variable {r c i:Nat} {q:Option Addr} {b rest:List Nat} {Dr:List Ent}
theorem tvar_ok (H:Hp h0 FF h (rdE r q b.length c i::Dr)) (hs:Slot T_uint8 1 Dr q b.length c (u8s b)) (hb:RdB b) {x:Nat} (hd:b.drop i=grp x++rest) (hx:x<=1048576)
  (hk:∀ h',b.drop (i+(grp x).length)=rest->Hp h0 FF h' (rdE r q b.length c (i+(grp x).length)::Dr)->K (.int .u64 (x:Nat)) h'):CP F_text_variable #[.pointer (some ⟨r,0,none⟩)] h K Kp:=by
 refine call_text_variable ?_
 unfold text_variable
 have hle:=drop_grp hd
 obtain ⟨hv,hd'⟩:=varP_at hd hx
 refine rvar_ok H hs hb (by omega) fun h' H=>⟨_,_,rfl,?_⟩
 rw [hv] at H ⊢
 exact twrong_ok rfl (hk h' hd' H)
set_option maxHeartbeats 4000000 in
theorem topened_ok (H:Hp h0 FF h (rdE r q b.length c 0::Dr)) (hs:Slot T_uint8 1 Dr q b.length c (u8s b)) (hb:RdB b) {t:Reg14} {n:Nat} {ns:Int} (ht:RegOk t) (hn:n<=16384) (hns:0<n->ns≠0) (hd:b=headT t n++rest)
  (hk:∀ h',Hp h0 FF h' (rdE r q b.length c (headT t n).length::Dr)->K (.tuple #[t.ag none 0 0, .int .i64 (n:Nat)]) h'):CP F_text_opened #[.pointer (some ⟨r,0,none⟩), .int .i64 ns] h K Kp:=by
 refine call_text_opened ?_
 unfold text_opened
 have hsz:=ht.1
 obtain ⟨W,XX,e1,e2,hW1,hW2,hX1,hX2,hWX⟩:=size_nat ht.1
 have hx:=ht.2.1
 have hy:=ht.2.2.1
 have hlen:(headT t n).length=0+(grp t.x.toNat).length+(grp t.y.toNat).length+(grp t.w.toNat).length+(grp t.h.toNat).length+1+(grp n).length:=by
  unfold headT
  simp only [List.length_append,List.length_singleton]
  omega
 unfold headT at hd
 have hd0:b.drop 0=grp t.x.toNat++(grp t.y.toNat++(grp t.w.toNat++(grp t.h.toNat++(howT t::(grp n++rest))))):=by
  rw [List.drop_zero]
  conv=>lhs; rw [hd]
  simp only [List.append_assoc,List.cons_append,List.nil_append]
 clear hd
 have hw:∀ i,(rdE r q b.length c i::Dr).all Ent.w=true:=fun i=>by rw [List.all_cons,hs.w]; rfl
 refine newC_hp H fun r1 h H=>?_
 have H:=H.rot
 have H:Hp h0 FF h ([⟨r1,true,T_api_Text,[.int .i64 0, .int .i64 0, .int .i64 0, .int .i64 0, .int .i64 0, .bool false, .int .i64 0, .int .i64 0, .slice none 0 0]⟩]++(rdE r q b.length c 0::Dr)):=H
 refine tvar_ok (Hp.giveS H) hs hb hd0 (by omega) fun h' hd1 H'=>?_
 have H:=Hp.putS H (hw _) H' (hw _)
 clear H'
 refine ⟨_,rfl,twrong_ok (decide_eq_false (by omega)) ?_⟩
 refine tvar_ok (Hp.giveS H) hs hb hd1 (by omega) fun h' hd2 H'=>?_
 have H:=Hp.putS H (hw _) H' (hw _)
 clear H'
 refine ⟨_,rfl,twrong_ok (decide_eq_false (by omega)) ?_⟩
 refine tvar_ok (Hp.giveS H) hs hb hd2 (by omega) fun h' hd3 H'=>?_
 have H:=Hp.putS H (hw _) H' (hw _)
 clear H'
 refine ⟨_,rfl,twrong_ok (by rw [beq_eq_false_iff_ne]; omega) ?_⟩
 refine tvar_ok (Hp.giveS H) hs hb hd3 (by omega) fun h' hd4 H'=>?_
 have H:=Hp.putS H (hw _) H' (hw _)
 clear H'
 refine ⟨_,rfl,twrong_ok (by rw [beq_eq_false_iff_ne]; omega) ?_⟩
 refine ⟨fun _ h2=>h2=h',?_,?_⟩
 ·refine bcase_dec (fun h1=>by omega) fun h1=>bcase_dec (fun h2=>by omega) fun h2=>?_
  have em:(((t.w.toNat:Nat):Int)*((t.h.toNat:Nat):Int))=((W*XX:Nat):Int):=by rw [e1,e2,Int.toNat_natCast,Int.toNat_natCast]; simp
  refine bindI_of (((W*XX:Nat):Int)) (by (rw [em]; exact u64_in _ (by omega) (by omega))) ?_
  exact tbig_ok (decide_eq_false (by omega)) rfl
 rintro h2 u rfl
 obtain ⟨hb8,hd5⟩:=drop_head hd4
 have hbl8:=drop_lt hd4
 refine rtake8_ok (Hp.giveS H) hs hb (by omega) (fun hh=>by rw [hb8] at hh; cases hh) fun x h' hx8 H'=>?_
 rw [hb8] at hx8
 injection hx8 with hx8
 subst hx8
 have H:=Hp.putS H (hw _) H' (hw _)
 clear H'
 refine ⟨_,_,rfl,?_⟩
 have hlt:=howT_lt ht
 obtain ⟨ha1,ha2,ha3⟩:=hw_at hlt
 obtain ⟨ho1,ho2,ho3,ho4⟩:=howT_at ht
 have hop:=ht.2.2.2.1
 have hst:=ht.2.2.2.2.2
 obtain ⟨a,hadef⟩:∃ a,a=howT t:=⟨_,rfl⟩
 rw [<- hadef] at hlt ha1 ha2 ha3 ho1 ho2 ho3 ho4 ⊢
 refine ⟨fun _ h2=>h2=h',?_,?_⟩
 ·refine bcase_false rfl ?_
  refine bindI_of (((a % 8:Nat):Int)) (by (rw [<- ha1]; exact andU a 7 (by omega) (by omega))) ?_
  refine bcase_dec (fun h1=>by omega) fun h1=>?_
  exact twrong_ok (decide_eq_false (by omega)) rfl
 rintro h2 u rfl
 refine tvar_ok (Hp.giveS H) hs hb hd5 (by omega) fun h' hd6 H'=>?_
 have H:=Hp.putS H (hw _) H' (hw _)
 clear H'
 refine ⟨_,rfl,?_⟩
 refine ⟨fun _ h2=>h2=h',?_,?_⟩
 ·refine bcase_dec (fun h1=>?_) fun h1=>twrong_ok rfl rfl
  exact twrong_ok (by rw [beq_eq_false_iff_ne]; exact hns (by omega)) rfl
 rintro h2 u rfl
 refine tbig_ok (decide_eq_false (by omega)) ?_
 refine bindI_of ((t.x)) (by (rw [Int.toNat_of_nonneg hx.1]; exact i64_in _ (by omega) (by omega))) ?_
 refine bindI_of ((t.y)) (by (rw [Int.toNat_of_nonneg hy.1]; exact i64_in _ (by omega) (by omega))) ?_
 refine bindI_of ((t.w)) (by (rw [Int.toNat_of_nonneg (by omega)]; exact i64_in _ (by omega) (by omega))) ?_
 refine bindI_of ((t.h)) (by (rw [Int.toNat_of_nonneg (by omega)]; exact i64_in _ (by omega) (by omega))) ?_
 refine bindI_of (((a % 8:Nat):Int)) (by (rw [<- ha1]; exact andU a 7 (by omega) (by omega))) ?_
 refine bindI_of ((t.op)) (by (rw [ho1]; exact i64_in _ (by omega) (by omega))) ?_
 refine bindI_of (((a / 8 % 2*8:Nat):Int)) (by (rw [<- ha2]; exact andU a 8 (by omega) (by omega))) ?_
 refine bindI_of (((a / 16:Nat):Int)) (by exact shr_of (i:=4) (by decide)) ?_
 refine bindI_of (((a / 16 % 2:Nat):Int)) (by (rw [<- ha3]; exact andU (a / 16) 1 (by omega) (by omega))) ?_
 refine bindI_of ((t.df)) (by (rw [ho3]; exact i64_in _ (by omega) (by omega))) ?_
 refine bindI_of (((a / 32:Nat):Int)) (by exact shr_of (i:=5) (by decide)) ?_
 refine bindI_of ((t.st)) (by (rw [ho4]; exact i64_in _ (by omega) (by omega))) ?_
 have hrf:((((a / 8 % 2*8:Nat):Int)) != (0:Int))=t.rf:=by
  cases hh:t.rf with
  | true =>
   rw [hh,if_pos rfl] at ho2
   rw [ho2]
   rfl
  | false =>
   rw [hh,if_neg (by decide)] at ho2
   rw [ho2]
   rfl
 rw [hrf]
 refine stVsA H 0 rfl rfl rfl fun h H=>?_
 refine ldI_of (hpA H 0 rfl rfl) (ldI_of (hpA H 0 rfl rfl) (ldI_of (hpA H 0 rfl rfl) (ldI_of (hpA H 0 rfl rfl) (ldI_of (hpA H 0 rfl rfl) (ldB_of (hpA H 0 rfl rfl) (ldI_of (hpA H 0 rfl rfl) (ldI_of (hpA H 0 rfl rfl) (ldS_of (hpA H 0 rfl rfl) ?_))))))))
 refine bindI_of (((n:Nat):Int)) (by exact i64_in _ (by omega) (by omega)) ?_
 refine stVsA H 0 rfl rfl rfl fun h H=>?_
 refine ldI_of (hpA H 0 rfl rfl) (ldI_of (hpA H 0 rfl rfl) (ldI_of (hpA H 0 rfl rfl) (ldI_of (hpA H 0 rfl rfl) (ldI_of (hpA H 0 rfl rfl) (ldB_of (hpA H 0 rfl rfl) (ldI_of (hpA H 0 rfl rfl) (ldI_of (hpA H 0 rfl rfl) (ldS_of (hpA H 0 rfl rfl) ?_))))))))
 refine hk h ?_
 rw [hlen]
 exact Hp.suf (X:=[_]) H
end
end Go.Bm
namespace Go.Bm
open Go Go.Den Go.Den.YtbknfejmdekhpaaGreat
open Go.Ar (decN newD bytesM flushM decL u8s)
theorem txtB_rd {t:Reg14} {sy:List Bmp} {l:List Ins} (hf:TForm t sy l) (hsl:sy.length<=4096) (hl:l.length<=16384) (ha:arI l<=1048576):RdB (txtB t sy l):=by
 have h1:=(allD_len (t:=t) hf.2.2 hsl hl ha).1
 have h2:=cdL_ok (m:=14337) (L:=allD t sy l) (by omega)
 have h3:=txtB_len hf hsl hl ha
 have h4:=headT_len t l.length
 have h5:=howT_lt hf.2.1
 refine ⟨fun x hx=>?_,?_⟩
 ·unfold txtB at hx
  rcases List.mem_append.1 hx with hx | hx
  ·unfold headT at hx
   simp only [List.mem_append,List.mem_singleton] at hx
   rcases hx with hx | hx | hx | hx | hx | hx
   ·exact grp_lt x hx
   ·exact grp_lt x hx
   ·exact grp_lt x hx
   ·exact grp_lt x hx
   ·omega
   ·exact grp_lt x hx
  ·exact Go.Ar.flushM_lt h2.wf x hx
 ·unfold txtB
  rw [List.length_append]
  omega
theorem srtI_srt (st:Nat) (l:List Ins):Srt (keyI st) (srtI st l):=(srtK_ok l).2
theorem srtI_idem (st:Nat) (l:List Ins):srtI st (srtI st l)=srtI st l:=(srtK_one (.refl _) (srtI_srt st l)).symm
theorem permT {α:Type} {E0 E1 E3 E5 E8 E10:α} {V:List α}:([E0,E1,E3,E5]++([E8]++(E10::V))).Perm (E8::E0::E10::E5::E1::E3::V):=by
 have h1:([E0,E1,E3,E5]++([E8]++(E10::V))).Perm (([E8]++(E10::V))++[E0,E1,E3,E5]):=List.perm_append_comm
 refine h1.trans (List.Perm.cons E8 ?_)
 have h2:((E10::V)++[E0,E1,E3,E5]).Perm ([E0,E1,E3,E5]++(E10::V)):=List.perm_append_comm
 refine h2.trans (List.Perm.cons E0 ?_)
 have h3:(([E1,E3,E5]++[E10])++V).Perm ([E10,E5,E1,E3]++V):=List.Perm.append_right V (by
  have h4:([E1,E3,E5]++[E10]).Perm ([E10]++[E1,E3,E5]):=List.perm_append_comm
  refine h4.trans (List.Perm.cons E10 ?_)
  exact (List.perm_append_comm:([E1,E3]++[E5]).Perm ([E5]++[E1,E3])))
 exact h3
section
variable {hB:Heap} {K:VK} {Kp:PK}
theorem decC1_ok {b:Bmp} {q1:Option Addr} {c1:Nat} (hr:rdO hB q1 (b.ws.length*1) (u64s b.ws)) (hw:W64 b.ws) (hl:b.ws.length<140737488351300) (hk:∀ (r:Bool) h',(r=true↔¬ b.may)->hext hB h'->K (.bool r) h') :
  CP F_text_Decode_c1_c1 #[.agg #[.int .i64 b.w, .int .i64 b.h, .slice q1 b.ws.length c1]] hB K Kp:=by
 refine call_text_Decode_c1_c1 ?_
 unfold text_Decode_c1_c1
 have H:=Hp.nil hB []
 refine newC_hp H fun r1 h H=>?_
 refine ldI_of (hpA H 0 rfl rfl) (ldI_of (hpA H 0 rfl rfl) (ldS_of (hpA H 0 rfl rfl) ?_))
 refine check_ok (H.rdO hr) hw hl fun r h' hr' e=>?_
 refine ⟨_,rfl,hk _ _ ?_ (H.hext.trans e)⟩
 cases r with
 | true=>simp; exact hr'.1 rfl
 | false=>simp; exact fun hm=>by have:=hr'.2 hm; cases this
variable {t:Reg14} {q q2:Option Addr} {c c2:Nat} {sy:List Bmp} {l:List Ins}
abbrev zeroT:List Value:=[.int .i64 0, .int .i64 0, .int .i64 0, .int .i64 0, .int .i64 0, .bool false, .int .i64 0, .int .i64 0, .slice none 0 0]
abbrev zeroR (q2:Option Addr) (ns c2:Nat):List Value:=[.pointer none, .int .i64 0, .int .i64 0, .int .i64 0, .int .i64 0, .int .i64 0, .bool false, .int .i64 0, .int .i64 0, .slice none 0 0, .slice q2 ns c2, .int .i64 0, .int .i64 0]
set_option maxHeartbeats 8000000 in
theorem tDec_ok (hr:rdO hB q ((txtB t sy l).length*1) (u8s (txtB t sy l))) (hcap:(txtB t sy l).length<=c) (hs:BmsV hB q2 sy) (hf:TForm t sy l) (hsl:sy.length<=4096) (hl:l.length<=16384) (har:arI l<=1048576) (hW:∀ i∈l,W64 i.b.ws)
  (hk:∀ R q' c' h',ListI R q' c' (srtI t.st.toNat l)->Hp hB [] h' R->K (.tuple #[t.ag q' l.length c', .int .i64 0]) h') :
  CP F_text_Decode #[.slice q (txtB t sy l).length c, .slice q2 sy.length c2] hB K Kp:=by
 refine call_text_Decode ?_
 unfold text_Decode
 have hrb:=txtB_rd hf hsl hl har
 have hst:=hf.2.1.2.2.2.2.2
 obtain ⟨S,hS⟩:∃ S,S=srtI t.st.toNat l:=⟨_,rfl⟩
 have hSl:S.length=l.length:=by rw [hS]; exact srtI_len _ _
 have hSa:arI S=arI l:=by rw [hS]; exact (arI_perm (srtI_perm _ _)).symm
 have hSok:∀ i∈S,InsOk t.rf sy i:=fun i hi=>hf.2.2 i (srtI_mem.1 (hS ▸ hi))
 have hSW:∀ i∈S,W64 i.b.ws:=fun i hi=>hW i (srtI_mem.1 (hS ▸ hi))
 obtain ⟨b,hbd⟩:∃ b,b=txtB t sy l:=⟨_,rfl⟩
 rw [<- hbd] at hr hcap hrb ⊢
 have H:=Hp.nil hB []
 refine newC_hp H fun r1 h H=>?_
 refine newC_hp H fun r3 h H=>?_
 refine newC_hp H fun r5 h H=>?_
 refine ldS_of (H.cell 1 rfl rfl) ?_
 refine newC_hp H fun r8 h H=>?_
 refine newC_hp H fun r10 h H=>?_
 refine st0 H 4 rfl rfl rfl fun h H=>?_
 have H:Hp hB [] h [⟨r1,true,T_s_uint8,[.slice q b.length c]⟩,⟨r3,true,T_s_api_Bitmap,[.slice q2 sy.length c2]⟩,⟨r5,true,T_api_Text,zeroT⟩,⟨r8,true,T_text_reader,zeroR q2 sy.length c2⟩,⟨r10,true,T_p_text_reader,[.pointer (some ⟨r8,0,none⟩)]⟩]:=H
 refine tcaught_ok (fun L2=>∃ (p:Nat) (R Z:List Ent) (q':Option Addr) (c':Nat),ListI R q' c' S/\L2=rtE r8 p t q' S.length c' q2 sy.length c2 0 (arI S:Nat)::⟨r10,true,T_p_text_reader,[.pointer (some ⟨r8,0,none⟩)]⟩::⟨r5,true,T_api_Text,zeroT⟩::(R++Z)) (fun _ _=>False) H (fun {re h1 K1 Kp1} H hK1 hKp1=>?_) (fun h' L' hp H=>?_) fun er h' L' hp H=>hp.elim
 rotate_left
 ·obtain ⟨p,R,Z,q',c',hL,rfl⟩:=hp
  refine ⟨_,rfl,bcase_false rfl ?_⟩
  refine ldP_of (H.cell 1 rfl rfl) (ldP_of (H.cell 1 rfl rfl) (ptr_of (a:=⟨r8,0,none⟩) ?_))
  refine ldI_of (hpB H 0 rfl rfl) (ldI_of (hpB H 0 rfl rfl) (ldI_of (hpB H 0 rfl rfl) (ldI_of (hpB H 0 rfl rfl) (ldI_of (hpB H 0 rfl rfl) (ldB_of (hpB H 0 rfl rfl) (ldI_of (hpB H 0 rfl rfl) (ldI_of (hpB H 0 rfl rfl) (ldS_of (hpB H 0 rfl rfl) ?_))))))))
  refine sortedP_ok (t:=t) (hL.view H fun e he=>List.mem_cons_of_mem _ (List.mem_cons_of_mem _ (List.mem_cons_of_mem _ (List.mem_append_left _ he)))) (by omega) (fun i hi=>Nat.le_trans (hSok i hi).ws (by decide)) fun R2 q3 c3 h2 hL2 H'=>?_
  refine ⟨_,_,_,rfl,H'.hext,?_⟩
  have H:=H.join H' hL2.w
  clear H'
  rw [stOf_reg hst,hS,srtI_idem] at hL2
  refine ptr_of (a:=⟨r8,0,none⟩) ?_
  refine stB H 0 rfl rfl rfl fun h H=>?_
  refine ldP_of (H.cell 1 rfl rfl) (ptr_of (a:=⟨r8,0,none⟩) ?_)
  refine ldI_of (hpB H 0 rfl rfl) (ldI_of (hpB H 0 rfl rfl) (ldI_of (hpB H 0 rfl rfl) (ldI_of (hpB H 0 rfl rfl) (ldI_of (hpB H 0 rfl rfl) (ldB_of (hpB H 0 rfl rfl) (ldI_of (hpB H 0 rfl rfl) (ldI_of (hpB H 0 rfl rfl) (ldS_of (hpB H 0 rfl rfl) ?_))))))))
  refine stVsA H 2 rfl rfl rfl fun h H=>?_
  refine ldI_of (hpA H 2 rfl rfl) (ldI_of (hpA H 2 rfl rfl) (ldI_of (hpA H 2 rfl rfl) (ldI_of (hpA H 2 rfl rfl) (ldI_of (hpA H 2 rfl rfl) (ldB_of (hpA H 2 rfl rfl) (ldI_of (hpA H 2 rfl rfl) (ldI_of (hpA H 2 rfl rfl) (ldS_of (hpA H 2 rfl rfl) ?_))))))))
  have H:Hp hB [] h ((⟨r8,true,T_text_reader,_⟩::⟨r10,true,T_p_text_reader,[.pointer (some ⟨r8,0,none⟩)]⟩::⟨r5,true,T_api_Text,_⟩::(R++Z))++R2):=H
  rw [hSl]
  exact hk R2 q3 c3 h hL2 (Hp.suf H)
 unfold callD
 simp only
 refine call_text_Decode_c1 (cap0:=⟨r3,0,none⟩) (cap1:=⟨r1,0,none⟩) (cap2:=⟨r10,0,none⟩) ?_
 unfold text_Decode_c1
 have hb0:b=headT t l.length++bytesM (flushM (cdL 14337 (allD t sy l))):=hbd
 have H:Hp hB [] h1 [⟨re,true,T_api_Errno,[.int .i64 0]⟩,⟨r1,true,T_s_uint8,[.slice q b.length c]⟩,⟨r3,true,T_s_api_Bitmap,[.slice q2 sy.length c2]⟩,⟨r5,true,T_api_Text,zeroT⟩,⟨r8,true,T_text_reader,zeroR q2 sy.length c2⟩,⟨r10,true,T_p_text_reader,[.pointer (some ⟨r8,0,none⟩)]⟩]:=H
 refine ldS_of (H.cell 2 rfl rfl) ?_
 refine contB_ok (hs.ext H.hext) (by omega) (fun h b q1 c1 K2 _ hr hw hl hk1=>?_) fun r h' hr' e=>⟨_,rfl,?_⟩
 ·unfold callD
  simp only
  exact decC1_ok hr hw hl hk1
 have H:=H.ext e
 clear e
 refine twrong_ok (Bool.eq_false_iff.2 fun hh=>hr'.1 hh hf.1) ?_
 refine ldS_of (H.cell 2 rfl rfl) (tbig_ok (decide_eq_false (by omega)) ?_)
 refine ldS_of (H.cell 1 rfl rfl) ?_
 refine newReader_ok (H.rdO hr) hrb fun rr q' c' Dr h hsD H'=>?_
 have H:=H.join H' (by rw [List.all_cons,hsD.w]; rfl)
 clear H'
 have hDw:∀ i,(rdE rr q' b.length c' i::Dr).all Ent.w=true:=fun i=>by rw [List.all_cons,hsD.w]; rfl
 obtain ⟨Y,hY⟩:∃ Y:List Ent,Y=[⟨re,true,T_api_Errno,[.int .i64 0]⟩,⟨r1,true,T_s_uint8,[.slice q b.length c]⟩,⟨r3,true,T_s_api_Bitmap,[.slice q2 sy.length c2]⟩,⟨r5,true,T_api_Text,zeroT⟩,⟨r8,true,T_text_reader,zeroR q2 sy.length c2⟩,⟨r10,true,T_p_text_reader,[.pointer (some ⟨r8,0,none⟩)]⟩]:=⟨_,rfl⟩
 have hYb:re∈Y.map Ent.b/\r1∈Y.map Ent.b/\r3∈Y.map Ent.b/\r10∈Y.map Ent.b:=by rw [hY]; simp
 refine ⟨_,rfl,?_⟩
 refine ⟨fun z=>z∈Y.map Ent.b,?_⟩
 refine ldP_of (H.cell 5 rfl rfl) ⟨hYb.2.2.2,ldP_of (H.cell 5 rfl rfl) ⟨hYb.2.2.2,ldS_of (H.cell 2 rfl rfl) ⟨hYb.2.2.1,?_⟩⟩⟩
 have hns:0<l.length->((sy.length:Nat):Int)≠0:=fun h0=>by
  obtain ⟨i,hi⟩:∃ i,l[0]? = some i:=⟨_,List.getElem?_eq_getElem h0⟩
  have:=(hf.2.2 i (List.mem_of_getElem? hi)).1
  omega
 rw [<- hY] at H
 refine topened_ok (Hp.giveS H) hsD hrb (t:=t) (n:=l.length) (ns:=(sy.length:Nat)) hf.2.1 hl hns hb0 fun h' H'=>?_
 have hkp:=Hp.keepY H H'
 have H:=Hp.putS H (hDw _) H' (hDw _)
 clear H'
 refine ⟨_,_,_,_,_,_,_,_,_,_,_,_,rfl,hkp,?_⟩
 clear hkp
 rw [hY] at H
 refine ptr_of (a:=⟨r8,0,none⟩) ?_
 rw [add_mk,Nat.zero_add]
 refine stVs_hp (o:=1) (i:=0) H (k:=4) rfl (Nat.le_of_ble_eq_true rfl) (fun v hv=>List.all_eq_true.1 (show (t.cs none 0 0).all Value.oneCell'=true from rfl) v hv) fun h _ H=>?_
 refine ptr_of (a:=⟨r8,0,none⟩) ?_
 refine stA H 4 rfl rfl rfl fun h H=>?_
 obtain ⟨i,hi⟩:∃ i,i=(headT t l.length).length:=⟨_,rfl⟩
 obtain ⟨Y2,hY2⟩:∃ Y:List Ent,Y=[⟨re,true,T_api_Errno,[.int .i64 0]⟩,⟨r1,true,T_s_uint8,[.slice q b.length c]⟩,⟨r3,true,T_s_api_Bitmap,[.slice q2 sy.length c2]⟩,⟨r5,true,T_api_Text,zeroT⟩,⟨r8,true,T_text_reader,[.pointer none, .int .i64 t.x, .int .i64 t.y, .int .i64 t.w, .int .i64 t.h, .int .i64 t.op, .bool t.rf, .int .i64 t.df, .int .i64 t.st, .slice none 0 0, .slice q2 sy.length c2, .int .i64 (l.length:Nat), .int .i64 0]⟩,⟨r10,true,T_p_text_reader,[.pointer (some ⟨r8,0,none⟩)]⟩]:=⟨_,rfl⟩
 have hYb:r1∈Y2.map Ent.b/\r10∈Y2.map Ent.b:=by rw [hY2]; simp
 have H:Hp hB [] h (Y2++(rdE rr q' b.length c' i::Dr)):=by rw [hY2,hi]; exact H
 have c10:∀ {h Z},Hp hB [] h (Y2++Z)->hcell h ⟨r10,0,none⟩=some (.pointer (some ⟨r8,0,none⟩)):=fun H=>by
  rw [hY2] at H
  exact H.cell 5 rfl rfl
 have c1:∀ {h Z},Hp hB [] h (Y2++Z)->hcell h ⟨r1,0,none⟩=some (.slice q b.length c):=fun H=>by
  rw [hY2] at H
  exact H.cell 1 rfl rfl
 refine ⟨fun z=>z∈Y2.map Ent.b,?_⟩
 refine ldP_of (c10 H) ⟨hYb.2,ldS_of (c1 H) ⟨hYb.1,ldS_of (c1 H) ⟨hYb.1,?_⟩⟩⟩
 have hbll:=hrb.bl
 have hile:i<=b.length:=by rw [hb0,List.length_append,hi]; omega
 have hdr:b.drop i=bytesM (flushM (cdL 14337 (allD t sy l))):=by rw [hb0,hi,List.drop_left]
 refine rleft_ok (Hp.suf H) hrb hile ⟨_,rfl,hkeep.refl _ _,?_⟩
 refine bindI_of (((b.length-i:Nat):Int)) (by exact i64_at _ _ (by rw [show ((8*(b.length-i):Nat):Int).tdiv 8=((8*(b.length-i) / 8:Nat):Int) from rfl]; omega) (by omega) (by omega)) ?_
 refine bindI_of (((i:Nat):Int)) (by exact i64_at _ _ (by omega) (by omega) (by omega)) ?_
 refine needs_of (by omega) ?_
 rw [Int.toNat_natCast]
 have hdl:(b.drop i).length=b.length-i:=List.length_drop
 have hd8:∀ z∈b.drop i,z<256:=fun z hz=>hrb.b8 z (List.mem_of_mem_drop hz)
 rw [<- hdl]
 refine Go.Ar.newDecoder_ok (n:=14337) (b:=b.drop i) (by omega) (by omega) hd8 (by omega) (H.rdO (rdO_drop hr hile hcap)) fun p qd e0 bp bc h hbok H'=>?_
 have hx:=H'.hext
 have hdw:∀ s,(decL p qd e0 bp bc s).all Ent.w=true:=fun s=>by simp [decL,Go.Ar.decE,hbok.1]
 have H:=H.join H' (hdw _)
 clear H'
 refine ⟨_,_,rfl,hx.keep _,?_⟩
 refine ptr_of (a:=⟨r8,0,none⟩) ?_
 rw [hY2] at H
 refine stA H 4 rfl rfl rfl fun h H=>?_
 refine tneed_ok ?_
 have H:Hp hB [] h ([⟨re,true,T_api_Errno,[.int .i64 0]⟩,⟨r1,true,T_s_uint8,[.slice q b.length c]⟩,⟨r3,true,T_s_api_Bitmap,[.slice q2 sy.length c2]⟩,⟨r5,true,T_api_Text,zeroT⟩]++([rtE r8 p t none 0 0 q2 sy.length c2 (l.length:Nat) 0]++(⟨r10,true,T_p_text_reader,[.pointer (some ⟨r8,0,none⟩)]⟩::rdE rr q' b.length c' i::Dr)++decL p qd e0 bp bc (newD (b.drop i) 14337))):=H
 have H:=H.asc'
 refine ldP_of (by exact H.cell 5 rfl rfl) ?_
 obtain ⟨X,hX⟩:∃ X:List Ent,X=⟨re,true,T_api_Errno,[.int .i64 0]⟩::⟨r10,true,T_p_text_reader,[.pointer (some ⟨r8,0,none⟩)]⟩::⟨r5,true,T_api_Text,zeroT⟩::⟨r1,true,T_s_uint8,[.slice q b.length c]⟩::⟨r3,true,T_s_api_Bitmap,[.slice q2 sy.length c2]⟩::rdE rr q' b.length c' i::Dr:=⟨_,rfl⟩
 have hXw:X.all Ent.w=true:=by rw [hX]; simp only [List.all_cons,hsD.w]; rfl
 have H:Hp hB [] h ((rtE r8 p t none 0 0 q2 sy.length c2 (S.length:Nat) 0::X)++decL p qd e0 bp bc (newD (b.drop i) 14337)):=by
  rw [hX,hSl]
  refine H.perm (List.Perm.append_right _ ?_)
  generalize rtE r8 p t none 0 0 q2 sy.length c2 (l.length:Nat) 0=E8
  generalize (rdE rr q' b.length c' i::Dr)=V
  generalize (⟨re,true,T_api_Errno,[.int .i64 0]⟩:Ent)=E0
  generalize (⟨r1,true,T_s_uint8,[.slice q b.length c]⟩:Ent)=E1
  generalize (⟨r3,true,T_s_api_Bitmap,[.slice q2 sy.length c2]⟩:Ent)=E3
  generalize (⟨r5,true,T_api_Text,zeroT⟩:Ent)=E5
  generalize (⟨r10,true,T_p_text_reader,[.pointer (some ⟨r8,0,none⟩)]⟩:Ent)=E10
  exact permT
 have hTl:=allD_len (t:=t) hf.2.2 hsl hl har
 have hw:=walk_of (m:=14337) hTl.2 (by omega)
 have hS0:Strm (allD t sy l) (decN (kOf (allD t sy l)) (bytesM (flushM (cdL 14337 (allD t sy l)))) 14337) (b.drop i) e0 bp:=⟨hw,fun j hj=>by rw [hdr]; exact decN_okW (by rw [<- hdr]; exact hd8) j (by omega),hbok,by omega,by omega⟩
 have hD0:newD (b.drop i) 14337=decN (kOf (allD t sy l)) (bytesM (flushM (cdL 14337 (allD t sy l)))) 14337 0:=by rw [hdr]; rfl
 rw [hD0] at H
 refine tall_ok hS0 H hXw (by rw [hS]; rfl) hs hf.1 hsl hst hSok hSW (by rw [hS]; exact srtI_srt _ _) (by omega) (by omega) fun R q3 c3 h hL H=>?_
 rw [hX] at H
 have H:=Hp.pre H
 have H:Hp hB [] h (rtE r8 p t q3 S.length c3 q2 sy.length c2 0 (arI S:Nat)::⟨re,true,T_api_Errno,[.int .i64 0]⟩::⟨r10,true,T_p_text_reader,[.pointer (some ⟨r8,0,none⟩)]⟩::⟨r5,true,T_api_Text,zeroT⟩::((⟨r1,true,T_s_uint8,[.slice q b.length c]⟩::⟨r3,true,T_s_api_Bitmap,[.slice q2 sy.length c2]⟩::rdE rr q' b.length c' i::Dr)++R)):=H
 have H:=H.perm (List.Perm.swap _ _ _)
 refine hK1 h _ ⟨p,R,⟨r1,true,T_s_uint8,[.slice q b.length c]⟩::⟨r3,true,T_s_api_Bitmap,[.slice q2 sy.length c2]⟩::rdE rr q' b.length c' i::Dr,q3,c3,hL,rfl⟩ ?_
 exact H.perm (List.Perm.cons _ (List.Perm.cons _ (List.Perm.cons _ (List.Perm.cons _ List.perm_append_comm))))
end
end Go.Bm
namespace Go.Bm
open Go Go.Den Go.Den.YtbknfejmdekhpaaGreat
def srcB (sy:List Bmp) (i:Ins):Bmp:=if i.d=true then i.b else symOf sy i.s
def layP (sy:List Bmp) (op W:Nat) (G:Nat->Nat->Bool) (i:Ins):Nat->Nat->Bool:=fun x Y =>
 if i.x<=x/\(x:Int)<i.x+(srcB sy i).w/\x<W/\i.y<=Y/\(Y:Int)<i.y+(srcB sy i).h then opB op (G x Y) (pix (srcB sy i).ws (wds (srcB sy i).w.toNat) (x-i.x).toNat (Y-i.y).toNat) else G x Y
def gndP (t:Reg14):Nat->Nat->Bool:=fun x _=>decide (t.df=1/\x<t.w.toNat)
def drawG (t:Reg14) (sy:List Bmp) (l:List Ins):Nat->Nat->Bool:=l.foldl (layP sy t.op.toNat t.w.toNat) (gndP t)
def PicP (W X:Nat) (G:Nat->Nat->Bool) (R:List Nat):Prop:=R.length=X*wds W/\W64 R/\∀ Y,Y<X->∀ x,x<64*wds W->pix R (wds W) x Y=G x Y
theorem PicP.eq {W X:Nat} {G:Nat->Nat->Bool} {R R':List Nat} (h:PicP W X G R) (h':PicP W X G R'):R=R' :=
 pix_ext h.1 h'.1 h.2.1 h'.2.1 fun Y hY x hx=>by rw [h.2.2 Y hY x hx,h'.2.2 Y hY x hx]
theorem drawG_snoc (t:Reg14) (sy:List Bmp) (l:List Ins) (i:Ins):drawG t sy (l++[i])=layP sy t.op.toNat t.w.toNat (drawG t sy l) i:=by
 unfold drawG
 rw [List.foldl_append]
 rfl
theorem InsOk.src {rf:Bool} {sy:List Bmp} {i:Ins} (h:InsOk rf sy i) (hm:MayL sy):(srcB sy i).may:=by
 unfold srcB
 split
 ·rename_i hd
  exact (h.2.2.2.2 hd).2.1
 ·obtain ⟨s,hs⟩:∃ s,sy[i.s.toNat]? = some s:=⟨_,List.getElem?_eq_getElem (by have:=h.1; omega)⟩
  unfold symOf
  rw [List.getD_eq_getElem?_getD,hs]
  exact hm s (List.mem_of_getElem? hs)
end Go.Bm
namespace Go.Bm
open Go Go.Den Go.Den.YtbknfejmdekhpaaGreat
theorem PicP.lay {W X W2 X2 op:Nat} {sy:List Bmp} {G:Nat->Nat->Bool} {R R':List Nat} {i:Ins} (h:PicP W X G R) (ew:(srcB sy i).w=(W2:Nat)) (eh:(srcB sy i).h=(X2:Nat)) (hl:R'.length=X*wds W) (hw:W64 R')
  (hp:∀ Y,Y<X->∀ x',x'<64*wds W->pix R' (wds W) x' Y=if i.x<=x'/\(x':Int)<i.x+(W2:Nat)/\x'<W/\i.y<=Y/\(Y:Int)<i.y+(X2:Nat)/\0<=0+((x':Int)-i.x)/\0+((x':Int)-i.x)<(W2:Nat)/\0<=0+((Y:Int)-i.y)/\0+((Y:Int)-i.y)<(X2:Nat) then opB op (pix R (wds W) x' Y) (pix (srcB sy i).ws (wds W2) (0+((x':Int)-i.x)).toNat (0+((Y:Int)-i.y)).toNat) else pix R (wds W) x' Y) :
  PicP W X (layP sy op W G i) R':=by
 refine ⟨hl,hw,fun Y hY x hx=>?_⟩
 rw [hp Y hY x hx,h.2.2 Y hY x hx]
 unfold layP
 rw [ew,eh,Int.toNat_natCast]
 by_cases hc:i.x<=x/\(x:Int)<i.x+(W2:Nat)/\x<W/\i.y<=Y/\(Y:Int)<i.y+(X2:Nat)
 ·rw [if_pos hc,if_pos (by omega),Int.zero_add,Int.zero_add]
 ·rw [if_neg hc,if_neg (by omega)]
section
variable {hB:Heap} {K:VK} {Kp:PK} {t:Reg14} {q q2:Option Addr} {c c2:Nat} {sy:List Bmp} {l:List Ins}
set_option maxHeartbeats 8000000 in
theorem tDraw_ok (hv:InsV hB q l) (hs:BmsV hB q2 sy) (hl:l.length<=1000000) (hsl:sy.length<=1000000000000)
  (hkb:∀ h',chkT t sy l≠0->hext hB h'->K (.tuple #[.agg #[.int .i64 0, .int .i64 0, .slice none 0 0], .int .i64 (chkT t sy l)]) h')
  (hk:∀ R D qo co h',chkT t sy l=0->PicP t.w.toNat t.h.toNat (drawG t sy (srtI t.st.toNat l)) R->Slot T_uint64 1 D qo R.length co (u64s R)->Hp hB [] h' D->K (.tuple #[.agg #[.int .i64 t.w, .int .i64 t.h, .slice qo R.length co], .int .i64 0]) h') :
  CP F_text_Draw #[t.ag q l.length c, .slice q2 sy.length c2] hB K Kp:=by
 refine call_text_Draw ?_
 unfold text_Draw
 have H:=Hp.nil hB []
 refine newC_hp H fun r10 h H=>?_
 refine newC_hp H fun r12 h H=>?_
 have H:Hp hB [] h [⟨r10,true,T_api_Text,t.cs q l.length c⟩,⟨r12,true,T_api_Bitmap,[.int .i64 0, .int .i64 0, .slice none 0 0]⟩]:=H
 repeat first | with_reducible refine ldI_of (by with_unfolding_all first | exact hpA H 0 rfl rfl | exact Hp.cell H 0 rfl rfl | exact hpB H 0 rfl rfl | exact hpC H 0 rfl rfl) ?_ | with_reducible refine ldS_of (by with_unfolding_all first | exact hpA H 0 rfl rfl | exact Hp.cell H 0 rfl rfl | exact hpB H 0 rfl rfl | exact hpC H 0 rfl rfl) ?_ | with_reducible refine ldP_of (by with_unfolding_all first | exact hpA H 0 rfl rfl | exact Hp.cell H 0 rfl rfl | exact hpB H 0 rfl rfl | exact hpC H 0 rfl rfl) ?_ | with_reducible refine ldB_of (by with_unfolding_all first | exact hpA H 0 rfl rfl | exact Hp.cell H 0 rfl rfl | exact hpB H 0 rfl rfl | exact hpC H 0 rfl rfl) ?_ | with_reducible refine ldT_of (by with_unfolding_all first | exact hpA H 0 rfl rfl | exact Hp.cell H 0 rfl rfl | exact hpB H 0 rfl rfl | exact hpC H 0 rfl rfl) ?_
 refine checkedT_ok (t:=t) (hv.ext H.hext) (hs.ext H.hext) hl hsl fun h' e=>⟨_,rfl,?_⟩
 have H:=H.ext e
 clear e
 refine bcase_ne (fun h1=>?_) fun h1=>?_
 ·refine stA H 1 rfl rfl rfl fun h H=>?_
  refine stA H 1 rfl rfl rfl fun h H=>?_
  refine stA H 1 rfl rfl rfl fun h H=>?_
  refine ldI_of (hpA H 1 rfl rfl) (ldI_of (hpA H 1 rfl rfl) (ldS_of (hpA H 1 rfl rfl) ?_))
  exact hkb h h1 H.hext
 obtain ⟨hf,hsl4,hl16,har⟩:=chkT_zero h1
 have hk:=fun R D qo co h'=>hk R D qo co h' h1
 rw [h1] at hkb
 clear h1 hkb
 have hst:=hf.2.1.2.2.2.2.2
 have hdf:=hf.2.1.2.2.2.2.1
 have hop:=hf.2.1.2.2.2.1
 obtain ⟨OP,hOP⟩:∃ OP:Nat,t.op=(OP:Int):=⟨t.op.toNat,by omega⟩
 refine ldI_of (hpA H 0 rfl rfl) (ldI_of (hpA H 0 rfl rfl) ?_)
 refine newM_ok (fun W XX p qm h hW hX hsz H'=>⟨_,_,rfl,?_⟩) fun hn=>absurd hf.2.1.1 hn
 refine bcase_false rfl ?_
 have H:=H.join H' rfl
 clear H'
 refine ldI_of (hpA H 0 rfl rfl) (ldI_of (hpA H 0 rfl rfl) (ldI_of (hpA H 0 rfl rfl) ?_))
 obtain ⟨W',X',e1,e2,hW1,hW2,hX1,hX2,hWX⟩:=size_nat hsz
 obtain rfl:W=W':=by omega
 obtain rfl:XX=X':=by omega
 clear e1 e2
 have hWt:t.w.toNat=W:=by omega
 have hXt:t.h.toNat=XX:=by omega
 rw [hWt,hXt] at hk
 have hhw:=hw_le hW1 hWX
 have hsz2:SizeP (W:Int) (XX:Int):=by rw [<- hW,<- hX]; exact hsz
 refine fill_ok (W:=W) (X:=XX) (Hp.giveS (A:=[⟨r10,true,T_api_Text,t.cs q l.length c⟩,⟨r12,true,T_api_Bitmap,[.int .i64 0, .int .i64 0, .slice none 0 0]⟩]) H) hsz2 (List.length_replicate ..) (W64.zero _) ⟨by decide,by decide⟩ ⟨by decide,by decide⟩ (w:=t.w) (g:=t.h) ⟨by omega,by omega⟩ ⟨by omega,by omega⟩ (by omega) (by omega) (bit:=t.df) (by omega) fun R0 h hR0l hR0w hR0p H'=>?_
 have H:=Hp.putS (A:=[⟨r10,true,T_api_Text,t.cs q l.length c⟩,⟨r12,true,T_api_Bitmap,[.int .i64 0, .int .i64 0, .slice none 0 0]⟩]) H rfl H' rfl
 clear H'
 refine ⟨_,rfl,?_⟩
 repeat first | with_reducible refine ldI_of (by with_unfolding_all first | exact hpA H 0 rfl rfl | exact Hp.cell H 0 rfl rfl | exact hpB H 0 rfl rfl | exact hpC H 0 rfl rfl) ?_ | with_reducible refine ldS_of (by with_unfolding_all first | exact hpA H 0 rfl rfl | exact Hp.cell H 0 rfl rfl | exact hpB H 0 rfl rfl | exact hpC H 0 rfl rfl) ?_ | with_reducible refine ldP_of (by with_unfolding_all first | exact hpA H 0 rfl rfl | exact Hp.cell H 0 rfl rfl | exact hpB H 0 rfl rfl | exact hpC H 0 rfl rfl) ?_ | with_reducible refine ldB_of (by with_unfolding_all first | exact hpA H 0 rfl rfl | exact Hp.cell H 0 rfl rfl | exact hpB H 0 rfl rfl | exact hpC H 0 rfl rfl) ?_ | with_reducible refine ldT_of (by with_unfolding_all first | exact hpA H 0 rfl rfl | exact Hp.cell H 0 rfl rfl | exact hpB H 0 rfl rfl | exact hpC H 0 rfl rfl) ?_
 have hpic0:PicP W XX (gndP t) R0:=⟨hR0l,hR0w,fun Y hY x hx=>by
  rw [hR0p Y hY x hx]
  unfold gndP
  rw [hWt]
  by_cases hx2:x<W
  ·rw [if_pos (by omega)]
   simp [hx2]
  ·rw [if_neg (by omega),pix_zero]
   simp [hx2]⟩
 clear hR0p
 refine sortedP_ok (t:=t) (hv.ext H.hext) hl (fun i hi=>Nat.le_trans (hf.2.2 i hi).ws (by decide)) fun R q' c' h' hL H'=>?_
 refine ⟨_,_,_,rfl,?_⟩
 replace H:=H.join H' hL.w
 clear H'
 rw [stOf_reg hst] at hL
 have hRw:=hL.w
 obtain ⟨O,E,h1,h2,h3,rfl⟩:=hL
 obtain ⟨S,hS⟩:∃ S,S=srtI t.st.toNat l:=⟨_,rfl⟩
 rw [<- hS] at h2 h3 hk
 have hSl:S.length=l.length:=by rw [hS]; exact srtI_len _ _
 have hSok:∀ i∈S,InsOk t.rf sy i:=fun i hi=>hf.2.2 i (srtI_mem.1 (hS ▸ hi))
 rw [<- hSl]
 have H:=Hp.swap (X:=[⟨r10,true,T_api_Text,t.cs q l.length c⟩,⟨r12,true,T_api_Bitmap,[.int .i64 0, .int .i64 0, .slice none 0 0]⟩]) H
 obtain ⟨V,hV⟩:∃ V,V=dsI O++E:=⟨_,rfl⟩
 rw [<- hV] at H hRw
 have H:Hp hB [] h' ((⟨r10,true,T_api_Text,t.cs q l.length c⟩::⟨r12,true,T_api_Bitmap,[.int .i64 0, .int .i64 0, .slice none 0 0]⟩::V)++mapL p qm W XX R0 []):=H
 have rdS:∀ {h A Z},Hp hB [] h (A++(V++Z))->rdO h q' (S.length*7) (csI O):=fun {h A Z} H=>Slot.rdO' h3 H fun e he=>List.mem_append_right _ (List.mem_append_left _ (by rw [hV]; exact List.mem_append_right _ he))
 have rdV:∀ {o:OwI} {h A Z},o∈O->Hp hB [] h (A++(V++Z))->o.Vw h:=fun {o h A Z} ho H=>⟨Slot.rdO' (h1 o ho).s H fun e he=>List.mem_append_right _ (List.mem_append_left _ (by rw [hV]; exact List.mem_append_left _ (dsI_mem ho e he))),(h1 o ho).w,(h1 o ho).l⟩
 have hOl:O.length=S.length:=by rw [<- h2,List.length_map]
 refine ⟨fun m vs h'=>∃ (k:Nat) (R:List Nat),k+m=S.length/\vs=[.int .i64 (k:Nat)]/\PicP W XX (drawG t sy (S.take k)) R/\Hp hB [] h' ((⟨r10,true,T_api_Text,t.cs q l.length c⟩::⟨r12,true,T_api_Bitmap,[.int .i64 0, .int .i64 0, .slice none 0 0]⟩::V)++mapL p qm W XX R []),⟨S.length,0,R0,by omega,rfl,hpic0,H⟩,?_⟩
 clear H hpic0 hR0l hR0w
 rintro m h u xk ⟨k,R,hkm,hxx,hpic,H⟩
 injection hxx with hx1 hxx
 injection hx1 with _ hx1
 subst xk
 have hRl:=hpic.1
 have hRw2:=hpic.2.1
 have hRll:R.length=XX*wds W:=hRl
 refine bcase_dec (fun h5=>?_) fun h5=>?_
 rotate_left
 ·obtain rfl:k=S.length:=by omega
  rw [List.take_of_length_le (Nat.le_refl _)] at hpic
  have hpos:1<=XX*wds W:=Nat.mul_pos hX1 (wds_pos hW1)
  have H:Hp hB [] h (⟨r12,true,T_api_Bitmap,[.int .i64 0, .int .i64 0, .slice none 0 0]⟩::(V++mapL p qm W XX R [])):=Hp.suf (X:=[_]) H
  have H:=Hp.rot (X:=⟨r12,true,T_api_Bitmap,[.int .i64 0, .int .i64 0, .slice none 0 0]⟩::V) H
  refine plain_ok (ws:=R) (rest:=[]) H 0 1 rfl rfl (by omega) (by omega) fun o orest h' H=>?_
  refine ⟨_,_,_,_,_,rfl,?_⟩
  have H:Hp hB [] h' (mapE p qm W XX R.length (R.length+0)::⟨qm,true,T_uint64,u64s R++[]⟩::⟨r12,true,T_api_Bitmap,[.int .i64 0, .int .i64 0, .slice none 0 0]⟩::(V++[⟨o,true,T_uint64,u64s R++orest⟩])):=H
  refine stA H 2 rfl rfl rfl fun h H=>?_
  refine stA H 2 rfl rfl rfl fun h H=>?_
  refine stA H 2 rfl rfl rfl fun h H=>?_
  refine ldI_of (hpA H 2 rfl rfl) (ldI_of (hpA H 2 rfl rfl) (ldS_of (hpA H 2 rfl rfl) ?_))
  rw [<- hW,<- hX]
  refine hk R [⟨o,true,T_uint64,u64s R++orest⟩] _ _ h hpic (Slot.one (by rw [u64s_length,Nat.mul_one]) (by rw [List.length_append,u64s_length,Nat.mul_one])) ?_
  have H:Hp hB [] h ((_::_::_::V)++[⟨o,true,T_uint64,u64s R++orest⟩]):=H
  exact Hp.suf H
 obtain ⟨o,ho⟩:∃ o,O[k]? = some o:=⟨_,List.getElem?_eq_getElem (by omega)⟩
 have hoS:S[k]? = some o.i:=by rw [<- h2,List.getElem?_map,ho]; rfl
 have hio:=hSok _ (List.mem_of_getElem? hoS)
 obtain ⟨a,ha,cell⟩:=ins_at (rdS (A:=[_,_]) H) ho
 refine needs_of (by omega) (ptr_eq ha ?_)
 rw [Int.toNat_natCast]
 refine ld7v cell ?_
 refine newC_hp H fun r76 h H=>?_
 have H:=H.rot
 have H:Hp hB [] h (⟨r76,true,T_api_Instance,[.int .i64 0, .int .i64 0, .int .i64 0, .bool false, .int .i64 0, .int .i64 0, .slice none 0 0]⟩::⟨r10,true,T_api_Text,t.cs q l.length c⟩::⟨r12,true,T_api_Bitmap,[.int .i64 0, .int .i64 0, .slice none 0 0]⟩::(V++mapL p qm W XX R [])):=H
 repeat first | with_reducible refine stA H 0 (by with_unfolding_all exact rfl) (by with_unfolding_all exact rfl) (by with_unfolding_all exact rfl) fun h H=>?_ | with_reducible refine st0 H 0 (by with_unfolding_all exact rfl) (by with_unfolding_all exact rfl) (by with_unfolding_all exact rfl) fun h H=>?_ | with_reducible refine stB H 0 (by with_unfolding_all exact rfl) (by with_unfolding_all exact rfl) (by with_unfolding_all exact rfl) fun h H=>?_
 have H:Hp hB [] h (⟨r76,true,T_api_Instance,o.cs⟩::⟨r10,true,T_api_Text,t.cs q l.length c⟩::⟨r12,true,T_api_Bitmap,[.int .i64 0, .int .i64 0, .slice none 0 0]⟩::(V++mapL p qm W XX R [])):=H
 refine ldI_of (hpB H 0 rfl rfl) (ldI_of (hpB H 0 rfl rfl) (ldS_of (hpB H 0 rfl rfl) ?_))
 refine newC_hp H fun r88 h H=>?_
 have H:=H.rot
 have H:Hp hB [] h (⟨r88,true,T_api_Bitmap,[.int .i64 0, .int .i64 0, .slice none 0 0]⟩::⟨r76,true,T_api_Instance,o.cs⟩::⟨r10,true,T_api_Text,t.cs q l.length c⟩::⟨r12,true,T_api_Bitmap,[.int .i64 0, .int .i64 0, .slice none 0 0]⟩::(V++mapL p qm W XX R [])):=H
 repeat first | with_reducible refine stA H 0 (by with_unfolding_all exact rfl) (by with_unfolding_all exact rfl) (by with_unfolding_all exact rfl) fun h H=>?_ | with_reducible refine st0 H 0 (by with_unfolding_all exact rfl) (by with_unfolding_all exact rfl) (by with_unfolding_all exact rfl) fun h H=>?_ | with_reducible refine stB H 0 (by with_unfolding_all exact rfl) (by with_unfolding_all exact rfl) (by with_unfolding_all exact rfl) fun h H=>?_
 refine ⟨fun _ h'=>∃ q9 c9,(∀ {h},Hp hB [] h (⟨r88,true,T_api_Bitmap,[.int .i64 (srcB sy o.i).w, .int .i64 (srcB sy o.i).h, .slice q9 (srcB sy o.i).ws.length c9]⟩::⟨r76,true,T_api_Instance,o.cs⟩::⟨r10,true,T_api_Text,t.cs q l.length c⟩::⟨r12,true,T_api_Bitmap,[.int .i64 0, .int .i64 0, .slice none 0 0]⟩::(V++mapL p qm W XX R []))->rdO h q9 ((srcB sy o.i).ws.length*1) (u64s (srcB sy o.i).ws)/\W64 (srcB sy o.i).ws/\(srcB sy o.i).ws.length<140737488351300) /\
   Hp hB [] h' (⟨r88,true,T_api_Bitmap,[.int .i64 (srcB sy o.i).w, .int .i64 (srcB sy o.i).h, .slice q9 (srcB sy o.i).ws.length c9]⟩::⟨r76,true,T_api_Instance,o.cs⟩::⟨r10,true,T_api_Text,t.cs q l.length c⟩::⟨r12,true,T_api_Bitmap,[.int .i64 0, .int .i64 0, .slice none 0 0]⟩::(V++mapL p qm W XX R [])),?_,?_⟩
 ·refine ldB_of (hpA H 1 rfl rfl) (bcase_not (fun hd=>?_) fun hd=>?_)
  ·obtain ⟨a3,q9,c9,ha3,hc0⟩:=hs _ _ (sym_at hio)
   have hc:=hc0.ext H.hext
   have esrc:srcB sy o.i=symOf sy o.i.s:=by unfold srcB; rw [if_neg (by rw [hd]; decide)]
   have hid:=hio.1
   refine ldI_of (hpA H 1 rfl rfl) (needs_of (by omega) (ptr_eq ha3 ?_))
   refine ldI_of hc.c0 (ldI_of hc.c1 (ldS_of hc.c2 ?_))
   repeat first | with_reducible refine stA H 0 (by with_unfolding_all exact rfl) (by with_unfolding_all exact rfl) (by with_unfolding_all exact rfl) fun h H=>?_ | with_reducible refine st0 H 0 (by with_unfolding_all exact rfl) (by with_unfolding_all exact rfl) (by with_unfolding_all exact rfl) fun h H=>?_ | with_reducible refine stB H 0 (by with_unfolding_all exact rfl) (by with_unfolding_all exact rfl) (by with_unfolding_all exact rfl) fun h H=>?_
   rw [esrc]
   exact ⟨q9,c9,fun H=>⟨H.rdO hc0.r1,hc0.w1,hc0.l1⟩,H⟩
  ·have esrc:srcB sy o.i=o.i.b:=by unfold srcB; rw [if_pos hd]
   rw [esrc]
   refine ⟨o.q,o.c,fun H=>?_,H⟩
   have:=rdV (A:=[_,_,_,_]) (List.mem_of_getElem? ho) H
   exact ⟨this.r,this.w,this.l⟩
 clear H cell
 rintro h u ⟨q9,c9,hrd,H⟩
 refine ldI_of (hpA H 0 rfl rfl) (ldI_of (hpA H 0 rfl rfl) (ldS_of (hpA H 0 rfl rfl) ?_))
 have hmay:=hio.src hf.1
 obtain ⟨g1,g2,g3⟩:=hrd H
 refine from_ok g1 g2 g3 (fun W2 X2 p2 qs srest h' ew eh hm2 H'=>⟨_,_,rfl,?_⟩) fun h' hn _=>absurd hmay hn
 refine bcase_false rfl ?_
 have H:=H.join H' rfl
 clear H'
 refine ldI_of (hpA H 0 rfl rfl) (ldI_of (hpA H 0 rfl rfl) (ldI_of (hpA H 1 rfl rfl) (ldI_of (hpA H 1 rfl rfl) (ldI_of (hpA H 2 rfl rfl) ?_))))
 rw [hOP]
 obtain ⟨W3,X3,e3,e4,hV1,hV2,hY1,hY2,hVY⟩:=size_nat hmay.1
 have hsrl:(srcB sy o.i).ws.length=X2*wds W2:=by
  have:=hmay.2.1
  rw [ew,eh,Int.toNat_natCast,Int.toNat_natCast] at this
  exact this
 have H:Hp hB [] h' ((⟨r88,true,T_api_Bitmap,[.int .i64 (srcB sy o.i).w, .int .i64 (srcB sy o.i).h, .slice q9 (srcB sy o.i).ws.length c9]⟩::⟨r76,true,T_api_Instance,o.cs⟩::⟨r10,true,T_api_Text,t.cs q l.length c⟩::⟨r12,true,T_api_Bitmap,[.int .i64 0, .int .i64 0, .slice none 0 0]⟩::V)++(mapL p qm W XX R []++mapL p2 qs W2 X2 (srcB sy o.i).ws srest)):=H.as (by simp only [List.cons_append,List.append_assoc])
 have hxb:=hio.2.1
 have hyb:=hio.2.2.1
 refine blit_ok (W:=W) (X:=XX) (W2:=W2) (X2:=X2) (Hp.giveS H) hsz2 hRl hRw2 (by rw [<- ew,<- eh]; exact hmay.1) hsrl g2 (sx:=0) (sy:=0) (w:=(srcB sy o.i).w) (g:=(srcB sy o.i).h) (dx:=o.i.x) (dy:=o.i.y) (op:=OP) ⟨by decide,by decide⟩ ⟨by decide,by decide⟩ ⟨by omega,by omega⟩ ⟨by omega,by omega⟩ ⟨by omega,by omega⟩ ⟨by omega,by omega⟩ (by omega) (by omega) (by omega) fun R' h' hR'l hR'w hR'p H'=>?_
 have H:=Hp.putS H rfl H' rfl
 clear H'
 refine ⟨_,rfl,?_⟩
 refine bindI_of (((k+1:Nat):Int)) (by exact i64_at _ _ (by omega) (by omega) (by omega)) ?_
 refine ⟨m-1,by omega,k+1,R',by omega,rfl,?_,?_⟩
 ·rw [take_snocG hoS,drawG_snoc,hWt,show t.op.toNat=OP by omega]
  rw [ew,eh] at hR'p
  exact hpic.lay ew eh hR'l hR'w hR'p
 ·exact Hp.suf (X:=[_,_]) (Hp.pre H.asc')
end
end Go.Bm
namespace Go.Den.YtbknfejmdekhpaaGreat
open Go Go.Den
def burinlaw14_light (C:CallP) (p_1:Int) (p_2:Int) (p_3:Int) (p_4:Int) (p_5:Int) (p_6:Bool) (p_7:Int) (p_8:Int) (p_9:Option Addr) (p_9n:Nat) (p_9c:Nat) (p_10:Option Addr) (p_10n:Nat) (p_10c:Nat) (h:Heap) (K:VK) (Kp:PK):Prop :=
newC h [.int .i64 p_1, .int .i64 p_2, .int .i64 p_3, .int .i64 p_4, .int .i64 p_5, .bool p_6, .int .i64 p_7, .int .i64 p_8, .slice p_9 p_9n p_9c, .slice p_10 p_10n p_10c] T_burinlaw14_Ask fun r_11 h_12 =>
∃ J_13:Nat->List Value->Heap->Prop,(∃ n_15,J_13 n_15 [.int .i64 0, .int .i64 0] h_12)/\∀ (n_15:Nat) (h_16:Heap) (u_17:Nat->Value) (n_18:Int) (i_19:Int),J_13 n_15 [.int .i64 n_18, .int .i64 i_19] h_16->(
ldS h_16 ((⟨r_11,0,none⟩:Addr).add 9) fun x_20 x_20n x_20c =>
bcase (decide (i_19<(x_20n:Int))) (
ldS h_16 ((⟨r_11,0,none⟩:Addr).add 9) fun x_21 x_21n x_21c =>
needs (0<=i_19/\i_19<(x_21n:Int)) <|
ptr x_21 fun a_22 =>
ldS h_16 ((a_22.add (i_19.toNat*3)).add 2) fun x_23 x_23n x_23c =>
bindI (IntKind.i64.wrap ((64:Int)*(x_23n:Int))) fun z_24 =>
bindI (IntKind.i64.wrap (n_18+z_24)) fun z_25 =>
bindI (IntKind.i64.wrap (z_25+(8:Int))) fun z_26 =>
bcase (decide (z_26 > (384000:Int))) (
K (.bool false) h_16) <|
bindI (IntKind.i64.wrap (i_19+(1:Int))) fun z_27 =>
∃ m_14,m_14<n_15/\J_13 m_14 [.int .i64 z_26, .int .i64 z_27] h_16) <|
∃ J_28:Nat->List Value->Heap->Prop,(∃ n_30,J_28 n_30 [.int .i64 n_18, .int .i64 0, .int .i64 0] h_16)/\∀ (n_30:Nat) (h_31:Heap) (u_32:Nat->Value) (n_33:Int) (area_34:Int) (i_35:Int),J_28 n_30 [.int .i64 n_33, .int .i64 area_34, .int .i64 i_35] h_31->(
ldS h_31 (((⟨r_11,0,none⟩:Addr).add 0).add 8) fun x_36 x_36n x_36c =>
bcase (decide (i_35<(x_36n:Int))) (
ldS h_31 (((⟨r_11,0,none⟩:Addr).add 0).add 8) fun x_37 x_37n x_37c =>
needs (0<=i_35/\i_35<(x_37n:Int)) <|
ptr x_37 fun a_38 =>
ldS h_31 (((a_38.add (i_35.toNat*7)).add 4).add 2) fun x_39 x_39n x_39c =>
bindI (IntKind.i64.wrap ((64:Int)*(x_39n:Int))) fun z_40 =>
bindI (IntKind.i64.wrap (n_33+z_40)) fun z_41 =>
bindI (IntKind.i64.wrap (z_41+(8:Int))) fun z_42 =>
bcase (decide (z_42 > (384000:Int))) (
K (.bool false) h_31) <|
∃ K_43:List Value->Heap->Prop,(
ldS h_31 (((⟨r_11,0,none⟩:Addr).add 0).add 8) fun x_46 x_46n x_46c =>
needs (0<=i_35/\i_35<(x_46n:Int)) <|
ptr x_46 fun a_47 =>
ldI h_31 ((a_47.add (i_35.toNat*7)).add 2) .i64 fun x_48 =>
bcase (decide (x_48≥(0:Int))) (
ldS h_31 (((⟨r_11,0,none⟩:Addr).add 0).add 8) fun x_49 x_49n x_49c =>
needs (0<=i_35/\i_35<(x_49n:Int)) <|
ptr x_49 fun a_50 =>
ldI h_31 ((a_50.add (i_35.toNat*7)).add 2) .i64 fun x_51 =>
ldS h_31 ((⟨r_11,0,none⟩:Addr).add 9) fun x_52 x_52n x_52c =>
bcase (decide (x_51<(x_52n:Int))) (
ldS h_31 ((⟨r_11,0,none⟩:Addr).add 9) fun x_53 x_53n x_53c =>
ldS h_31 (((⟨r_11,0,none⟩:Addr).add 0).add 8) fun x_54 x_54n x_54c =>
needs (0<=i_35/\i_35<(x_54n:Int)) <|
ptr x_54 fun a_55 =>
ldI h_31 ((a_55.add (i_35.toNat*7)).add 2) .i64 fun x_56 =>
needs (0<=x_56/\x_56<(x_53n:Int)) <|
ptr x_53 fun a_57 =>
ldI h_31 ((a_57.add (x_56.toNat*3)).add 0) .i64 fun x_58 =>
ldI h_31 ((a_57.add (x_56.toNat*3)).add 1) .i64 fun x_59 =>
ldS h_31 ((a_57.add (x_56.toNat*3)).add 2) fun x_60 x_60n x_60c =>
C F_burinref0_May #[.agg #[.int .i64 x_58, .int .i64 x_59, .slice x_60 x_60n x_60c]] h_31 (fun v_61 h_62 =>
∃ (r_63:Bool),v_61 = .bool r_63/\(
K_43 [.bool r_63] h_62)) (Kp)) <|
K_43 [.bool false] h_31) <|
K_43 [.bool false] h_31)/\∀ (h_44:Heap) (u_45:Nat->Value) (x_64:Bool),K_43 [.bool x_64] h_44->(
bcase x_64 (
ldS h_44 ((⟨r_11,0,none⟩:Addr).add 9) fun x_65 x_65n x_65c =>
ldS h_44 (((⟨r_11,0,none⟩:Addr).add 0).add 8) fun x_66 x_66n x_66c =>
needs (0<=i_35/\i_35<(x_66n:Int)) <|
ptr x_66 fun a_67 =>
ldI h_44 ((a_67.add (i_35.toNat*7)).add 2) .i64 fun x_68 =>
needs (0<=x_68/\x_68<(x_65n:Int)) <|
ptr x_65 fun a_69 =>
ldI h_44 ((a_69.add (x_68.toNat*3)).add 0) .i64 fun x_70 =>
ldS h_44 ((⟨r_11,0,none⟩:Addr).add 9) fun x_71 x_71n x_71c =>
ldS h_44 (((⟨r_11,0,none⟩:Addr).add 0).add 8) fun x_72 x_72n x_72c =>
needs (0<=i_35/\i_35<(x_72n:Int)) <|
ptr x_72 fun a_73 =>
ldI h_44 ((a_73.add (i_35.toNat*7)).add 2) .i64 fun x_74 =>
needs (0<=x_74/\x_74<(x_71n:Int)) <|
ptr x_71 fun a_75 =>
ldI h_44 ((a_75.add (x_74.toNat*3)).add 1) .i64 fun x_76 =>
bindI (IntKind.i64.wrap (x_70*x_76)) fun z_77 =>
bindI (IntKind.i64.wrap (area_34+z_77)) fun z_78 =>
bindI (IntKind.i64.wrap (i_35+(1:Int))) fun z_79 =>
∃ m_29,m_29<n_30/\J_28 m_29 [.int .i64 z_42, .int .i64 z_78, .int .i64 z_79] h_44) <|
bindI (IntKind.i64.wrap (i_35+(1:Int))) fun z_80 =>
∃ m_29,m_29<n_30/\J_28 m_29 [.int .i64 z_42, .int .i64 area_34, .int .i64 z_80] h_44)) <|
bcase (decide (area_34<=(24000:Int))) (
ldS h_31 (((⟨r_11,0,none⟩:Addr).add 0).add 8) fun x_81 x_81n x_81c =>
bcase (decide ((x_81n:Int)<=(200:Int))) (
ldS h_31 ((⟨r_11,0,none⟩:Addr).add 9) fun x_82 x_82n x_82c =>
bcase (decide ((x_82n:Int)<=(200:Int))) (
ldI h_31 (((⟨r_11,0,none⟩:Addr).add 0).add 2) .i64 fun x_83 =>
ldI h_31 (((⟨r_11,0,none⟩:Addr).add 0).add 3) .i64 fun x_84 =>
C F_burinref0_Size #[.int .i64 x_83, .int .i64 x_84] h_31 (fun v_85 h_86 =>
∃ (r_87:Bool),v_85 = .bool r_87/\(
bcase (!r_87) (
K (.bool true) h_86) <|
ldI h_86 (((⟨r_11,0,none⟩:Addr).add 0).add 2) .i64 fun x_88 =>
bindI (IntKind.i64.wrap (x_88+(64:Int))) fun z_89 =>
ldI h_86 (((⟨r_11,0,none⟩:Addr).add 0).add 3) .i64 fun x_90 =>
bindI (IntKind.i64.wrap (z_89*x_90)) fun z_91 =>
K (.bool (decide (z_91<=(60000:Int)))) h_86)) (Kp)) <|
K (.bool false) h_31) <|
K (.bool false) h_31) <|
K (.bool false) h_31))
def burinlaw14_wakes (C:CallP)  (h:Heap) (K:VK) (Kp:PK):Prop :=
newC h [.int .u64 13835058055282163712] T_uint64 fun r_1 h_2 =>
newC h_2 [.int .i64 2, .int .i64 1, .slice (some ⟨r_1,0,none⟩) 1 1] T_api_Bitmap fun r_3 h_4 =>
newC h_4 [.int .i64 3, .int .i64 1, .int .i64 0, .bool false, .int .i64 0, .int .i64 0, .slice none 0 0, .int .i64 0, .int .i64 0, .int .i64 0, .bool false, .int .i64 0, .int .i64 0, .slice none 0 0] T_api_Instance fun r_5 h_6 =>
newC h_6 [.int .i64 0, .int .i64 0, .int .i64 0, .int .i64 0, .int .i64 0, .bool false, .int .i64 0, .int .i64 0, .slice none 0 0] T_api_Text fun r_7 h_8 =>
stVs h_8 (⟨r_7,0,none⟩:Addr) 0 [.int .i64 0, .int .i64 0, .int .i64 5, .int .i64 2, .int .i64 0, .bool false, .int .i64 0, .int .i64 0, .slice (some ⟨r_5,0,none⟩) 2 2] fun h_9 =>
ldI h_9 ((⟨r_7,0,none⟩:Addr).add 0) .i64 fun x_10 =>
ldI h_9 ((⟨r_7,0,none⟩:Addr).add 1) .i64 fun x_11 =>
ldI h_9 ((⟨r_7,0,none⟩:Addr).add 2) .i64 fun x_12 =>
ldI h_9 ((⟨r_7,0,none⟩:Addr).add 3) .i64 fun x_13 =>
ldI h_9 ((⟨r_7,0,none⟩:Addr).add 4) .i64 fun x_14 =>
ldB h_9 ((⟨r_7,0,none⟩:Addr).add 5) fun x_15 =>
ldI h_9 ((⟨r_7,0,none⟩:Addr).add 6) .i64 fun x_16 =>
ldI h_9 ((⟨r_7,0,none⟩:Addr).add 7) .i64 fun x_17 =>
ldS h_9 ((⟨r_7,0,none⟩:Addr).add 8) fun x_18 x_18n x_18c =>
C F_text_Encode #[.agg #[.int .i64 x_10, .int .i64 x_11, .int .i64 x_12, .int .i64 x_13, .int .i64 x_14, .bool x_15, .int .i64 x_16, .int .i64 x_17, .slice x_18 x_18n x_18c], .slice (some ⟨r_3,0,none⟩) 1 1] h_9 (fun v_19 h_20 =>
∃ (r_21:Option Addr) (r_21n:Nat) (r_21c:Nat),∃ (r_22:Int),v_19 = .tuple #[.slice r_21 r_21n r_21c, .int .i64 r_22]/\(
C F_text_Decode #[.slice r_21 r_21n r_21c, .slice (some ⟨r_3,0,none⟩) 1 1] h_20 (fun v_23 h_24 =>
∃ (r_25:Int) (r_26:Int) (r_27:Int) (r_28:Int) (r_29:Int) (r_30:Bool) (r_31:Int) (r_32:Int) (r_33:Option Addr) (r_33n:Nat) (r_33c:Nat),∃ (r_34:Int),v_23 = .tuple #[.agg #[.int .i64 r_25, .int .i64 r_26, .int .i64 r_27, .int .i64 r_28, .int .i64 r_29, .bool r_30, .int .i64 r_31, .int .i64 r_32, .slice r_33 r_33n r_33c], .int .i64 r_34]/\(
newC h_24 [.int .i64 0, .int .i64 0, .int .i64 0, .int .i64 0, .int .i64 0, .bool false, .int .i64 0, .int .i64 0, .slice none 0 0] T_api_Text fun r_35 h_36 =>
stVs h_36 (⟨r_35,0,none⟩:Addr) 0 [.int .i64 r_25, .int .i64 r_26, .int .i64 r_27, .int .i64 r_28, .int .i64 r_29, .bool r_30, .int .i64 r_31, .int .i64 r_32, .slice r_33 r_33n r_33c] fun h_37 =>
ldI h_37 ((⟨r_7,0,none⟩:Addr).add 0) .i64 fun x_38 =>
ldI h_37 ((⟨r_7,0,none⟩:Addr).add 1) .i64 fun x_39 =>
ldI h_37 ((⟨r_7,0,none⟩:Addr).add 2) .i64 fun x_40 =>
ldI h_37 ((⟨r_7,0,none⟩:Addr).add 3) .i64 fun x_41 =>
ldI h_37 ((⟨r_7,0,none⟩:Addr).add 4) .i64 fun x_42 =>
ldB h_37 ((⟨r_7,0,none⟩:Addr).add 5) fun x_43 =>
ldI h_37 ((⟨r_7,0,none⟩:Addr).add 6) .i64 fun x_44 =>
ldI h_37 ((⟨r_7,0,none⟩:Addr).add 7) .i64 fun x_45 =>
ldS h_37 ((⟨r_7,0,none⟩:Addr).add 8) fun x_46 x_46n x_46c =>
C F_text_Draw #[.agg #[.int .i64 x_38, .int .i64 x_39, .int .i64 x_40, .int .i64 x_41, .int .i64 x_42, .bool x_43, .int .i64 x_44, .int .i64 x_45, .slice x_46 x_46n x_46c], .slice (some ⟨r_3,0,none⟩) 1 1] h_37 (fun v_47 h_48 =>
∃ (r_49:Int) (r_50:Int) (r_51:Option Addr) (r_51n:Nat) (r_51c:Nat),∃ (r_52:Int),v_47 = .tuple #[.agg #[.int .i64 r_49, .int .i64 r_50, .slice r_51 r_51n r_51c], .int .i64 r_52]/\(
newC h_48 [.int .i64 0, .int .i64 0, .slice none 0 0] T_api_Bitmap fun r_53 h_54 =>
stV h_54 ((⟨r_53,0,none⟩:Addr).add 0) (.int .i64 r_49) fun h_55 =>
stV h_55 ((⟨r_53,0,none⟩:Addr).add 1) (.int .i64 r_50) fun h_56 =>
stV h_56 ((⟨r_53,0,none⟩:Addr).add 2) (.slice r_51 r_51n r_51c) fun h_57 =>
bcase (r_22 == (0:Int)) (
bcase (r_34 == (0:Int)) (
bcase (r_52 == (0:Int)) (
bcase (decide ((r_21n:Int) > (6:Int))) (
ldS h_57 ((⟨r_35,0,none⟩:Addr).add 8) fun x_58 x_58n x_58c =>
bcase ((x_58n:Int) == (2:Int)) (
ldS h_57 ((⟨r_35,0,none⟩:Addr).add 8) fun x_59 x_59n x_59c =>
needs (0<=(0:Int)/\(0:Int)<(x_59n:Int)) <|
ptr x_59 fun a_60 =>
ldI h_57 ((a_60.add ((0:Int).toNat*7)).add 0) .i64 fun x_61 =>
bcase (x_61 == (0:Int)) (
ldI h_57 ((⟨r_53,0,none⟩:Addr).add 0) .i64 fun x_62 =>
ldI h_57 ((⟨r_53,0,none⟩:Addr).add 1) .i64 fun x_63 =>
ldS h_57 ((⟨r_53,0,none⟩:Addr).add 2) fun x_64 x_64n x_64c =>
newC h_57 [.int .u64 13835058055282163712, .int .u64 1729382256910270464] T_uint64 fun r_65 h_66 =>
C F_burinref0_EqBitmap #[.agg #[.int .i64 x_62, .int .i64 x_63, .slice x_64 x_64n x_64c], .agg #[.int .i64 5, .int .i64 2, .slice (some ⟨r_65,0,none⟩) 2 2]] h_66 (fun v_67 h_68 =>
∃ (r_69:Bool),v_67 = .bool r_69/\(
K (.bool r_69) h_68)) (Kp)) <|
K (.bool false) h_57) <|
K (.bool false) h_57) <|
K (.bool false) h_57) <|
K (.bool false) h_57) <|
K (.bool false) h_57) <|
K (.bool false) h_57)) (Kp))) (Kp))) (Kp)
end Go.Den.YtbknfejmdekhpaaGreat
namespace Go.Den.YtbknfejmdekhpaaGreat
open Go Go.Den
theorem call_burinlaw14_light {p_1:Int} {p_2:Int} {p_3:Int} {p_4:Int} {p_5:Int} {p_6:Bool} {p_7:Int} {p_8:Int} {p_9:Option Addr} {p_9n:Nat} {p_9c:Nat} {p_10:Option Addr} {p_10n:Nat} {p_10c:Nat} {h:Heap} {K:VK} {Kp:PK} (H:burinlaw14_light (CallsHP Go.Proofs.Tryz.prog) p_1 p_2 p_3 p_4 p_5 p_6 p_7 p_8 p_9 p_9n p_9c p_10 p_10n p_10c h K Kp):CallsHP Go.Proofs.Tryz.prog F_burinlaw14_light #[.agg #[.int .i64 p_1, .int .i64 p_2, .int .i64 p_3, .int .i64 p_4, .int .i64 p_5, .bool p_6, .int .i64 p_7, .int .i64 p_8, .slice p_9 p_9n p_9c, .slice p_10 p_10n p_10c]] h K Kp :=
 callsHP_ofE (Hints.mk (fun i=>bif Nat.beq i 15 then some ([33], .take 0 <| .take 1 <| .take 3 <| .take 2 <| .take 4 <| .take 5 <| .take 6 <| .take 7 <| .take 8 <| .take 9 <| .take 10 <| .take 12 <| .take 16 <| .take 11 <| .take 13 <| .take 14 <| .take 15 <| .take 17 <| .take 18 <| .take 19 <| .take 20 <| .take 21 <| .take 22 <| .take 24 <| .take 25 <| .take 27 <| .take 23 <| .take 26 <| .take 28 <| .take 29 <| .take 30 <| .take 31 <| .take 32 <| .bar 33 [] <| .take 34 <| .done) else (bif Nat.beq i 16 then some ([], .take 0 <| .take 1 <| .take 3 <| .take 4 <| .take 6 <| .take 13 <| .take 15 <| .take 16 <| .take 18 <| .take 2 <| .take 5 <| .take 7 <| .take 8 <| .take 9 <| .take 10 <| .take 11 <| .take 12 <| .take 14 <| .take 17 <| .take 19 <| .take 20 <| .take 21 <| .take 22 <| .take 23 <| .take 24 <| .take 25 <| .take 26 <| .take 27 <| .done) else (none))) (fun i=>bif Nat.beq i 3 then some ([(3, .int .i64),(4, .int .i64)],134217628) else (bif Nat.beq i 10 then some ([(3, .int .i64),(5, .int .i64),(6, .int .i64)],5192296858534827628530496195002476) else (none))) (fun i=>bif Nat.beq i 16 then some ([(84, .bool)],38685626226542233683755008) else (none)) []) (by kernel_rfl) Go.Proofs.Tryz.func12 (by kernel_rfl) (fun C=>burinlaw14_light C p_1 p_2 p_3 p_4 p_5 p_6 p_7 p_8 p_9 p_9n p_9c p_10 p_10n p_10c h K Kp) (fun C=>by kernel_rfl) H
theorem call_burinlaw14_wakes  {h:Heap} {K:VK} {Kp:PK} (H:burinlaw14_wakes (CallsHP Go.Proofs.Tryz.prog)  h K Kp):CallsHP Go.Proofs.Tryz.prog F_burinlaw14_wakes #[] h K Kp :=
 callsHP_ofE (Hints.mk (fun i=>none) (fun i=>none) (fun i=>none) []) (by kernel_rfl) Go.Proofs.Tryz.func27 (by kernel_rfl) (fun C=>burinlaw14_wakes C  h K Kp) (fun C=>by kernel_rfl) H
end Go.Den.YtbknfejmdekhpaaGreat
namespace Go.Bm
open Go Go.Den Go.Den.YtbknfejmdekhpaaGreat
theorem SlotN.cap {t:TypeId} {n c:Nat} {D:List Ent} {q:Option Addr} {xs:List Value} (hd:Slot t 1 D q n c xs):n<=c:=by
 obtain ⟨hl,⟨_,_,h4,_⟩ | ⟨b,rest,_,_,h4⟩⟩:=hd
 ·omega
 ·rw [List.length_append] at h4; omega
def wkS:List Bmp:=[⟨2,1,[13835058055282163712]⟩]
def wkT:Reg14:=⟨0,0,5,2,0,false,0,0⟩
def wkA:Ins:=⟨3,1,0,false,⟨0,0,[]⟩⟩
def wkB:Ins:=⟨0,0,0,false,⟨0,0,[]⟩⟩
def wkL:List Ins:=[wkA,wkB]
def wkW:List Nat:=[13835058055282163712,1729382256910270464]
theorem wkS_may:MayL wkS:=fun b hb=>by
 rw [List.mem_singleton.1 hb]
 refine ⟨by show SizeP 2 1; unfold SizeP; omega,by decide,fun y hy=>?_⟩
 have:y=0:=by simp at hy; omega
 subst this
 decide
theorem wk_form:TForm wkT wkS wkL:=by
 refine ⟨wkS_may,⟨by unfold SizeP; decide,by decide,by decide,by decide,by decide,by decide⟩,fun i hi=>?_⟩
 unfold wkL at hi
 rcases List.mem_cons.1 hi with rfl | hi
 ·exact ⟨by decide,by decide,by decide,fun _=>⟨rfl,rfl,rfl⟩,fun hh=>by cases hh⟩
 ·rw [List.mem_singleton.1 hi]
  exact ⟨by decide,by decide,by decide,fun _=>⟨rfl,rfl,rfl⟩,fun hh=>by cases hh⟩
theorem wk_chk14:chkT wkT wkS wkL=0:=chkT_ok wk_form (by decide)
theorem wk_srt:srtI 0 wkL=[wkB,wkA]:=by kernel_rfl
theorem wk_len14:Nat.blt 6 (txtB wkT wkS wkL).length=true:=by kernel_rfl
theorem wk_pix:((List.range 2).all fun Y=>(List.range 64).all fun x=>(pix wkW 1 x Y) == (drawG wkT wkS [wkB,wkA] x Y))=true:=by decide +kernel
theorem wk_pic:PicP 5 2 (drawG wkT wkS [wkB,wkA]) wkW:=by
 refine ⟨rfl,fun v hv=>?_,fun Y hY x hx=>?_⟩
 ·unfold wkW at hv
  rcases List.mem_cons.1 hv with rfl | hv
  ·decide
  ·rw [List.mem_singleton.1 hv]; decide
 ·have h1:=List.all_eq_true.1 wk_pix Y (List.mem_range.2 hY)
  have h2:=List.all_eq_true.1 h1 x (List.mem_range.2 hx)
  exact eq_of_beq h2
section
variable {hB:Heap} {K:VK} {Kp:PK}
set_option maxHeartbeats 4000000 in
theorem wakes14_ok (hk:∀ h',hext hB h'->K (.bool true) h'):CP F_burinlaw14_wakes #[] hB K Kp:=by
 refine call_burinlaw14_wakes ?_
 unfold burinlaw14_wakes
 have H:=Hp.nil hB []
 refine newC_hp H fun r1 h H=>?_
 refine newC_hp H fun r3 h H=>?_
 refine newC_hp H fun r5 h H=>?_
 refine newC_hp H fun r7 h H=>?_
 refine stVsA H 3 rfl rfl rfl fun h H=>?_
 obtain ⟨A,hA⟩:∃ A:List Ent,A=[⟨r1,true,T_uint64,u64s [13835058055282163712]⟩,⟨r3,true,T_api_Bitmap,[.int .i64 2, .int .i64 1, .slice (some ⟨r1,0,none⟩) 1 1]⟩,⟨r5,true,T_api_Instance,csI [⟨wkA,none,0,[]⟩,⟨wkB,none,0,[]⟩]⟩,⟨r7,true,T_api_Text,wkT.cs (some ⟨r5,0,none⟩) 2 2⟩]:=⟨_,rfl⟩
 have H:Hp hB [] h A:=by rw [hA]; exact H
 have w1:W64 [13835058055282163712]:=fun v hv=>by rw [List.mem_singleton.1 hv]; decide
 have rdA:∀ {h:Heap} {L:List Ent},Hp hB [] h (A++L)->BmsV h (some ⟨r3,0,none⟩) wkS/\InsV h (some ⟨r5,0,none⟩) wkL:=fun {h L} H=>by
  rw [hA] at H
  have rr1:rdO h (at0 r1) (1*1) (u64s [13835058055282163712]):=Hp.rdO_mem (rest:=[]) (w:=true) (t:=T_uint64) (cs:=u64s [13835058055282163712]) H (by rw [List.append_nil]; exact List.mem_cons_self ..) rfl
  refine ⟨fun i b hi=>?_,[⟨wkA,none,0,[]⟩,⟨wkB,none,0,[]⟩],rfl,Hp.rdO_mem (rest:=[]) (w:=true) (t:=T_api_Instance) H (by rw [List.append_nil]; exact List.mem_of_getElem? (i:=2) rfl) rfl,fun o ho=>?_⟩
  ·match i,hi with
   | 0,hi =>
    injection hi with hi
    subst hi
    exact ⟨⟨r3,0,none⟩,at0 r1,1,rfl,⟨hpB H 1 rfl rfl,hpB H 1 rfl rfl,hpB H 1 rfl rfl,rr1,w1,by decide⟩⟩
  ·rcases List.mem_cons.1 ho with rfl | ho
   ·exact ⟨rfl,(fun v hv=>by cases hv),by decide⟩
   ·rw [List.mem_singleton.1 ho]
    exact ⟨rfl,(fun v hv=>by cases hv),by decide⟩
 have rdT:∀ {h:Heap} {L:List Ent},Hp hB [] h (A++L)->∀ j v,(wkT.cs (some ⟨r5,0,none⟩) 2 2)[j]? = some v->hcell h ((⟨r7,0,none⟩:Addr).add j)=some v:=fun {h L} H j v hv=>by
  rw [hA] at H
  exact hpA H 3 rfl (by rw [Nat.zero_add]; exact hv)
 have H:Hp hB [] h (A++[]):=H.as (by rw [List.append_nil])
 refine ldI_of (rdT H 0 _ rfl) (ldI_of (rdT H 1 _ rfl) (ldI_of (rdT H 2 _ rfl) (ldI_of (rdT H 3 _ rfl) (ldI_of (rdT H 4 _ rfl) (ldB_of (rdT H 5 _ rfl) (ldI_of (rdT H 6 _ rfl) (ldI_of (rdT H 7 _ rfl) (ldS_of (rdT H 8 _ rfl) ?_))))))))
 obtain ⟨v1,v2⟩:=rdA H
 refine tEnc_ok (t:=wkT) (sy:=wkS) (l:=wkL) v2 v1 (by decide) (by decide) fun D qo co h' hs H'=>?_
 rw [encT_ok wk_chk14,wk_chk14] at *
 replace H:=H.join H' hs.w
 clear H'
 refine ⟨_,_,_,_,rfl,?_⟩
 have H:Hp hB [] h' (A++D):=H.as (by rw [List.append_nil])
 obtain ⟨v1,v2⟩:=rdA H
 refine tDec_ok (t:=wkT) (sy:=wkS) (l:=wkL) (Slot.rdO' hs H fun e he=>List.mem_append_right _ he) (SlotN.cap hs) v1 wk_form (by decide) (by decide) (by decide) (fun i hi=>?_) fun R q3 c3 h' hL H'=>?_
 ·unfold wkL at hi
  rcases List.mem_cons.1 hi with rfl | hi
  ·exact fun v hv=>by cases hv
  ·rw [List.mem_singleton.1 hi]
   exact fun v hv=>by cases hv
 have hL:ListI R q3 c3 [wkB,wkA]:=by rw [<- wk_srt]; exact hL
 replace H:=H.join H' hL.w
 clear H'
 refine ⟨_,_,_,_,_,_,_,_,_,_,_,_,rfl,?_⟩
 refine newC_hp H fun r35 h H=>?_
 have H:=H.rot
 refine stVsA H 0 rfl rfl rfl fun h H=>?_
 have H:Hp hB [] h (⟨r35,true,T_api_Text,wkT.cs q3 2 c3⟩::(A++D++R)):=H
 have HA:Hp hB [] h (A++(D++R)):=(Hp.suf (X:=[_]) H).asc
 refine ldI_of (rdT HA 0 _ rfl) (ldI_of (rdT HA 1 _ rfl) (ldI_of (rdT HA 2 _ rfl) (ldI_of (rdT HA 3 _ rfl) (ldI_of (rdT HA 4 _ rfl) (ldB_of (rdT HA 5 _ rfl) (ldI_of (rdT HA 6 _ rfl) (ldI_of (rdT HA 7 _ rfl) (ldS_of (rdT HA 8 _ rfl) ?_))))))))
 obtain ⟨v1,v2⟩:=rdA HA
 refine tDraw_ok (t:=wkT) (sy:=wkS) (l:=wkL) v2 v1 (by decide) (by decide) (fun h' hn _=>absurd wk_chk14 hn) fun W9 D9 q9 c9 h' _ hpic hs9 H'=>?_
 have e9:W9=wkW:=PicP.eq (W:=5) (X:=2) (G:=drawG wkT wkS [wkB,wkA]) (by rw [<- wk_srt]; exact hpic) wk_pic
 subst e9
 replace H:=H.join H' hs9.w
 clear H'
 refine ⟨_,_,_,_,_,_,rfl,?_⟩
 refine newC_hp H fun r53 h H=>?_
 have H:=H.rot
 refine stA H 0 rfl rfl rfl fun h H=>?_
 refine stA H 0 rfl rfl rfl fun h H=>?_
 refine stA H 0 rfl rfl rfl fun h H=>?_
 have H:Hp hB [] h (⟨r53,true,T_api_Bitmap,[.int .i64 5, .int .i64 2, .slice q9 2 c9]⟩::⟨r35,true,T_api_Text,wkT.cs q3 2 c3⟩::(A++D++R++D9)):=H
 refine bcase_eq (fun _=>?_) fun hh=>absurd rfl hh
 refine bcase_eq (fun _=>?_) fun hh=>absurd rfl hh
 refine bcase_eq (fun _=>?_) fun hh=>absurd rfl hh
 refine bcase_dec (fun _=>?_) fun hh=>?_
 rotate_left
 ·have:=Nat.le_of_ble_eq_true wk_len14
  exact absurd (show (((txtB wkT wkS wkL).length:Nat):Int) > 6 by omega) hh
 refine ldS_of (hpA H 1 rfl rfl) (bcase_eq (fun _=>?_) fun hh=>absurd rfl hh)
 refine ldS_of (hpA H 1 rfl rfl) (needs_of (by decide) ?_)
 obtain ⟨O,hO,hro,_⟩:=hL.view H fun e he=>List.mem_cons_of_mem _ (List.mem_cons_of_mem _ (List.mem_append_left _ (List.mem_append_right _ he)))
 have hOl:O.length=2:=by
  have:=congrArg List.length hO
  rw [List.length_map] at this
  exact this
 obtain ⟨o,ho⟩:∃ o,O[0]? = some o:=⟨_,List.getElem?_eq_getElem (by omega)⟩
 have hoi:o.i=wkB:=by
  have:(O.map OwI.i)[0]? = some o.i:=by rw [List.getElem?_map,ho]; rfl
  rw [hO] at this
  injection this with this
  exact this.symm
 obtain ⟨a,ha,cell⟩:=ins_at hro ho
 refine ptr_eq ha ?_
 refine ldI_of (cell 0 _ rfl) ?_
 rw [hoi]
 refine bcase_eq (fun _=>?_) fun hh=>absurd rfl hh
 refine ldI_of (hpA H 0 rfl rfl) (ldI_of (hpA H 0 rfl rfl) (ldS_of (hpA H 0 rfl rfl) ?_))
 have hrd9:rdO h q9 (wkW.length*1) (u64s wkW):=Slot.rdO' hs9 H fun e he=>List.mem_cons_of_mem _ (List.mem_cons_of_mem _ (List.mem_append_right _ he))
 refine newC_hpx H fun r65 h' hx H=>?_
 have hrd65:rdO h' (at0 r65) (wkW.length*1) (u64s wkW):=Hp.rdO_mem (rest:=[]) (w:=true) (t:=T_uint64) (cs:=u64s wkW) H (by rw [List.append_nil]; exact List.mem_append_right _ (List.mem_singleton.2 rfl)) rfl
 refine eqB_ok (xs:=wkW) (ys:=wkW) (rdO_ext hx hrd9) hrd65 (by decide) fun h2 e=>⟨_,rfl,?_⟩
 have:=hk h2 (H.hext.trans e)
 simpa using this
end
end Go.Bm
namespace Go.Bm
open Go Go.Den Go.Den.YtbknfejmdekhpaaGreat
section
variable {hB:Heap} {K:VK} {Kp:PK}
end
end Go.Bm
namespace Go.Bm
open Go Go.Den Go.Den.YtbknfejmdekhpaaGreat
open Classical in
section
variable {hB:Heap} {q1 q2 q3:Option Addr} {c1 c2 c3:Nat} {t:Int} {new imp:List Bmp} {ex:List Bool} {K:VK} {Kp:PK}
end
end Go.Bm
namespace Go.Bm
open Go Go.Den Go.Den.YtbknfejmdekhpaaGreat
section
variable {hB:Heap} {K:VK} {Kp:PK}
end
end Go.Bm
namespace Go.Bm
open Go Go.Den Go.Den.YtbknfejmdekhpaaGreat
theorem build {α:Type} {P:Nat->α->Prop}:∀ {n:Nat},(∀ i,i<n->∃ x,P i x)->∃ l:List α,l.length=n/\∀ i x,l[i]? = some x->P i x
 | 0,_=>⟨[],rfl,fun i x hx=>by simp at hx⟩
 | n+1,h=>by
  obtain ⟨l,e1,e2⟩:=build (n:=n) fun i hi=>h i (by omega)
  obtain ⟨y,hy⟩:=h n (by omega)
  refine ⟨l++[y],by simp [e1],fun i z hz=>?_⟩
  rcases Nat.lt_or_ge i l.length with hi | hi
  ·rw [List.getElem?_append_left hi] at hz
   exact e2 i z hz
  ·have hi2:=(List.getElem?_eq_some_iff.1 hz).1
   simp at hi2
   have:i=n:=by omega
   subst this
   rw [List.getElem?_append_right hi,e1,Nat.sub_self] at hz
   have hz:y=z:=by simpa using hz
   subst hz
   exact hy
theorem wd_bms {h:Heap} {cs:List Value} (H:WDx TP h T_s_api_Bitmap cs):∃ q cap,∃ l:List Bmp,cs=[.slice q l.length cap]/\BmsV h q l/\l.length<=4000000000000/\l.length<=cap:=by
 obtain ⟨q,len,cap,rfl,h1,h2,h3,h4⟩:=wd_slice Go.Proofs.Tryz.underlying27 H
 have k:TP.cellsOf T_api_Bitmap=3:=by kernel_rfl
 have kb:TP.bytesOf T_api_Bitmap=40:=by kernel_rfl
 have hrb:reachBytes=140737488351232:=rfl
 rw [k] at h4
 rw [kb] at h2
 obtain ⟨l,e1,e2⟩:=build (P:=fun i (b:Bmp)=>∃ a q1 c1,q=some a/\BmC h (a.add (i*3)) b q1 c1) (n:=len) fun i hi=>by
  obtain ⟨a,cs',ha,hr,hd⟩:=h4 i hi
  obtain ⟨w,b,q1,cap1,ws,rfl,_,_,g1,g2,g3⟩:=wd_bitmap hd
  have c:=fun j v hj=>hr.2 j v hj
  exact ⟨⟨w,b,ws⟩,a,q1,cap1,ha,⟨c 0 _ rfl,c 1 _ rfl,c 2 _ rfl,g2,g3,g1⟩⟩
 subst e1
 exact ⟨q,cap,l,rfl,e2,by omega,h1⟩
end Go.Bm
namespace Go.Bm
open Go Go.Den Go.Den.YtbknfejmdekhpaaGreat
theorem wd_inst {h:Heap} {cs:List Value} (H:WDx TP h T_api_Instance cs):∃ o:OwI,cs=o.cs/\o.Vw h:=by
 obtain ⟨hl,hf⟩:=wd_struct Go.Proofs.Tryz.underlying47 H
 have k:TP.cellsOf T_api_Instance=7:=by kernel_rfl
 rw [k] at hl
 obtain ⟨v0,v1,v2,v3,v4,v5,v6,rfl⟩:=list7 hl
 have kb:TP.cellsOf T_api_Bitmap=3:=by kernel_rfl
 have kB:TP.cellsOf T_bool=1:=by kernel_rfl
 obtain ⟨x,e0,_⟩:=wd_int Go.Proofs.Tryz.underlying3 (one_of k_int (hf 0 _ rfl) (v:=v0) rfl)
 obtain ⟨y,e1,_⟩:=wd_int Go.Proofs.Tryz.underlying3 (one_of k_int (hf 1 _ rfl) (v:=v1) rfl)
 obtain ⟨s,e2,_⟩:=wd_int Go.Proofs.Tryz.underlying3 (one_of k_int (hf 2 _ rfl) (v:=v2) rfl)
 obtain ⟨d,e3⟩:=wd_bool Go.Proofs.Tryz.underlying4 (one_of kB (hf 3 _ rfl) (v:=v3) rfl)
 have f4:WDx TP h T_api_Bitmap (([v0,v1,v2,v3,v4,v5,v6].drop 4).take (TP.cellsOf T_api_Bitmap)):=hf 4 _ rfl
 rw [kb] at f4
 obtain ⟨w,b,q1,cap1,ws,e4,_,_,g1,g2,g3⟩:=wd_bitmap f4
 simp only [List.drop_succ_cons,List.drop_zero,List.take_succ_cons,List.take_zero,List.cons.injEq,and_true] at e0 e1 e2 e3 e4
 obtain ⟨e40,e41,e42⟩:=e4
 subst e0 e1 e2 e3 e40 e41 e42
 exact ⟨⟨⟨x,y,s,d,⟨w,b,ws⟩⟩,q1,cap1,[]⟩,rfl,g2,g3,g1⟩
theorem csI_at {O:List OwI} {j:Nat} {v:Value} (h:(csI O)[j]? = some v):∃ o,O[j / 7]? = some o/\o.cs[j % 7]? = some v:=by
 have hj:=(List.getElem?_eq_some_iff.1 h).1
 rw [csI_len] at hj
 obtain ⟨o,ho⟩:∃ o,O[j / 7]? = some o:=⟨_,List.getElem?_eq_getElem (by omega)⟩
 have h2:=csI_get' (j:=j % 7) ho (by omega)
 rw [show j / 7*7+j % 7=j by omega] at h2
 exact ⟨o,ho,h2.symm.trans h⟩
theorem wd_insts {h:Heap} {cs:List Value} (H:WDx TP h T_s_api_Instance cs):∃ q cap,∃ l:List Ins,cs=[.slice q l.length cap]/\InsV h q l/\l.length<=4000000000000:=by
 obtain ⟨q,len,cap,rfl,h1,h2,h3,h4⟩:=wd_slice Go.Proofs.Tryz.underlying24 H
 have k:TP.cellsOf T_api_Instance=7:=by kernel_rfl
 have kb:TP.bytesOf T_api_Instance=72:=by kernel_rfl
 have hrb:reachBytes=140737488351232:=rfl
 rw [k] at h4
 rw [kb] at h2
 obtain ⟨O,e1,e2⟩:=build (P:=fun i (o:OwI)=>∃ a,q=some a/\rdO h (some (a.add (i*7))) 7 o.cs/\o.Vw h) (n:=len) fun i hi=>by
  obtain ⟨a,cs',ha,hr,hd⟩:=h4 i hi
  obtain ⟨o,rfl,hv⟩:=wd_inst hd
  exact ⟨o,a,ha,hr,hv⟩
 subst e1
 refine ⟨q,cap,O.map OwI.i,by rw [List.length_map],⟨O,rfl,?_,fun o ho=>?_⟩,by rw [List.length_map]; omega⟩
 ·rw [List.length_map]
  cases q with
  | none =>
   have:=(h3 rfl).1
   obtain rfl:O=[]:=List.length_eq_zero_iff.1 this
   exact rfl
  | some a =>
   refine ⟨csI_len O,fun j v hj=>?_⟩
   obtain ⟨o,ho,hv⟩:=csI_at hj
   obtain ⟨a',ha,hr,_⟩:=e2 _ o ho
   injection ha with ha
   subst ha
   have:=hr.2 _ v hv
   rw [add_addT,show j / 7*7+j % 7=j by omega] at this
   exact this
 ·obtain ⟨i,hi⟩:=List.mem_iff_getElem?.1 ho
  obtain ⟨_,_,_,hv⟩:=e2 i o hi
  exact hv
theorem wd_text {h:Heap} {cs:List Value} (H:WDx TP h T_api_Text cs):∃ (t:Reg14) (q:Option Addr) (c:Nat) (l:List Ins),cs=t.cs q l.length c/\InsV h q l/\l.length<=4000000000000:=by
 obtain ⟨hl,hf⟩:=wd_struct Go.Proofs.Tryz.underlying26 H
 have k:TP.cellsOf T_api_Text=9:=by kernel_rfl
 rw [k] at hl
 obtain ⟨v0,v1,v2,v3,v4,v5,v6,v7,v8,rfl⟩:∃ a b c d e f g i j,cs=[a,b,c,d,e,f,g,i,j]:=by
  match cs,hl with
  | [a,b,c,d,e,f,g,i,j],_=>exact ⟨a,b,c,d,e,f,g,i,j,rfl⟩
 have kB:TP.cellsOf T_bool=1:=by kernel_rfl
 have kI:TP.cellsOf T_s_api_Instance=1:=by kernel_rfl
 obtain ⟨x,e0,_⟩:=wd_int Go.Proofs.Tryz.underlying3 (one_of k_int (hf 0 _ rfl) (v:=v0) rfl)
 obtain ⟨y,e1,_⟩:=wd_int Go.Proofs.Tryz.underlying3 (one_of k_int (hf 1 _ rfl) (v:=v1) rfl)
 obtain ⟨w,e2,_⟩:=wd_int Go.Proofs.Tryz.underlying3 (one_of k_int (hf 2 _ rfl) (v:=v2) rfl)
 obtain ⟨b,e3,_⟩:=wd_int Go.Proofs.Tryz.underlying3 (one_of k_int (hf 3 _ rfl) (v:=v3) rfl)
 obtain ⟨op,e4,_⟩:=wd_int Go.Proofs.Tryz.underlying3 (one_of k_int (hf 4 _ rfl) (v:=v4) rfl)
 obtain ⟨rf,e5⟩:=wd_bool Go.Proofs.Tryz.underlying4 (one_of kB (hf 5 _ rfl) (v:=v5) rfl)
 obtain ⟨df,e6,_⟩:=wd_int Go.Proofs.Tryz.underlying3 (one_of k_int (hf 6 _ rfl) (v:=v6) rfl)
 obtain ⟨st,e7,_⟩:=wd_int Go.Proofs.Tryz.underlying3 (one_of k_int (hf 7 _ rfl) (v:=v7) rfl)
 obtain ⟨q,c,l,e8,g1,g2⟩:=wd_insts (one_of kI (hf 8 _ rfl) (v:=v8) rfl)
 simp only [List.cons.injEq,and_true] at e0 e1 e2 e3 e4 e5 e6 e7 e8
 subst e0 e1 e2 e3 e4 e5 e6 e7 e8
 exact ⟨⟨x,y,w,b,op,rf,df,st⟩,q,c,l,rfl,g1,g2⟩
theorem wd_ask14 {h:Heap} {cs:List Value} (H:WDx TP h T_burinlaw14_Ask cs):∃ (t:Reg14) (q:Option Addr) (c:Nat) (l:List Ins) (q2:Option Addr) (c2:Nat) (sy:List Bmp),cs=t.cs q l.length c++[.slice q2 sy.length c2]/\InsV h q l/\l.length<=4000000000000/\BmsV h q2 sy/\sy.length<=4000000000000:=by
 obtain ⟨hl,hf⟩:=wd_struct Go.Proofs.Tryz.underlying29 H
 have k:TP.cellsOf T_burinlaw14_Ask=10:=by kernel_rfl
 rw [k] at hl
 obtain ⟨v0,v1,v2,v3,v4,v5,v6,v7,v8,v9,rfl⟩:∃ a b c d e f g i j k,cs=[a,b,c,d,e,f,g,i,j,k]:=by
  match cs,hl with
  | [a,b,c,d,e,f,g,i,j,k],_=>exact ⟨a,b,c,d,e,f,g,i,j,k,rfl⟩
 have kt:TP.cellsOf T_api_Text=9:=by kernel_rfl
 have k1:TP.cellsOf T_s_api_Bitmap=1:=by kernel_rfl
 have f0:WDx TP h T_api_Text (([v0,v1,v2,v3,v4,v5,v6,v7,v8,v9].drop 0).take (TP.cellsOf T_api_Text)):=hf 0 _ rfl
 rw [kt] at f0
 obtain ⟨t,q,c,l,e0,g1,g2⟩:=wd_text f0
 obtain ⟨q2,c2,sy,e9,g3,g4,_⟩:=wd_bms (one_of k1 (hf 1 _ rfl) (v:=v9) rfl)
 simp only [List.drop_zero,List.take_succ_cons,List.take_zero,List.cons.injEq,and_true] at e0 e9
 obtain ⟨e0,e1,e2,e3,e4,e5,e6,e7,e8⟩:=e0
 subst e0 e1 e2 e3 e4 e5 e6 e7 e8 e9
 exact ⟨t,q,c,l,q2,c2,sy,rfl,g1,g2,g3,g4⟩
open Classical in
noncomputable def arS (sy:List Bmp) (l:List Ins):Nat:=(l.map fun i=>if 0<=i.s/\i.s<((sy.length:Nat):Int)/\(symOf sy i.s).may then (symOf sy i.s).w.toNat*(symOf sy i.s).h.toNat else 0).sum
structure Light14 (t:Reg14) (sy:List Bmp) (l:List Ins):Prop where
 n1:l.length<=200
 n2:sy.length<=200
 w1:∀ i∈l,i.b.ws.length<=6000
 w2:∀ b∈sy,b.ws.length<=6000
 ar:arS sy l<=24000
 sz:SizeP t.w t.h->(t.w+64)*t.h<=60000
open Classical in
theorem arS_snoc (sy:List Bmp) (l:List Ins) (i:Ins):arS sy (l++[i])=arS sy l+(if 0<=i.s/\i.s<((sy.length:Nat):Int)/\(symOf sy i.s).may then (symOf sy i.s).w.toNat*(symOf sy i.s).h.toNat else 0):=by
 unfold arS
 rw [List.map_append,List.sum_append]
 simp
theorem sym_get {sy:List Bmp} {s:Int} (h:0<=s/\s<((sy.length:Nat):Int)):sy[s.toNat]? = some (symOf sy s):=by
 obtain ⟨b,hb⟩:∃ b,sy[s.toNat]? = some b:=⟨_,List.getElem?_eq_getElem (by omega)⟩
 unfold symOf
 rw [List.getD_eq_getElem?_getD,hb]
 rfl
section
variable {hB:Heap} {K:VK} {Kp:PK} {t:Reg14} {q q2:Option Addr} {c c2:Nat} {sy:List Bmp} {l:List Ins}
set_option maxHeartbeats 4000000 in
theorem light14_ok (hv:InsV hB q l) (hs:BmsV hB q2 sy) (hl:l.length<=4000000000000) (hsl:sy.length<=4000000000000) (hk:∀ (r:Bool) h',(r=true->Light14 t sy l)->hext hB h'->K (.bool r) h') :
  CP F_burinlaw14_light #[.agg #[.int .i64 t.x, .int .i64 t.y, .int .i64 t.w, .int .i64 t.h, .int .i64 t.op, .bool t.rf, .int .i64 t.df, .int .i64 t.st, .slice q l.length c, .slice q2 sy.length c2]] hB K Kp:=by
 refine call_burinlaw14_light ?_
 unfold burinlaw14_light
 have H:=Hp.nil hB []
 refine newC_hp H fun r11 h H=>?_
 have H:Hp hB [] h [⟨r11,true,T_burinlaw14_Ask,t.cs q l.length c++[.slice q2 sy.length c2]⟩]:=H
 have bad:∀ {h'},hext hB h'->K (.bool false) h':=fun e=>hk false _ (fun hh=>by cases hh) e
 obtain ⟨O,hO,hro,hvw⟩:=hv
 have hOl:O.length=l.length:=by rw [<- hO,List.length_map]
 refine ⟨fun m vs h'=>∃ (i n:Nat),i+m=sy.length/\n<=384000/\(∀ b∈sy.take i,b.ws.length<=6000)/\vs=[.int .i64 (n:Nat), .int .i64 (i:Nat)]/\h'=h,⟨sy.length,0,0,by omega,by omega,(fun b hb=>by cases hb),rfl,rfl⟩,?_⟩
 rintro m h' u xn xi ⟨i,n,him,hn,hws,hxx,rfl⟩
 injection hxx with hx1 hxx
 injection hxx with hx2 hxx
 injection hx1 with _ hx1
 injection hx2 with _ hx2
 subst xn xi
 refine ldS_of (hpA H 0 rfl rfl) ?_
 refine bcase_dec (fun h1=>?_) fun h1=>?_
 ·obtain ⟨b,hb⟩:∃ b,sy[i]? = some b:=⟨_,List.getElem?_eq_getElem (by omega)⟩
  obtain ⟨a,qa,ca,hqa,hc0⟩:=hs i b hb
  have hc:=hc0.ext H.hext
  have hbl:=hc.l1
  refine ldS_of (hpA H 0 rfl rfl) (needs_of (by omega) (ptr_at hqa ?_))
  rw [Int.toNat_natCast]
  refine ldS_of hc.c2 ?_
  refine bindI_of (((64*b.ws.length:Nat):Int)) (by exact i64_at _ _ (by omega) (by omega) (by omega)) ?_
  refine bindI_of (((n+64*b.ws.length:Nat):Int)) (by exact i64_at _ _ (by omega) (by omega) (by omega)) ?_
  refine bindI_of (((n+64*b.ws.length+8:Nat):Int)) (by exact i64_at _ _ (by omega) (by omega) (by omega)) ?_
  refine bcase_dec (fun h2=>bad H.hext) fun h2=>?_
  refine bindI_of (((i+1:Nat):Int)) (by exact i64_at _ _ (by omega) (by omega) (by omega)) ?_
  refine ⟨m-1,by omega,i+1,n+64*b.ws.length+8,by omega,by omega,fun x hx=>?_,rfl,rfl⟩
  rw [take_snocG hb] at hx
  rcases List.mem_append.1 hx with hx | hx
  ·exact hws x hx
  ·rw [List.mem_singleton.1 hx]; omega
 obtain rfl:i=sy.length:=by omega
 rw [List.take_of_length_le (Nat.le_refl _)] at hws
 refine ⟨fun m vs h''=>∃ (i n:Nat),i+m=l.length/\8*i<=n/\n<=384000/\(∀ b∈l.take i,b.b.ws.length<=6000)/\arS sy (l.take i)<=i*1048576/\vs=[.int .i64 (n:Nat), .int .i64 (arS sy (l.take i):Nat), .int .i64 (i:Nat)]/\Hp hB [] h'' [⟨r11,true,T_burinlaw14_Ask,t.cs q l.length c++[.slice q2 sy.length c2]⟩],?_,?_⟩
 ·refine ⟨l.length,0,n,by omega,by omega,by omega,(fun b hb=>by cases hb),Nat.zero_le _,rfl,H⟩
 clear H
 rintro m h u xn xa xi ⟨i,n',him,hn8,hn',hws2,har,hxx,H⟩
 injection hxx with hx1 hxx
 injection hxx with hx2 hxx
 injection hxx with hx3 hxx
 injection hx1 with _ hx1
 injection hx2 with _ hx2
 injection hx3 with _ hx3
 subst xn xa xi
 refine ldS_of (hpB H 0 rfl rfl) ?_
 refine bcase_dec (fun h1=>?_) fun h1=>?_
 ·obtain ⟨o,ho⟩:∃ o,O[i]? = some o:=⟨_,List.getElem?_eq_getElem (by omega)⟩
  have hli:l[i]? = some o.i:=by rw [<- hO,List.getElem?_map,ho]; rfl
  obtain ⟨a,ha,cell⟩:=ins_at (rdO_ext H.hext hro) ho
  have hvo:=hvw o (List.mem_of_getElem? ho)
  have hol:=hvo.l
  have hnd:0<=((i:Nat):Int)/\((i:Nat):Int)<((l.length:Nat):Int):=by omega
  refine ldS_of (hpB H 0 rfl rfl) (needs_of hnd (ptr_eq ha ?_))
  rw [Int.toNat_natCast,add_addT _ 4 2]
  refine ldS_of (cell 6 _ rfl) ?_
  refine bindI_of (((64*o.i.b.ws.length:Nat):Int)) (by exact i64_at _ _ (by omega) (by omega) (by omega)) ?_
  refine bindI_of (((n'+64*o.i.b.ws.length:Nat):Int)) (by exact i64_at _ _ (by omega) (by omega) (by omega)) ?_
  refine bindI_of (((n'+64*o.i.b.ws.length+8:Nat):Int)) (by exact i64_at _ _ (by omega) (by omega) (by omega)) ?_
  refine bcase_dec (fun h2=>bad H.hext) fun h2=>?_
  have hws3:∀ b∈l.take (i+1),b.b.ws.length<=6000:=fun x hx=>by
   rw [take_snocG hli] at hx
   rcases List.mem_append.1 hx with hx | hx
   ·exact hws2 x hx
   ·rw [List.mem_singleton.1 hx]; omega
  have hsn:=arS_snoc sy (l.take i) o.i
  rw [<- take_snocG hli] at hsn
  refine ⟨fun vs h'=>∃ r:Bool,vs=[.bool r]/\(r=true↔0<=o.i.s/\o.i.s<((sy.length:Nat):Int)/\(symOf sy o.i.s).may)/\hext h h',?_,?_⟩
  ·refine ldS_of (hpB H 0 rfl rfl) (needs_of hnd (ptr_eq ha ?_))
   refine ldI_of (cell 2 _ rfl) ?_
   refine bcase_dec (fun h3=>?_) fun h3=>⟨false,rfl,⟨(fun hh=>by cases hh),fun hh=>absurd hh.1 (by omega)⟩,hext.refl _⟩
   refine ldS_of (hpB H 0 rfl rfl) (needs_of hnd (ptr_eq ha ?_))
   refine ldI_of (cell 2 _ rfl) (ldS_of (hpA H 0 rfl rfl) ?_)
   refine bcase_dec (fun h4=>?_) fun h4=>⟨false,rfl,⟨(fun hh=>by cases hh),fun hh=>absurd hh.2.1 (by omega)⟩,hext.refl _⟩
   obtain ⟨a3,q9,c9,ha3,hc0⟩:=hs _ _ (sym_get (sy:=sy) (s:=o.i.s) ⟨by omega,h4⟩)
   have hc:=hc0.ext H.hext
   refine ldS_of (hpA H 0 rfl rfl) (ldS_of (hpB H 0 rfl rfl) (needs_of hnd (ptr_eq ha ?_)))
   refine ldI_of (cell 2 _ rfl) (needs_of (by omega) (ptr_eq ha3 ?_))
   refine ldI_of hc.c0 (ldI_of hc.c1 (ldS_of hc.c2 ?_))
   refine may_ok hc.r1 hc.w1 hc.l1 fun r h' hr e=>⟨_,rfl,r,rfl,⟨fun hh=>⟨by omega,h4,hr.1 hh⟩,fun hh=>hr.2 hh.2.2⟩,e⟩
  rintro h' u xb ⟨r,hxx,hr,e⟩
  injection hxx with hx1 hxx
  injection hx1 with hx1
  subst xb
  have H:=H.ext e
  have cell:∀ j v,o.cs[j]? = some v->hcell h' ((a.add (i*7)).add j)=some v:=fun j v hv=>e.cell (cell j v hv)
  refine bcase_of (fun h3=>?_) fun h3=>?_
  ·have hcond:=hr.1 h3
   rw [if_pos hcond] at hsn
   obtain ⟨W,X,e1,e2,hW1,hW2,hX1,hX2,hWX⟩:=size_nat hcond.2.2.1
   rw [e1,e2,Int.toNat_natCast,Int.toNat_natCast] at hsn
   obtain ⟨a3,q9,c9,ha3,hc0⟩:=hs _ _ (sym_get (sy:=sy) (s:=o.i.s) ⟨hcond.1,hcond.2.1⟩)
   have hc:=hc0.ext H.hext
   have hnd2:0<=o.i.s/\o.i.s<((sy.length:Nat):Int):=⟨hcond.1,hcond.2.1⟩
   refine ldS_of (hpA H 0 rfl rfl) (ldS_of (hpB H 0 rfl rfl) (needs_of hnd (ptr_eq ha ?_)))
   refine ldI_of (cell 2 _ rfl) (needs_of hnd2 (ptr_eq ha3 ?_))
   refine ldI_of hc.c0 ?_
   refine ldS_of (hpA H 0 rfl rfl) (ldS_of (hpB H 0 rfl rfl) (needs_of hnd (ptr_eq ha ?_)))
   refine ldI_of (cell 2 _ rfl) (needs_of hnd2 (ptr_eq ha3 ?_))
   refine ldI_of hc.c1 ?_
   have hmz:(symOf sy o.i.s).w*(symOf sy o.i.s).h=((W*X:Nat):Int):=by rw [e1,e2]; simp
   refine bindI_of (((W*X:Nat):Int)) (by exact i64_at _ _ hmz (by omega) (by omega)) ?_
   refine bindI_of (((arS sy (l.take (i+1)):Nat):Int)) (by (rw [hsn]; exact i64_at _ _ (by omega) (by omega) (by omega))) ?_
   refine bindI_of (((i+1:Nat):Int)) (by exact i64_at _ _ (by omega) (by omega) (by omega)) ?_
   exact ⟨m-1,by omega,i+1,_,by omega,by omega,by omega,hws3,by omega,rfl,H⟩
  ·rw [if_neg (fun hh=>by rw [hr.2 hh] at h3; cases h3)] at hsn
   have hsn:arS sy (l.take (i+1))=arS sy (l.take i):=hsn.trans (Nat.add_zero _)
   rw [<- hsn]
   refine bindI_of (((i+1:Nat):Int)) (by exact i64_at _ _ (by omega) (by omega) (by omega)) ?_
   exact ⟨m-1,by omega,i+1,_,by omega,by omega,by omega,hws3,by omega,rfl,H⟩
 obtain rfl:i=l.length:=by omega
 rw [List.take_of_length_le (Nat.le_refl _)] at hws2 ⊢
 refine bcase_dec (fun h2=>?_) fun h2=>bad H.hext
 refine ldS_of (hpB H 0 rfl rfl) (bcase_dec (fun h3=>?_) fun h3=>bad H.hext)
 refine ldS_of (hpA H 0 rfl rfl) (bcase_dec (fun h4=>?_) fun h4=>bad H.hext)
 refine ldI_of (hpB H 0 rfl rfl) (ldI_of (hpB H 0 rfl rfl) (rsize_ok fun b hb=>⟨_,rfl,?_⟩))
 have key:(SizeP t.w t.h->(t.w+64)*t.h<=60000)->Light14 t sy l:=fun hsz=>⟨by omega,by omega,hws2,hws,by omega,hsz⟩
 refine bcase_not (fun h5=>?_) fun h5=>?_
 ·exact hk true _ (fun _=>key fun hsz=>by rw [hb.2 hsz] at h5; cases h5) H.hext
 ·have hsz:=hb.1 h5
  obtain ⟨W,X,e1,e2,hW1,hW2,hX1,hX2,hWX⟩:=size_nat hsz
  have h64:X*64<=1048576*64:=Nat.mul_le_mul_right _ hX2
  have hmm:(t.w+64)*t.h=(((W+64)*X:Nat):Int):=by rw [e1,e2]; simp
  have hmn:(W+64)*X=W*X+64*X:=Nat.add_mul ..
  refine ldI_of (hpB H 0 rfl rfl) ?_
  refine bindI_of ((t.w+64)) (by exact i64_in _ (by omega) (by omega)) ?_
  refine ldI_of (hpB H 0 rfl rfl) ?_
  refine bindI_of ((((W+64)*X:Nat):Int)) (by exact i64_at _ _ hmm (by omega) (by omega)) ?_
  refine hk _ _ (fun hh=>key fun _=>?_) H.hext
  rw [hmm]
  exact of_decide_eq_true hh
end
end Go.Bm
namespace Go.Bm
open Go Go.Den Go.Den.YtbknfejmdekhpaaGreat
def hitP (sy:List Bmp) (x Y:Nat) (i:Ins):Bool:=getP (srcB sy i).ws (srcB sy i).w.toNat (srcB sy i).h.toNat ((x:Int)-i.x) ((Y:Int)-i.y)
def insP (sy:List Bmp) (x Y:Nat) (i:Ins):Prop:=i.x<=x/\(x:Int)<i.x+(srcB sy i).w/\i.y<=Y/\(Y:Int)<i.y+(srcB sy i).h
instance (sy:List Bmp) (x Y:Nat) (i:Ins):Decidable (insP sy x Y i):=by unfold insP; infer_instance
def lay1 (sy:List Bmp) (op x Y:Nat) (g:Bool) (i:Ins):Bool:=if insP sy x Y i then opB op g (hitP sy x Y i) else g
def cntH (sy:List Bmp) (l:List Ins) (x Y:Nat):Nat:=(l.map fun i=>(hitP sy x Y i).toNat).sum
theorem hit_in {sy:List Bmp} {x Y:Nat} {i:Ins} (h:¬ insP sy x Y i):hitP sy x Y i=false:=by
 unfold hitP getP
 rw [decide_eq_false,Bool.false_and]
 unfold insP at h
 omega
theorem layP_1 {sy:List Bmp} {op W x Y:Nat} {G:Nat->Nat->Bool} {i:Ins} (hm:(srcB sy i).may):layP sy op W G i x Y=if x<W then lay1 sy op x Y (G x Y) i else G x Y:=by
 obtain ⟨w,b,e1,e2,_⟩:=size_nat hm.1
 unfold layP lay1
 by_cases hx:x<W
 ·rw [if_pos hx]
  by_cases hi:insP sy x Y i
  ·have hi':=hi
   unfold insP at hi'
   rw [if_pos hi,if_pos (by omega)]
   unfold hitP getP
   rw [decide_eq_true (by rw [e1,e2,Int.toNat_natCast,Int.toNat_natCast]; omega),Bool.true_and]
  ·rw [if_neg hi,if_neg]
   unfold insP at hi
   omega
 ·rw [if_neg hx,if_neg (by omega)]
theorem draw_pt {sy:List Bmp} {op W x Y:Nat}:∀ (l:List Ins) (G:Nat->Nat->Bool),(∀ i∈l,(srcB sy i).may)->l.foldl (layP sy op W) G x Y=if x<W then l.foldl (lay1 sy op x Y) (G x Y) else G x Y
 | [],G,_=>by
  show G x Y=_
  split <;> rfl
 | i::l,G,h=>by
  have ih:=draw_pt (op:=op) (W:=W) (x:=x) (Y:=Y) l (layP sy op W G i) fun y hy=>h y (List.mem_cons_of_mem _ hy)
  rw [List.foldl_cons,ih,layP_1 (h i (List.mem_cons_self ..))]
  split <;> rfl
theorem drawG_pt {t:Reg14} {sy:List Bmp} {l:List Ins} {x Y:Nat} (h:∀ i∈l,(srcB sy i).may):drawG t sy l x Y=if x<t.w.toNat then l.foldl (lay1 sy t.op.toNat x Y) (decide (t.df=1)) else false:=by
 unfold drawG
 rw [draw_pt l _ h]
 unfold gndP
 by_cases hx:x<t.w.toNat
 ·rw [if_pos hx,if_pos hx]
  simp [hx]
 ·rw [if_neg hx,if_neg hx]
  simp [hx]
theorem drawG_may {t:Reg14} {sy:List Bmp} {l:List Ins} {R:List Nat} (hs:SizeP t.w t.h) (h:∀ i∈l,(srcB sy i).may) (hp:PicP t.w.toNat t.h.toNat (drawG t sy l) R):MayP t.w t.h R:=by
 obtain ⟨W,X,e1,e2,_⟩:=size_nat hs
 rw [e1,e2] at hs ⊢
 rw [e1,e2,Int.toNat_natCast,Int.toNat_natCast] at hp
 refine may_of_pix hs hp.1 hp.2.1 fun y hy x h1 h2=>?_
 rw [hp.2.2 y hy x h2,drawG_pt h,if_neg]
 rw [e1,Int.toNat_natCast]
 omega
theorem pic_get {W X:Nat} {G:Nat->Nat->Bool} {R:List Nat} (h:PicP W X G R) {x y:Nat} (hx:x<W) (hy:y<X):getP R W X (x:Int) (y:Int)=G x y:=by
 unfold getP
 rw [decide_eq_true (by omega),Bool.true_and,Int.toNat_natCast,Int.toNat_natCast]
 exact h.2.2 y hy x (by unfold wds; omega)
theorem lay1_xor {sy:List Bmp} {x Y:Nat} (g:Bool) (i:Ins):lay1 sy 2 x Y g i=(g != hitP sy x Y i):=by
 unfold lay1
 split
 ·rfl
 ·rename_i h
  rw [hit_in h]
  cases g <;> rfl
theorem cntH_cons (sy:List Bmp) (i:Ins) (l:List Ins) (x Y:Nat):cntH sy (i::l) x Y=(hitP sy x Y i).toNat+cntH sy l x Y:=rfl
theorem cntH_perm {sy:List Bmp} {a b:List Ins} (h:a.Perm b) (x Y:Nat):cntH sy a x Y=cntH sy b x Y:=(h.map _).sum_nat
theorem fold_xor {sy:List Bmp} {x Y:Nat}:∀ (l:List Ins) (g:Bool),l.foldl (lay1 sy 2 x Y) g=decide ((g.toNat+cntH sy l x Y) % 2=1)
 | [],g=>by cases g <;> rfl
 | i::l,g=>by
  rw [List.foldl_cons,fold_xor l,lay1_xor,cntH_cons,decide_eq_decide]
  cases g <;> cases hitP sy x Y i <;> simp <;> omega
theorem chkT_like {t t':Reg14} {sy:List Bmp} {l:List Ins} (h:chkT t sy l=0) (hr:RegOk t') (e:t'.rf=t.rf):chkT t' sy l=0:=by
 obtain ⟨hf,h1,h2,h3⟩:=chkT_zero h
 exact chkT_ok ⟨hf.1,hr,fun i hi=>e ▸ hf.2.2 i hi⟩ (by omega)
end Go.Bm
namespace Go.Den.YtbknfejmdekhpaaGreat
open Go Go.Den
end Go.Den.YtbknfejmdekhpaaGreat
namespace Go.Den.YtbknfejmdekhpaaGreat
open Go Go.Den
end Go.Den.YtbknfejmdekhpaaGreat
namespace Go.Bm
open Go Go.Den Go.Den.YtbknfejmdekhpaaGreat
section
variable {hB:Heap} {K:VK} {Kp:PK}
theorem getB_ok {b:Bmp} {q:Option Addr} {c:Nat} (hr:rdO hB q (b.ws.length*1) (u64s b.ws)) (hw:W64 b.ws) (hm:b.may) {x y:Int} (hk:∀ h,hext hB h->K (.int .i64 ((getP b.ws b.w.toNat b.h.toNat x y).toNat:Nat)) h) :
  CP F_burinref0_Get #[.agg #[.int .i64 b.w, .int .i64 b.h, .slice q b.ws.length c], .int .i64 x, .int .i64 y] hB K Kp:=by
 obtain ⟨bw,bh,ws⟩:=b
 obtain ⟨W,X,e1,e2,_⟩:=size_nat hm.1
 have e1:bw=(W:Int):=e1
 have e2:bh=(X:Int):=e2
 subst e1 e2
 refine get_ok hr hw hm.1 (may_len hm) fun h e=>?_
 exact hk h e
end
end Go.Bm
namespace Go.Bm
open Go Go.Den Go.Den.YtbknfejmdekhpaaGreat
theorem csI_setG:∀ (P:List OwI) (rest:List Value) (i j:Nat) (o o':OwI) (v:Value),P[i]? = some o->j<7->o'.cs=o.cs.set j v->(csI P++rest).set (i*7+j) v=csI (P.set i o')++rest
 | [],_,i,j,o,o',v,h,_,_=>by cases h
 | p::P,rest,0,j,o,o',v,h,hj,e=>by
  injection h with h
  subst h
  rw [csI_cons,List.set_cons_zero,csI_cons,e,Nat.zero_mul,Nat.zero_add,List.append_assoc,List.set_append_left _ _ (by exact hj),List.append_assoc]
 | p::P,rest,i+1,j,o,o',v,h,hj,e=>by
  rw [csI_cons,List.append_assoc,csI_setj,csI_setG P rest i j o o' v h hj e]
  rfl
section
variable {h0 h:Heap} {F:List Nat} {L:List Ent} {b:Nat} {P:List OwI} {rest:List Value} {K:Heap->Prop}
theorem stI (H:Hp h0 F h (⟨b,true,T_api_Instance,csI P++rest⟩::L)) {i j:Nat} {o o':OwI} {v:Value} (ho:P[i]? = some o) (hj:j<7) (e:o'.cs=o.cs.set j v) (hv:v.oneCell'=true)
  (hk:∀ h',Hp h0 F h' (⟨b,true,T_api_Instance,csI (P.set i o')++rest⟩::L)->K h'):stV h (((⟨b,0,none⟩:Addr).add (i*7)).add j) v K:=by
 have hi:=(List.getElem?_eq_some_iff.1 ho).1
 rw [add_mk,add_mk,Nat.zero_add]
 refine stV_hp H 0 rfl (by rw [List.length_append,csI_len]; omega) hv fun h' _ H=>hk h' ?_
 rw [<- csI_setG P rest i j o o' v ho hj e]
 exact H
end
structure HasI (G:List Ent) (P:List OwI):Prop where
 ok:∀ o∈P,o.Ok
 has:∀ o∈P,∀ e∈o.D,e∈G
end Go.Bm
namespace Go.Den.YtbknfejmdekhpaaGreat
open Go Go.Den
end Go.Den.YtbknfejmdekhpaaGreat
namespace Go.Den.YtbknfejmdekhpaaGreat
open Go Go.Den
end Go.Den.YtbknfejmdekhpaaGreat
namespace Go.Bm
open Go Go.Den Go.Den.YtbknfejmdekhpaaGreat
section
variable {hB:Heap} {K:VK} {Kp:PK}
theorem tDrawN {t:Reg14} {q q2:Option Addr} {c c2 n:Nat} {sy:List Bmp} {l:List Ins} (hn:l.length=n) (hn2:n<=1000000) (hv:InsV hB q l) (hs:BmsV hB q2 sy) (hsl:sy.length<=1000000000000) (hck:chkT t sy l=0)
  (hk:∀ R D qo co h',PicP t.w.toNat t.h.toNat (drawG t sy (srtI t.st.toNat l)) R->Slot T_uint64 1 D qo R.length co (u64s R)->Hp hB [] h' D->K (.tuple #[.agg #[.int .i64 t.w, .int .i64 t.h, .slice qo R.length co], .int .i64 0]) h') :
  CP F_text_Draw #[t.ag q n c, .slice q2 sy.length c2] hB K Kp:=by
 subst hn
 exact tDraw_ok (t:=t) hv hs hn2 hsl (fun h' hn _=>absurd hck hn) fun R D qo co h' _=>hk R D qo co h'
end
end Go.Bm
namespace Go.Bm
open Go Go.Den Go.Den.YtbknfejmdekhpaaGreat
def mvI (dx dy:Int) (i:Ins):Ins:={ i with x:=i.x+dx,y:=i.y+dy }
def mvO (dx dy:Int) (n:Nat) (O:List OwI):List OwI:=O.mapIdx fun j o=>if j<n then { o with i:=mvI dx dy o.i } else o
section
variable {dx dy:Int}
theorem mvO_len (n:Nat) (O:List OwI):(mvO dx dy n O).length=O.length:=List.length_mapIdx
theorem mvO_get {n:Nat} {O:List OwI} {j:Nat} {o:OwI} (h:O[j]? = some o):(mvO dx dy n O)[j]? = some (if j<n then { o with i:=mvI dx dy o.i } else o):=by
 unfold mvO
 rw [List.getElem?_mapIdx,h]
 rfl
theorem mvO_set {O:List OwI} {i:Nat} {o:OwI} (h:O[i]? = some o):mvO dx dy (i+1) O=(mvO dx dy i O).set i { o with i:=mvI dx dy o.i }:=by
 refine List.ext_getElem? fun j=>?_
 rcases Nat.lt_or_ge j O.length with hj | hj
 ·obtain ⟨x,hx⟩:∃ x,O[j]? = some x:=⟨_,List.getElem?_eq_getElem hj⟩
  by_cases hji:j=i
  ·subst hji
   rw [h] at hx
   injection hx with hx
   subst hx
   rw [mvO_get h,List.getElem?_set_self (by rw [mvO_len]; exact hj),if_pos (Nat.lt_succ_self _)]
  ·rw [mvO_get hx,List.getElem?_set_ne (Ne.symm hji),mvO_get hx]
   by_cases h2:j<i
   ·rw [if_pos h2,if_pos (by omega)]
   ·rw [if_neg h2,if_neg (by omega)]
 ·rw [List.getElem?_eq_none (by rw [mvO_len]; exact hj),List.getElem?_eq_none (by rw [List.length_set,mvO_len]; exact hj)]
theorem mvO_zero (O:List OwI):mvO dx dy 0 O=O:=by
 refine List.ext_getElem? fun j=>?_
 unfold mvO
 rw [List.getElem?_mapIdx]
 cases h:O[j]? with
 | none=>rfl
 | some o=>simp
theorem mvO_map {n:Nat} {O:List OwI} (h:O.length<=n):(mvO dx dy n O).map OwI.i=(O.map OwI.i).map (mvI dx dy):=by
 refine List.ext_getElem? fun j=>?_
 unfold mvO
 rw [List.getElem?_map,List.getElem?_mapIdx,List.getElem?_map,List.getElem?_map]
 cases hj:O[j]? with
 | none=>rfl
 | some o =>
  have:=(List.getElem?_eq_some_iff.1 hj).1
  simp only [Option.map_some]
  rw [if_pos (by omega)]
theorem mvO_has {n:Nat} {O:List OwI} {G:List Ent} (h:HasI G O):HasI G (mvO dx dy n O):=by
 have key:∀ o∈mvO dx dy n O,∃ x∈O,o.D=x.D/\o.i.b=x.i.b/\o.q=x.q/\o.c=x.c:=fun o ho=>by
  obtain ⟨j,hj⟩:=List.mem_iff_getElem?.1 ho
  unfold mvO at hj
  rw [List.getElem?_mapIdx] at hj
  cases hx:O[j]? with
  | none=>rw [hx] at hj; cases hj
  | some x =>
   rw [hx] at hj
   injection hj with hj
   subst hj
   refine ⟨x,List.mem_of_getElem? hx,?_⟩
   split <;> exact ⟨rfl,rfl,rfl,rfl⟩
 refine ⟨fun o ho=>?_,fun o ho e he=>?_⟩
 ·obtain ⟨x,hx,e1,e2,e3,e4⟩:=key o ho
  have:=h.ok x hx
  refine ⟨by rw [e1,e2,e3,e4]; exact this.s,by rw [e2]; exact this.w,by rw [e2]; exact this.l⟩
 ·obtain ⟨x,hx,e1,_⟩:=key o ho
  exact h.has x hx e (by rw [<- e1]; exact he)
end
theorem srcB_mv (sy:List Bmp) (dx dy:Int) (i:Ins):srcB sy (mvI dx dy i)=srcB sy i:=rfl
theorem hit_mv {sy:List Bmp} {a b:Nat} {i:Ins} {x Y:Nat}:hitP sy (x+a) (Y+b) (mvI (a:Int) (b:Int) i)=hitP sy x Y i:=by
 unfold hitP
 rw [srcB_mv]
 congr 1
 ·show ((x+a:Nat):Int)-(i.x+(a:Int))=_
  omega
 ·show ((Y+b:Nat):Int)-(i.y+(b:Int))=_
  omega
theorem cnt_mv {sy:List Bmp} {a b:Nat} {x Y:Nat}:∀ l:List Ins,cntH sy (l.map (mvI (a:Int) (b:Int))) (x+a) (Y+b)=cntH sy l x Y
 | []=>rfl
 | i::l=>by rw [List.map_cons,cntH_cons,cntH_cons,hit_mv,cnt_mv l]
theorem InsOk.mv {rf:Bool} {sy:List Bmp} {i:Ins} {dx dy:Int} (h:InsOk rf sy i) (h1:-1048576<=i.x+dx/\i.x+dx<=1048576) (h2:-1048576<=i.y+dy/\i.y+dy<=1048576):InsOk rf sy (mvI dx dy i):=⟨h.1,h1,h2,h.2.2.2.1,h.2.2.2.2⟩
theorem arI_mv (dx dy:Int):∀ l:List Ins,arI (l.map (mvI dx dy))=arI l
 | []=>rfl
 | i::l=>by rw [List.map_cons,arI_cons,arI_cons,arI_mv dx dy l]; rfl
theorem arI_app (a b:List Ins):arI (a++b)=arI a+arI b:=by
 unfold arI
 rw [List.map_append,List.sum_append]
theorem cntH_app (sy:List Bmp) (a b:List Ins) (x Y:Nat):cntH sy (a++b) x Y=cntH sy a x Y+cntH sy b x Y:=by
 unfold cntH
 rw [List.map_append,List.sum_append]
def outL (W:Int):List Ins:=[⟨W,0,0,false,⟨0,0,[]⟩⟩,⟨0,-1048576,0,false,⟨0,0,[]⟩⟩]
theorem cnt_out {sy:List Bmp} {W:Int} {x Y:Nat} (hx:(x:Int)<W) (hh:(symOf sy 0).h<1048576) (hY:0<=(symOf sy 0).h):cntH sy (outL W) x Y=0:=by
 unfold outL
 rw [cntH_cons,cntH_cons]
 rw [hit_in (i:=⟨W,0,0,false,⟨0,0,[]⟩⟩) (by
  unfold insP
  show ¬ (W<=(x:Int)/\_)
  omega),hit_in (i:=⟨0,-1048576,0,false,⟨0,0,[]⟩⟩) (by
  unfold insP
  show ¬ (_/\_/\_/\(Y:Int) < -1048576+(symOf sy 0).h)
  omega)]
 rfl
theorem outL_ok {rf:Bool} {sy:List Bmp} {W:Int} (hW:0<=W/\W<=1048576) (h:0<sy.length):∀ i∈outL W,InsOk rf sy i:=fun i hi=>by
 unfold outL at hi
 rcases List.mem_cons.1 hi with rfl | hi
 ·exact ⟨⟨Int.le_refl 0,by show (0:Int)<_; omega⟩,⟨by show -1048576<=W; omega,hW.2⟩,by show (-1048576:Int)<=0/\(0:Int)<=1048576; decide,fun _=>⟨rfl,rfl,rfl⟩,fun hh=>by cases hh⟩
 ·rw [List.mem_singleton.1 hi]
  exact ⟨⟨Int.le_refl 0,by show (0:Int)<_; omega⟩,by decide,by decide,fun _=>⟨rfl,rfl,rfl⟩,fun hh=>by cases hh⟩
end Go.Bm
