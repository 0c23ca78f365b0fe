/- The given statement TextDrawsSaid is proved of the given program; there are no further conditions. W8: put together by wip/tools/bundle.py: TyA TyC Mlaw14TextDraws Blaw14TextDraws TyD ArLink2 TyDraws. -/
import Derived.Test.YtbknfejmdekhpaaGreatW1
import Derived.Test.YtbknfejmdekhpaaGreatW2
import Derived.Test.YtbknfejmdekhpaaGreatW3
import Derived.Test.YtbknfejmdekhpaaGreatW4
import Derived.Test.YtbknfejmdekhpaaGreatW5
import Derived.Test.YtbknfejmdekhpaaGreatW6
import Derived.Test.YtbknfejmdekhpaaGreatW7
import Derived.Test.YtbknfejmdekhpaaGreatProg
import Derived.WalkKit
import Derived.ProofKit
import Derived.OpenShut
import Derived.Carry
import Derived.Deep.SlicePairs
import Derived.Lib.SmallJoins
import Derived.Test.YtbknfejmdekhpaaGreatRows
set_option linter.unusedVariables false
set_option linter.unusedSimpArgs false
set_option maxRecDepth 100000
namespace Go.Bm
open Go Go.Den Go.Den.YtbknfejmdekhpaaGreat
theorem wd_inst {h:Heap} {cs:List Value} (H:WDx TP h T_api_Instance cs):∃ o:OwI,cs=o.cs/\o.Vw h:=by
 obtain ⟨hl,hf⟩:=wd_struct Go.Proofs.Tryz.underlying47 H
 have k:TP.cellsOf T_api_Instance=7:=by kernel_rfl
 rw [k] at hl
 obtain ⟨v0,v1,v2,v3,v4,v5,v6,rfl⟩:=list7 hl
 have kb:TP.cellsOf T_api_Bitmap=3:=by kernel_rfl
 have kB:TP.cellsOf T_bool=1:=by kernel_rfl
 obtain ⟨x,e0,_⟩:=wd_int Go.Proofs.Tryz.underlying3 (one_of k_int (hf 0 _ rfl) (v:=v0) rfl)
 obtain ⟨y,e1,_⟩:=wd_int Go.Proofs.Tryz.underlying3 (one_of k_int (hf 1 _ rfl) (v:=v1) rfl)
 obtain ⟨s,e2,_⟩:=wd_int Go.Proofs.Tryz.underlying3 (one_of k_int (hf 2 _ rfl) (v:=v2) rfl)
 obtain ⟨d,e3⟩:=wd_bool Go.Proofs.Tryz.underlying4 (one_of kB (hf 3 _ rfl) (v:=v3) rfl)
 have f4:WDx TP h T_api_Bitmap (([v0,v1,v2,v3,v4,v5,v6].drop 4).take (TP.cellsOf T_api_Bitmap)):=hf 4 _ rfl
 rw [kb] at f4
 obtain ⟨w,b,q1,cap1,ws,e4,_,_,g1,g2,g3⟩:=wd_bitmap f4
 simp only [List.drop_succ_cons,List.drop_zero,List.take_succ_cons,List.take_zero,List.cons.injEq,and_true] at e0 e1 e2 e3 e4
 obtain ⟨e40,e41,e42⟩:=e4
 subst e0 e1 e2 e3 e40 e41 e42
 exact ⟨⟨⟨x,y,s,d,⟨w,b,ws⟩⟩,q1,cap1,[]⟩,rfl,g2,g3,g1⟩
theorem csI_at {O:List OwI} {j:Nat} {v:Value} (h:(csI O)[j]? = some v):∃ o,O[j / 7]? = some o/\o.cs[j % 7]? = some v:=by
 have hj:=(List.getElem?_eq_some_iff.1 h).1
 rw [csI_len] at hj
 obtain ⟨o,ho⟩:∃ o,O[j / 7]? = some o:=⟨_,List.getElem?_eq_getElem (by omega)⟩
 have h2:=csI_get' (j:=j % 7) ho (by omega)
 rw [show j / 7*7+j % 7=j by omega] at h2
 exact ⟨o,ho,h2.symm.trans h⟩
theorem wd_insts {h:Heap} {cs:List Value} (H:WDx TP h T_s_api_Instance cs):∃ q cap,∃ l:List Ins,cs=[.slice q l.length cap]/\InsV h q l/\l.length<=4000000000000:=by
 obtain ⟨q,len,cap,rfl,h1,h2,h3,h4⟩:=wd_slice Go.Proofs.Tryz.underlying24 H
 have k:TP.cellsOf T_api_Instance=7:=by kernel_rfl
 have kb:TP.bytesOf T_api_Instance=72:=by kernel_rfl
 have hrb:reachBytes=140737488351232:=rfl
 rw [k] at h4
 rw [kb] at h2
 obtain ⟨O,e1,e2⟩:=build (P:=fun i (o:OwI)=>∃ a,q=some a/\rdO h (some (a.add (i*7))) 7 o.cs/\o.Vw h) (n:=len) fun i hi=>by
  obtain ⟨a,cs',ha,hr,hd⟩:=h4 i hi
  obtain ⟨o,rfl,hv⟩:=wd_inst hd
  exact ⟨o,a,ha,hr,hv⟩
 subst e1
 refine ⟨q,cap,O.map OwI.i,by rw [List.length_map],⟨O,rfl,?_,fun o ho=>?_⟩,by rw [List.length_map]; omega⟩
 ·rw [List.length_map]
  cases q with
  | none =>
   have:=(h3 rfl).1
   obtain rfl:O=[]:=List.length_eq_zero_iff.1 this
   exact rfl
  | some a =>
   refine ⟨csI_len O,fun j v hj=>?_⟩
   obtain ⟨o,ho,hv⟩:=csI_at hj
   obtain ⟨a',ha,hr,_⟩:=e2 _ o ho
   injection ha with ha
   subst ha
   have:=hr.2 _ v hv
   rw [add_addT,show j / 7*7+j % 7=j by omega] at this
   exact this
 ·obtain ⟨i,hi⟩:=List.mem_iff_getElem?.1 ho
  obtain ⟨_,_,_,hv⟩:=e2 i o hi
  exact hv
theorem wd_text {h:Heap} {cs:List Value} (H:WDx TP h T_api_Text cs):∃ (t:Reg14) (q:Option Addr) (c:Nat) (l:List Ins),cs=t.cs q l.length c/\InsV h q l/\l.length<=4000000000000:=by
 obtain ⟨hl,hf⟩:=wd_struct Go.Proofs.Tryz.underlying26 H
 have k:TP.cellsOf T_api_Text=9:=by kernel_rfl
 rw [k] at hl
 obtain ⟨v0,v1,v2,v3,v4,v5,v6,v7,v8,rfl⟩:∃ a b c d e f g i j,cs=[a,b,c,d,e,f,g,i,j]:=by
  match cs,hl with
  | [a,b,c,d,e,f,g,i,j],_=>exact ⟨a,b,c,d,e,f,g,i,j,rfl⟩
 have kB:TP.cellsOf T_bool=1:=by kernel_rfl
 have kI:TP.cellsOf T_s_api_Instance=1:=by kernel_rfl
 obtain ⟨x,e0,_⟩:=wd_int Go.Proofs.Tryz.underlying3 (one_of k_int (hf 0 _ rfl) (v:=v0) rfl)
 obtain ⟨y,e1,_⟩:=wd_int Go.Proofs.Tryz.underlying3 (one_of k_int (hf 1 _ rfl) (v:=v1) rfl)
 obtain ⟨w,e2,_⟩:=wd_int Go.Proofs.Tryz.underlying3 (one_of k_int (hf 2 _ rfl) (v:=v2) rfl)
 obtain ⟨b,e3,_⟩:=wd_int Go.Proofs.Tryz.underlying3 (one_of k_int (hf 3 _ rfl) (v:=v3) rfl)
 obtain ⟨op,e4,_⟩:=wd_int Go.Proofs.Tryz.underlying3 (one_of k_int (hf 4 _ rfl) (v:=v4) rfl)
 obtain ⟨rf,e5⟩:=wd_bool Go.Proofs.Tryz.underlying4 (one_of kB (hf 5 _ rfl) (v:=v5) rfl)
 obtain ⟨df,e6,_⟩:=wd_int Go.Proofs.Tryz.underlying3 (one_of k_int (hf 6 _ rfl) (v:=v6) rfl)
 obtain ⟨st,e7,_⟩:=wd_int Go.Proofs.Tryz.underlying3 (one_of k_int (hf 7 _ rfl) (v:=v7) rfl)
 obtain ⟨q,c,l,e8,g1,g2⟩:=wd_insts (one_of kI (hf 8 _ rfl) (v:=v8) rfl)
 simp only [List.cons.injEq,and_true] at e0 e1 e2 e3 e4 e5 e6 e7 e8
 subst e0 e1 e2 e3 e4 e5 e6 e7 e8
 exact ⟨⟨x,y,w,b,op,rf,df,st⟩,q,c,l,rfl,g1,g2⟩
theorem wd_ask14 {h:Heap} {cs:List Value} (H:WDx TP h T_burinlaw14_Ask cs):∃ (t:Reg14) (q:Option Addr) (c:Nat) (l:List Ins) (q2:Option Addr) (c2:Nat) (sy:List Bmp),cs=t.cs q l.length c++[.slice q2 sy.length c2]/\InsV h q l/\l.length<=4000000000000/\BmsV h q2 sy/\sy.length<=4000000000000:=by
 obtain ⟨hl,hf⟩:=wd_struct Go.Proofs.Tryz.underlying29 H
 have k:TP.cellsOf T_burinlaw14_Ask=10:=by kernel_rfl
 rw [k] at hl
 obtain ⟨v0,v1,v2,v3,v4,v5,v6,v7,v8,v9,rfl⟩:∃ a b c d e f g i j k,cs=[a,b,c,d,e,f,g,i,j,k]:=by
  match cs,hl with
  | [a,b,c,d,e,f,g,i,j,k],_=>exact ⟨a,b,c,d,e,f,g,i,j,k,rfl⟩
 have kt:TP.cellsOf T_api_Text=9:=by kernel_rfl
 have k1:TP.cellsOf T_s_api_Bitmap=1:=by kernel_rfl
 have f0:WDx TP h T_api_Text (([v0,v1,v2,v3,v4,v5,v6,v7,v8,v9].drop 0).take (TP.cellsOf T_api_Text)):=hf 0 _ rfl
 rw [kt] at f0
 obtain ⟨t,q,c,l,e0,g1,g2⟩:=wd_text f0
 obtain ⟨q2,c2,sy,e9,g3,g4,_⟩:=wd_bms (one_of k1 (hf 1 _ rfl) (v:=v9) rfl)
 simp only [List.drop_zero,List.take_succ_cons,List.take_zero,List.cons.injEq,and_true] at e0 e9
 obtain ⟨e0,e1,e2,e3,e4,e5,e6,e7,e8⟩:=e0
 subst e0 e1 e2 e3 e4 e5 e6 e7 e8 e9
 exact ⟨t,q,c,l,q2,c2,sy,rfl,g1,g2,g3,g4⟩
open Classical in
noncomputable def arS (sy:List Bmp) (l:List Ins):Nat:=(l.map fun i=>if 0<=i.s/\i.s<((sy.length:Nat):Int)/\(symOf sy i.s).may then (symOf sy i.s).w.toNat*(symOf sy i.s).h.toNat else 0).sum
structure Light14 (t:Reg14) (sy:List Bmp) (l:List Ins):Prop where
 n1:l.length<=200
 n2:sy.length<=200
 w1:∀ i∈l,i.b.ws.length<=6000
 w2:∀ b∈sy,b.ws.length<=6000
 ar:arS sy l<=24000
 sz:SizeP t.w t.h->(t.w+64)*t.h<=60000
open Classical in
theorem arS_snoc (sy:List Bmp) (l:List Ins) (i:Ins):arS sy (l++[i])=arS sy l+(if 0<=i.s/\i.s<((sy.length:Nat):Int)/\(symOf sy i.s).may then (symOf sy i.s).w.toNat*(symOf sy i.s).h.toNat else 0):=by
 unfold arS
 rw [List.map_append,List.sum_append]
 simp
theorem sym_get {sy:List Bmp} {s:Int} (h:0<=s/\s<((sy.length:Nat):Int)):sy[s.toNat]? = some (symOf sy s):=by
 obtain ⟨b,hb⟩:∃ b,sy[s.toNat]? = some b:=⟨_,List.getElem?_eq_getElem (by omega)⟩
 unfold symOf
 rw [List.getD_eq_getElem?_getD,hb]
 rfl
section
variable {hB:Heap} {K:VK} {Kp:PK} {t:Reg14} {q q2:Option Addr} {c c2:Nat} {sy:List Bmp} {l:List Ins}
set_option maxHeartbeats 4000000 in
theorem light14_ok (hv:InsV hB q l) (hs:BmsV hB q2 sy) (hl:l.length<=4000000000000) (hsl:sy.length<=4000000000000) (hk:∀ (r:Bool) h',(r=true->Light14 t sy l)->hext hB h'->K (.bool r) h') :
  CP F_burinlaw14_light #[.agg #[.int .i64 t.x, .int .i64 t.y, .int .i64 t.w, .int .i64 t.h, .int .i64 t.op, .bool t.rf, .int .i64 t.df, .int .i64 t.st, .slice q l.length c, .slice q2 sy.length c2]] hB K Kp:=by
 refine call_burinlaw14_light ?_
 unfold burinlaw14_light
 have H:=Hp.nil hB []
 refine newC_hp H fun r11 h H=>?_
 have H:Hp hB [] h [⟨r11,true,T_burinlaw14_Ask,t.cs q l.length c++[.slice q2 sy.length c2]⟩]:=H
 have bad:∀ {h'},hext hB h'->K (.bool false) h':=fun e=>hk false _ (fun hh=>by cases hh) e
 obtain ⟨O,hO,hro,hvw⟩:=hv
 have hOl:O.length=l.length:=by rw [<- hO,List.length_map]
 refine ⟨fun m vs h'=>∃ (i n:Nat),i+m=sy.length/\n<=384000/\(∀ b∈sy.take i,b.ws.length<=6000)/\vs=[.int .i64 (n:Nat), .int .i64 (i:Nat)]/\h'=h,⟨sy.length,0,0,by omega,by omega,(fun b hb=>by cases hb),rfl,rfl⟩,?_⟩
 rintro m h' u xn xi ⟨i,n,him,hn,hws,hxx,rfl⟩
 injection hxx with hx1 hxx
 injection hxx with hx2 hxx
 injection hx1 with _ hx1
 injection hx2 with _ hx2
 subst xn xi
 refine ldS_of (hpA H 0 rfl rfl) ?_
 refine bcase_dec (fun h1=>?_) fun h1=>?_
 ·obtain ⟨b,hb⟩:∃ b,sy[i]? = some b:=⟨_,List.getElem?_eq_getElem (by omega)⟩
  obtain ⟨a,qa,ca,hqa,hc0⟩:=hs i b hb
  have hc:=hc0.ext H.hext
  have hbl:=hc.l1
  refine ldS_of (hpA H 0 rfl rfl) (needs_of (by omega) (ptr_at hqa ?_))
  rw [Int.toNat_natCast]
  refine ldS_of hc.c2 ?_
  refine bindI_of (((64*b.ws.length:Nat):Int)) (by exact i64_at _ _ (by omega) (by omega) (by omega)) ?_
  refine bindI_of (((n+64*b.ws.length:Nat):Int)) (by exact i64_at _ _ (by omega) (by omega) (by omega)) ?_
  refine bindI_of (((n+64*b.ws.length+8:Nat):Int)) (by exact i64_at _ _ (by omega) (by omega) (by omega)) ?_
  refine bcase_dec (fun h2=>bad H.hext) fun h2=>?_
  refine bindI_of (((i+1:Nat):Int)) (by exact i64_at _ _ (by omega) (by omega) (by omega)) ?_
  refine ⟨m-1,by omega,i+1,n+64*b.ws.length+8,by omega,by omega,fun x hx=>?_,rfl,rfl⟩
  rw [take_snocG hb] at hx
  rcases List.mem_append.1 hx with hx | hx
  ·exact hws x hx
  ·rw [List.mem_singleton.1 hx]; omega
 obtain rfl:i=sy.length:=by omega
 rw [List.take_of_length_le (Nat.le_refl _)] at hws
 refine ⟨fun m vs h''=>∃ (i n:Nat),i+m=l.length/\8*i<=n/\n<=384000/\(∀ b∈l.take i,b.b.ws.length<=6000)/\arS sy (l.take i)<=i*1048576/\vs=[.int .i64 (n:Nat), .int .i64 (arS sy (l.take i):Nat), .int .i64 (i:Nat)]/\Hp hB [] h'' [⟨r11,true,T_burinlaw14_Ask,t.cs q l.length c++[.slice q2 sy.length c2]⟩],?_,?_⟩
 ·refine ⟨l.length,0,n,by omega,by omega,by omega,(fun b hb=>by cases hb),Nat.zero_le _,rfl,H⟩
 clear H
 rintro m h u xn xa xi ⟨i,n',him,hn8,hn',hws2,har,hxx,H⟩
 injection hxx with hx1 hxx
 injection hxx with hx2 hxx
 injection hxx with hx3 hxx
 injection hx1 with _ hx1
 injection hx2 with _ hx2
 injection hx3 with _ hx3
 subst xn xa xi
 refine ldS_of (hpB H 0 rfl rfl) ?_
 refine bcase_dec (fun h1=>?_) fun h1=>?_
 ·obtain ⟨o,ho⟩:∃ o,O[i]? = some o:=⟨_,List.getElem?_eq_getElem (by omega)⟩
  have hli:l[i]? = some o.i:=by rw [<- hO,List.getElem?_map,ho]; rfl
  obtain ⟨a,ha,cell⟩:=ins_at (rdO_ext H.hext hro) ho
  have hvo:=hvw o (List.mem_of_getElem? ho)
  have hol:=hvo.l
  have hnd:0<=((i:Nat):Int)/\((i:Nat):Int)<((l.length:Nat):Int):=by omega
  refine ldS_of (hpB H 0 rfl rfl) (needs_of hnd (ptr_eq ha ?_))
  rw [Int.toNat_natCast,add_addT _ 4 2]
  refine ldS_of (cell 6 _ rfl) ?_
  refine bindI_of (((64*o.i.b.ws.length:Nat):Int)) (by exact i64_at _ _ (by omega) (by omega) (by omega)) ?_
  refine bindI_of (((n'+64*o.i.b.ws.length:Nat):Int)) (by exact i64_at _ _ (by omega) (by omega) (by omega)) ?_
  refine bindI_of (((n'+64*o.i.b.ws.length+8:Nat):Int)) (by exact i64_at _ _ (by omega) (by omega) (by omega)) ?_
  refine bcase_dec (fun h2=>bad H.hext) fun h2=>?_
  have hws3:∀ b∈l.take (i+1),b.b.ws.length<=6000:=fun x hx=>by
   rw [take_snocG hli] at hx
   rcases List.mem_append.1 hx with hx | hx
   ·exact hws2 x hx
   ·rw [List.mem_singleton.1 hx]; omega
  have hsn:=arS_snoc sy (l.take i) o.i
  rw [<- take_snocG hli] at hsn
  refine ⟨fun vs h'=>∃ r:Bool,vs=[.bool r]/\(r=true↔0<=o.i.s/\o.i.s<((sy.length:Nat):Int)/\(symOf sy o.i.s).may)/\hext h h',?_,?_⟩
  ·refine ldS_of (hpB H 0 rfl rfl) (needs_of hnd (ptr_eq ha ?_))
   refine ldI_of (cell 2 _ rfl) ?_
   refine bcase_dec (fun h3=>?_) fun h3=>⟨false,rfl,⟨(fun hh=>by cases hh),fun hh=>absurd hh.1 (by omega)⟩,hext.refl _⟩
   refine ldS_of (hpB H 0 rfl rfl) (needs_of hnd (ptr_eq ha ?_))
   refine ldI_of (cell 2 _ rfl) (ldS_of (hpA H 0 rfl rfl) ?_)
   refine bcase_dec (fun h4=>?_) fun h4=>⟨false,rfl,⟨(fun hh=>by cases hh),fun hh=>absurd hh.2.1 (by omega)⟩,hext.refl _⟩
   obtain ⟨a3,q9,c9,ha3,hc0⟩:=hs _ _ (sym_get (sy:=sy) (s:=o.i.s) ⟨by omega,h4⟩)
   have hc:=hc0.ext H.hext
   refine ldS_of (hpA H 0 rfl rfl) (ldS_of (hpB H 0 rfl rfl) (needs_of hnd (ptr_eq ha ?_)))
   refine ldI_of (cell 2 _ rfl) (needs_of (by omega) (ptr_eq ha3 ?_))
   refine ldI_of hc.c0 (ldI_of hc.c1 (ldS_of hc.c2 ?_))
   refine may_ok hc.r1 hc.w1 hc.l1 fun r h' hr e=>⟨_,rfl,r,rfl,⟨fun hh=>⟨by omega,h4,hr.1 hh⟩,fun hh=>hr.2 hh.2.2⟩,e⟩
  rintro h' u xb ⟨r,hxx,hr,e⟩
  injection hxx with hx1 hxx
  injection hx1 with hx1
  subst xb
  have H:=H.ext e
  have cell:∀ j v,o.cs[j]? = some v->hcell h' ((a.add (i*7)).add j)=some v:=fun j v hv=>e.cell (cell j v hv)
  refine bcase_of (fun h3=>?_) fun h3=>?_
  ·have hcond:=hr.1 h3
   rw [if_pos hcond] at hsn
   obtain ⟨W,X,e1,e2,hW1,hW2,hX1,hX2,hWX⟩:=size_nat hcond.2.2.1
   rw [e1,e2,Int.toNat_natCast,Int.toNat_natCast] at hsn
   obtain ⟨a3,q9,c9,ha3,hc0⟩:=hs _ _ (sym_get (sy:=sy) (s:=o.i.s) ⟨hcond.1,hcond.2.1⟩)
   have hc:=hc0.ext H.hext
   have hnd2:0<=o.i.s/\o.i.s<((sy.length:Nat):Int):=⟨hcond.1,hcond.2.1⟩
   refine ldS_of (hpA H 0 rfl rfl) (ldS_of (hpB H 0 rfl rfl) (needs_of hnd (ptr_eq ha ?_)))
   refine ldI_of (cell 2 _ rfl) (needs_of hnd2 (ptr_eq ha3 ?_))
   refine ldI_of hc.c0 ?_
   refine ldS_of (hpA H 0 rfl rfl) (ldS_of (hpB H 0 rfl rfl) (needs_of hnd (ptr_eq ha ?_)))
   refine ldI_of (cell 2 _ rfl) (needs_of hnd2 (ptr_eq ha3 ?_))
   refine ldI_of hc.c1 ?_
   have hmz:(symOf sy o.i.s).w*(symOf sy o.i.s).h=((W*X:Nat):Int):=by rw [e1,e2]; simp
   refine bindI_of (((W*X:Nat):Int)) (by exact i64_at _ _ hmz (by omega) (by omega)) ?_
   refine bindI_of (((arS sy (l.take (i+1)):Nat):Int)) (by (rw [hsn]; exact i64_at _ _ (by omega) (by omega) (by omega))) ?_
   refine bindI_of (((i+1:Nat):Int)) (by exact i64_at _ _ (by omega) (by omega) (by omega)) ?_
   exact ⟨m-1,by omega,i+1,_,by omega,by omega,by omega,hws3,by omega,rfl,H⟩
  ·rw [if_neg (fun hh=>by rw [hr.2 hh] at h3; cases h3)] at hsn
   have hsn:arS sy (l.take (i+1))=arS sy (l.take i):=hsn.trans (Nat.add_zero _)
   rw [<- hsn]
   refine bindI_of (((i+1:Nat):Int)) (by exact i64_at _ _ (by omega) (by omega) (by omega)) ?_
   exact ⟨m-1,by omega,i+1,_,by omega,by omega,by omega,hws3,by omega,rfl,H⟩
 obtain rfl:i=l.length:=by omega
 rw [List.take_of_length_le (Nat.le_refl _)] at hws2 ⊢
 refine bcase_dec (fun h2=>?_) fun h2=>bad H.hext
 refine ldS_of (hpB H 0 rfl rfl) (bcase_dec (fun h3=>?_) fun h3=>bad H.hext)
 refine ldS_of (hpA H 0 rfl rfl) (bcase_dec (fun h4=>?_) fun h4=>bad H.hext)
 refine ldI_of (hpB H 0 rfl rfl) (ldI_of (hpB H 0 rfl rfl) (rsize_ok fun b hb=>⟨_,rfl,?_⟩))
 have key:(SizeP t.w t.h->(t.w+64)*t.h<=60000)->Light14 t sy l:=fun hsz=>⟨by omega,by omega,hws2,hws,by omega,hsz⟩
 refine bcase_not (fun h5=>?_) fun h5=>?_
 ·exact hk true _ (fun _=>key fun hsz=>by rw [hb.2 hsz] at h5; cases h5) H.hext
 ·have hsz:=hb.1 h5
  obtain ⟨W,X,e1,e2,hW1,hW2,hX1,hX2,hWX⟩:=size_nat hsz
  have h64:X*64<=1048576*64:=Nat.mul_le_mul_right _ hX2
  have hmm:(t.w+64)*t.h=(((W+64)*X:Nat):Int):=by rw [e1,e2]; simp
  have hmn:(W+64)*X=W*X+64*X:=Nat.add_mul ..
  refine ldI_of (hpB H 0 rfl rfl) ?_
  refine bindI_of ((t.w+64)) (by exact i64_in _ (by omega) (by omega)) ?_
  refine ldI_of (hpB H 0 rfl rfl) ?_
  refine bindI_of ((((W+64)*X:Nat):Int)) (by exact i64_at _ _ hmm (by omega) (by omega)) ?_
  refine hk _ _ (fun hh=>key fun _=>?_) H.hext
  rw [hmm]
  exact of_decide_eq_true hh
end
end Go.Bm
namespace Go.Bm
open Go Go.Den Go.Den.YtbknfejmdekhpaaGreat
def hitP (sy:List Bmp) (x Y:Nat) (i:Ins):Bool:=getP (srcB sy i).ws (srcB sy i).w.toNat (srcB sy i).h.toNat ((x:Int)-i.x) ((Y:Int)-i.y)
def insP (sy:List Bmp) (x Y:Nat) (i:Ins):Prop:=i.x<=x/\(x:Int)<i.x+(srcB sy i).w/\i.y<=Y/\(Y:Int)<i.y+(srcB sy i).h
instance (sy:List Bmp) (x Y:Nat) (i:Ins):Decidable (insP sy x Y i):=by unfold insP; infer_instance
def lay1 (sy:List Bmp) (op x Y:Nat) (g:Bool) (i:Ins):Bool:=if insP sy x Y i then opB op g (hitP sy x Y i) else g
def cntH (sy:List Bmp) (l:List Ins) (x Y:Nat):Nat:=(l.map fun i=>(hitP sy x Y i).toNat).sum
theorem hit_in {sy:List Bmp} {x Y:Nat} {i:Ins} (h:¬ insP sy x Y i):hitP sy x Y i=false:=by
 unfold hitP getP
 rw [decide_eq_false,Bool.false_and]
 unfold insP at h
 omega
theorem layP_1 {sy:List Bmp} {op W x Y:Nat} {G:Nat->Nat->Bool} {i:Ins} (hm:(srcB sy i).may):layP sy op W G i x Y=if x<W then lay1 sy op x Y (G x Y) i else G x Y:=by
 obtain ⟨w,b,e1,e2,_⟩:=size_nat hm.1
 unfold layP lay1
 by_cases hx:x<W
 ·rw [if_pos hx]
  by_cases hi:insP sy x Y i
  ·have hi':=hi
   unfold insP at hi'
   rw [if_pos hi,if_pos (by omega)]
   unfold hitP getP
   rw [decide_eq_true (by rw [e1,e2,Int.toNat_natCast,Int.toNat_natCast]; omega),Bool.true_and]
  ·rw [if_neg hi,if_neg]
   unfold insP at hi
   omega
 ·rw [if_neg hx,if_neg (by omega)]
theorem draw_pt {sy:List Bmp} {op W x Y:Nat}:∀ (l:List Ins) (G:Nat->Nat->Bool),(∀ i∈l,(srcB sy i).may)->l.foldl (layP sy op W) G x Y=if x<W then l.foldl (lay1 sy op x Y) (G x Y) else G x Y
 | [],G,_=>by
  show G x Y=_
  split <;> rfl
 | i::l,G,h=>by
  have ih:=draw_pt (op:=op) (W:=W) (x:=x) (Y:=Y) l (layP sy op W G i) fun y hy=>h y (List.mem_cons_of_mem _ hy)
  rw [List.foldl_cons,ih,layP_1 (h i (List.mem_cons_self ..))]
  split <;> rfl
theorem drawG_pt {t:Reg14} {sy:List Bmp} {l:List Ins} {x Y:Nat} (h:∀ i∈l,(srcB sy i).may):drawG t sy l x Y=if x<t.w.toNat then l.foldl (lay1 sy t.op.toNat x Y) (decide (t.df=1)) else false:=by
 unfold drawG
 rw [draw_pt l _ h]
 unfold gndP
 by_cases hx:x<t.w.toNat
 ·rw [if_pos hx,if_pos hx]
  simp [hx]
 ·rw [if_neg hx,if_neg hx]
  simp [hx]
theorem drawG_may {t:Reg14} {sy:List Bmp} {l:List Ins} {R:List Nat} (hs:SizeP t.w t.h) (h:∀ i∈l,(srcB sy i).may) (hp:PicP t.w.toNat t.h.toNat (drawG t sy l) R):MayP t.w t.h R:=by
 obtain ⟨W,X,e1,e2,_⟩:=size_nat hs
 rw [e1,e2] at hs ⊢
 rw [e1,e2,Int.toNat_natCast,Int.toNat_natCast] at hp
 refine may_of_pix hs hp.1 hp.2.1 fun y hy x h1 h2=>?_
 rw [hp.2.2 y hy x h2,drawG_pt h,if_neg]
 rw [e1,Int.toNat_natCast]
 omega
theorem pic_get {W X:Nat} {G:Nat->Nat->Bool} {R:List Nat} (h:PicP W X G R) {x y:Nat} (hx:x<W) (hy:y<X):getP R W X (x:Int) (y:Int)=G x y:=by
 unfold getP
 rw [decide_eq_true (by omega),Bool.true_and,Int.toNat_natCast,Int.toNat_natCast]
 exact h.2.2 y hy x (by unfold wds; omega)
theorem lay1_or {sy:List Bmp} {x Y:Nat} (g:Bool) (i:Ins):lay1 sy 0 x Y g i=(g || hitP sy x Y i):=by
 unfold lay1
 split
 ·rfl
 ·rename_i h
  rw [hit_in h,Bool.or_false]
theorem lay1_xor {sy:List Bmp} {x Y:Nat} (g:Bool) (i:Ins):lay1 sy 2 x Y g i=(g != hitP sy x Y i):=by
 unfold lay1
 split
 ·rfl
 ·rename_i h
  rw [hit_in h]
  cases g <;> rfl
theorem cntH_cons (sy:List Bmp) (i:Ins) (l:List Ins) (x Y:Nat):cntH sy (i::l) x Y=(hitP sy x Y i).toNat+cntH sy l x Y:=rfl
theorem cntH_snoc (sy:List Bmp) (l:List Ins) (i:Ins) (x Y:Nat):cntH sy (l++[i]) x Y=cntH sy l x Y+(hitP sy x Y i).toNat:=by
 unfold cntH
 rw [List.map_append,List.sum_append]
 simp
theorem cntH_perm {sy:List Bmp} {a b:List Ins} (h:a.Perm b) (x Y:Nat):cntH sy a x Y=cntH sy b x Y:=(h.map _).sum_nat
theorem fold_or {sy:List Bmp} {x Y:Nat}:∀ (l:List Ins) (g:Bool),l.foldl (lay1 sy 0 x Y) g=decide (0<g.toNat+cntH sy l x Y)
 | [],g=>by cases g <;> rfl
 | i::l,g=>by
  rw [List.foldl_cons,fold_or l,lay1_or,cntH_cons,decide_eq_decide]
  cases g <;> cases hitP sy x Y i <;> simp only [Bool.or_true,Bool.or_false,Bool.toNat_true,Bool.toNat_false] <;> omega
theorem fold_xor {sy:List Bmp} {x Y:Nat}:∀ (l:List Ins) (g:Bool),l.foldl (lay1 sy 2 x Y) g=decide ((g.toNat+cntH sy l x Y) % 2=1)
 | [],g=>by cases g <;> rfl
 | i::l,g=>by
  rw [List.foldl_cons,fold_xor l,lay1_xor,cntH_cons,decide_eq_decide]
  cases g <;> cases hitP sy x Y i <;> simp <;> omega
theorem chkT_like {t t':Reg14} {sy:List Bmp} {l:List Ins} (h:chkT t sy l=0) (hr:RegOk t') (e:t'.rf=t.rf):chkT t' sy l=0:=by
 obtain ⟨hf,h1,h2,h3⟩:=chkT_zero h
 exact chkT_ok ⟨hf.1,hr,fun i hi=>e ▸ hf.2.2 i hi⟩ (by omega)
end Go.Bm
namespace Go.Den.YtbknfejmdekhpaaGreat
open Go Go.Den
def burinlaw14_TextDraws (C:CallP) (p_1:Int) (p_2:Int) (p_3:Int) (p_4:Int) (p_5:Int) (p_6:Bool) (p_7:Int) (p_8:Int) (p_9:Option Addr) (p_9n:Nat) (p_9c:Nat) (p_10:Option Addr) (p_10n:Nat) (p_10c:Nat) (h:Heap) (K:VK) (Kp:PK):Prop :=
newC h [.int .i64 p_1, .int .i64 p_2, .int .i64 p_3, .int .i64 p_4, .int .i64 p_5, .bool p_6, .int .i64 p_7, .int .i64 p_8, .slice p_9 p_9n p_9c, .slice p_10 p_10n p_10c] T_burinlaw14_Ask fun r_11 h_12 =>
ldI h_12 ((⟨r_11,0,none⟩:Addr).add 0) .i64 fun x_13 =>
ldI h_12 ((⟨r_11,0,none⟩:Addr).add 1) .i64 fun x_14 =>
ldI h_12 ((⟨r_11,0,none⟩:Addr).add 2) .i64 fun x_15 =>
ldI h_12 ((⟨r_11,0,none⟩:Addr).add 3) .i64 fun x_16 =>
ldI h_12 ((⟨r_11,0,none⟩:Addr).add 4) .i64 fun x_17 =>
ldB h_12 ((⟨r_11,0,none⟩:Addr).add 5) fun x_18 =>
ldI h_12 ((⟨r_11,0,none⟩:Addr).add 6) .i64 fun x_19 =>
ldI h_12 ((⟨r_11,0,none⟩:Addr).add 7) .i64 fun x_20 =>
ldS h_12 ((⟨r_11,0,none⟩:Addr).add 8) fun x_21 x_21n x_21c =>
ldS h_12 ((⟨r_11,0,none⟩:Addr).add 9) fun x_22 x_22n x_22c =>
C F_burinlaw14_light #[.agg #[.int .i64 x_13, .int .i64 x_14, .int .i64 x_15, .int .i64 x_16, .int .i64 x_17, .bool x_18, .int .i64 x_19, .int .i64 x_20, .slice x_21 x_21n x_21c, .slice x_22 x_22n x_22c]] h_12 (fun v_23 h_24 =>
∃ (r_25:Bool),v_23 = .bool r_25/\(
bcase (!r_25) (
C F_burinlaw14_wakes #[] h_24 (fun v_26 h_27 =>
∃ (r_28:Bool),v_26 = .bool r_28/\(
K (.bool r_28) h_27)) (Kp)) <|
ldI h_24 (((⟨r_11,0,none⟩:Addr).add 0).add 2) .i64 fun x_29 =>
bindI (IntKind.i64.wrap (x_29+(64:Int))) fun z_30 =>
ldI h_24 (((⟨r_11,0,none⟩:Addr).add 0).add 3) .i64 fun x_31 =>
bindI (IntKind.i64.wrap (z_30*x_31)) fun z_32 =>
bcase (decide (z_32 > (6000:Int))) (
C F_burinlaw14_wakes #[] h_24 (fun v_33 h_34 =>
∃ (r_35:Bool),v_33 = .bool r_35/\(
K (.bool r_35) h_34)) (Kp)) <|
ldI h_24 (((⟨r_11,0,none⟩:Addr).add 0).add 0) .i64 fun x_36 =>
ldI h_24 (((⟨r_11,0,none⟩:Addr).add 0).add 1) .i64 fun x_37 =>
ldI h_24 (((⟨r_11,0,none⟩:Addr).add 0).add 2) .i64 fun x_38 =>
ldI h_24 (((⟨r_11,0,none⟩:Addr).add 0).add 3) .i64 fun x_39 =>
ldI h_24 (((⟨r_11,0,none⟩:Addr).add 0).add 4) .i64 fun x_40 =>
ldB h_24 (((⟨r_11,0,none⟩:Addr).add 0).add 5) fun x_41 =>
ldI h_24 (((⟨r_11,0,none⟩:Addr).add 0).add 6) .i64 fun x_42 =>
ldI h_24 (((⟨r_11,0,none⟩:Addr).add 0).add 7) .i64 fun x_43 =>
ldS h_24 (((⟨r_11,0,none⟩:Addr).add 0).add 8) fun x_44 x_44n x_44c =>
ldS h_24 ((⟨r_11,0,none⟩:Addr).add 9) fun x_45 x_45n x_45c =>
C F_burinref14_Bad #[.agg #[.int .i64 x_36, .int .i64 x_37, .int .i64 x_38, .int .i64 x_39, .int .i64 x_40, .bool x_41, .int .i64 x_42, .int .i64 x_43, .slice x_44 x_44n x_44c], .slice x_45 x_45n x_45c] h_24 (fun v_46 h_47 =>
∃ (r_48:Int),v_46 = .int .i64 r_48/\(
bcase (r_48 != (0:Int)) (
C F_burinlaw14_wakes #[] h_47 (fun v_49 h_50 =>
∃ (r_51:Bool),v_49 = .bool r_51/\(
K (.bool r_51) h_50)) (Kp)) <|
ldI h_47 (((⟨r_11,0,none⟩:Addr).add 0).add 0) .i64 fun x_52 =>
ldI h_47 (((⟨r_11,0,none⟩:Addr).add 0).add 1) .i64 fun x_53 =>
ldI h_47 (((⟨r_11,0,none⟩:Addr).add 0).add 2) .i64 fun x_54 =>
ldI h_47 (((⟨r_11,0,none⟩:Addr).add 0).add 3) .i64 fun x_55 =>
ldI h_47 (((⟨r_11,0,none⟩:Addr).add 0).add 4) .i64 fun x_56 =>
ldB h_47 (((⟨r_11,0,none⟩:Addr).add 0).add 5) fun x_57 =>
ldI h_47 (((⟨r_11,0,none⟩:Addr).add 0).add 6) .i64 fun x_58 =>
ldI h_47 (((⟨r_11,0,none⟩:Addr).add 0).add 7) .i64 fun x_59 =>
ldS h_47 (((⟨r_11,0,none⟩:Addr).add 0).add 8) fun x_60 x_60n x_60c =>
C F_burinref0_CopyText #[.agg #[.int .i64 x_52, .int .i64 x_53, .int .i64 x_54, .int .i64 x_55, .int .i64 x_56, .bool x_57, .int .i64 x_58, .int .i64 x_59, .slice x_60 x_60n x_60c]] h_47 (fun v_61 h_62 =>
∃ (r_63:Int) (r_64:Int) (r_65:Int) (r_66:Int) (r_67:Int) (r_68:Bool) (r_69:Int) (r_70:Int) (r_71:Option Addr) (r_71n:Nat) (r_71c:Nat),v_61 = .agg #[.int .i64 r_63, .int .i64 r_64, .int .i64 r_65, .int .i64 r_66, .int .i64 r_67, .bool r_68, .int .i64 r_69, .int .i64 r_70, .slice r_71 r_71n r_71c]/\(
newC h_62 [.int .i64 0, .int .i64 0, .int .i64 0, .int .i64 0, .int .i64 0, .bool false, .int .i64 0, .int .i64 0, .slice none 0 0] T_api_Text fun r_72 h_73 =>
stVs h_73 (⟨r_72,0,none⟩:Addr) 0 [.int .i64 r_63, .int .i64 r_64, .int .i64 r_65, .int .i64 r_66, .int .i64 r_67, .bool r_68, .int .i64 r_69, .int .i64 r_70, .slice r_71 r_71n r_71c] fun h_74 =>
stV h_74 ((⟨r_72,0,none⟩:Addr).add 4) (.int .i64 0) fun h_75 =>
ldI h_75 ((⟨r_72,0,none⟩:Addr).add 0) .i64 fun x_76 =>
ldI h_75 ((⟨r_72,0,none⟩:Addr).add 1) .i64 fun x_77 =>
ldI h_75 ((⟨r_72,0,none⟩:Addr).add 2) .i64 fun x_78 =>
ldI h_75 ((⟨r_72,0,none⟩:Addr).add 3) .i64 fun x_79 =>
ldI h_75 ((⟨r_72,0,none⟩:Addr).add 4) .i64 fun x_80 =>
ldB h_75 ((⟨r_72,0,none⟩:Addr).add 5) fun x_81 =>
ldI h_75 ((⟨r_72,0,none⟩:Addr).add 6) .i64 fun x_82 =>
ldI h_75 ((⟨r_72,0,none⟩:Addr).add 7) .i64 fun x_83 =>
ldS h_75 ((⟨r_72,0,none⟩:Addr).add 8) fun x_84 x_84n x_84c =>
ldS h_75 ((⟨r_11,0,none⟩:Addr).add 9) fun x_85 x_85n x_85c =>
C F_text_Draw #[.agg #[.int .i64 x_76, .int .i64 x_77, .int .i64 x_78, .int .i64 x_79, .int .i64 x_80, .bool x_81, .int .i64 x_82, .int .i64 x_83, .slice x_84 x_84n x_84c], .slice x_85 x_85n x_85c] h_75 (fun v_86 h_87 =>
∃ (r_88:Int) (r_89:Int) (r_90:Option Addr) (r_90n:Nat) (r_90c:Nat),∃ (r_91:Int),v_86 = .tuple #[.agg #[.int .i64 r_88, .int .i64 r_89, .slice r_90 r_90n r_90c], .int .i64 r_91]/\(
newC h_87 [.int .i64 0, .int .i64 0, .slice none 0 0] T_api_Bitmap fun r_92 h_93 =>
stV h_93 ((⟨r_92,0,none⟩:Addr).add 0) (.int .i64 r_88) fun h_94 =>
stV h_94 ((⟨r_92,0,none⟩:Addr).add 1) (.int .i64 r_89) fun h_95 =>
stV h_95 ((⟨r_92,0,none⟩:Addr).add 2) (.slice r_90 r_90n r_90c) fun h_96 =>
stV h_96 ((⟨r_72,0,none⟩:Addr).add 4) (.int .i64 2) fun h_97 =>
ldI h_97 ((⟨r_72,0,none⟩:Addr).add 0) .i64 fun x_98 =>
ldI h_97 ((⟨r_72,0,none⟩:Addr).add 1) .i64 fun x_99 =>
ldI h_97 ((⟨r_72,0,none⟩:Addr).add 2) .i64 fun x_100 =>
ldI h_97 ((⟨r_72,0,none⟩:Addr).add 3) .i64 fun x_101 =>
ldI h_97 ((⟨r_72,0,none⟩:Addr).add 4) .i64 fun x_102 =>
ldB h_97 ((⟨r_72,0,none⟩:Addr).add 5) fun x_103 =>
ldI h_97 ((⟨r_72,0,none⟩:Addr).add 6) .i64 fun x_104 =>
ldI h_97 ((⟨r_72,0,none⟩:Addr).add 7) .i64 fun x_105 =>
ldS h_97 ((⟨r_72,0,none⟩:Addr).add 8) fun x_106 x_106n x_106c =>
ldS h_97 ((⟨r_11,0,none⟩:Addr).add 9) fun x_107 x_107n x_107c =>
C F_text_Draw #[.agg #[.int .i64 x_98, .int .i64 x_99, .int .i64 x_100, .int .i64 x_101, .int .i64 x_102, .bool x_103, .int .i64 x_104, .int .i64 x_105, .slice x_106 x_106n x_106c], .slice x_107 x_107n x_107c] h_97 (fun v_108 h_109 =>
∃ (r_110:Int) (r_111:Int) (r_112:Option Addr) (r_112n:Nat) (r_112c:Nat),∃ (r_113:Int),v_108 = .tuple #[.agg #[.int .i64 r_110, .int .i64 r_111, .slice r_112 r_112n r_112c], .int .i64 r_113]/\(
newC h_109 [.int .i64 0, .int .i64 0, .slice none 0 0] T_api_Bitmap fun r_114 h_115 =>
stV h_115 ((⟨r_114,0,none⟩:Addr).add 0) (.int .i64 r_110) fun h_116 =>
stV h_116 ((⟨r_114,0,none⟩:Addr).add 1) (.int .i64 r_111) fun h_117 =>
stV h_117 ((⟨r_114,0,none⟩:Addr).add 2) (.slice r_112 r_112n r_112c) fun h_118 =>
bcase (r_91 != (0:Int)) (
K (.bool false) h_118) <|
bcase (r_113 != (0:Int)) (
K (.bool false) h_118) <|
ldI h_118 ((⟨r_92,0,none⟩:Addr).add 0) .i64 fun x_119 =>
ldI h_118 ((⟨r_92,0,none⟩:Addr).add 1) .i64 fun x_120 =>
ldS h_118 ((⟨r_92,0,none⟩:Addr).add 2) fun x_121 x_121n x_121c =>
C F_burinref0_May #[.agg #[.int .i64 x_119, .int .i64 x_120, .slice x_121 x_121n x_121c]] h_118 (fun v_122 h_123 =>
∃ (r_124:Bool),v_122 = .bool r_124/\(
bcase (!r_124) (
K (.bool false) h_123) <|
ldI h_123 ((⟨r_114,0,none⟩:Addr).add 0) .i64 fun x_125 =>
ldI h_123 ((⟨r_114,0,none⟩:Addr).add 1) .i64 fun x_126 =>
ldS h_123 ((⟨r_114,0,none⟩:Addr).add 2) fun x_127 x_127n x_127c =>
C F_burinref0_May #[.agg #[.int .i64 x_125, .int .i64 x_126, .slice x_127 x_127n x_127c]] h_123 (fun v_128 h_129 =>
∃ (r_130:Bool),v_128 = .bool r_130/\(
bcase (!r_130) (
K (.bool false) h_129) <|
ldI h_129 ((⟨r_92,0,none⟩:Addr).add 0) .i64 fun x_131 =>
ldI h_129 ((⟨r_72,0,none⟩:Addr).add 2) .i64 fun x_132 =>
bcase (x_131 != x_132) (
K (.bool false) h_129) <|
ldI h_129 ((⟨r_114,0,none⟩:Addr).add 0) .i64 fun x_133 =>
ldI h_129 ((⟨r_72,0,none⟩:Addr).add 2) .i64 fun x_134 =>
bcase (x_133 != x_134) (
K (.bool false) h_129) <|
ldI h_129 ((⟨r_92,0,none⟩:Addr).add 1) .i64 fun x_135 =>
ldI h_129 ((⟨r_72,0,none⟩:Addr).add 3) .i64 fun x_136 =>
bcase (x_135 != x_136) (
K (.bool false) h_129) <|
ldI h_129 ((⟨r_114,0,none⟩:Addr).add 1) .i64 fun x_137 =>
ldI h_129 ((⟨r_72,0,none⟩:Addr).add 3) .i64 fun x_138 =>
bcase (x_137 != x_138) (
K (.bool false) h_129) <|
ldS h_129 ((⟨r_72,0,none⟩:Addr).add 8) fun x_139 x_139n x_139c =>
bcase (decide ((x_139n:Int) > (30:Int))) (
C F_burinlaw14_wakes #[] h_129 (fun v_140 h_141 =>
∃ (r_142:Bool),v_140 = .bool r_142/\(
K (.bool r_142) h_141)) (Kp)) <|
∃ J_143:Nat->List Value->Heap->Prop,(∃ n_145,J_143 n_145 [.int .i64 0] h_129)/\∀ (n_145:Nat) (h_146:Heap) (u_147:Nat->Value) (y_148:Int),J_143 n_145 [.int .i64 y_148] h_146->(
ldI h_146 ((⟨r_72,0,none⟩:Addr).add 3) .i64 fun x_149 =>
bcase (decide (y_148<x_149)) (
∃ J_150:Nat->List Value->Heap->Prop,(∃ n_152,J_150 n_152 [.int .i64 0] h_146)/\∀ (n_152:Nat) (h_153:Heap) (u_154:Nat->Value) (x_155:Int),J_150 n_152 [.int .i64 x_155] h_153->(
ldI h_153 ((⟨r_72,0,none⟩:Addr).add 2) .i64 fun x_156 =>
bcase (decide (x_155<x_156)) (
ldI h_153 ((⟨r_72,0,none⟩:Addr).add 6) .i64 fun x_157 =>
∃ J_158:Nat->List Value->Heap->Prop,(∃ n_160,J_158 n_160 [.int .i64 x_157, .int .i64 0] h_153)/\∀ (n_160:Nat) (h_161:Heap) (u_162:Nat->Value) (n_163:Int) (i_164:Int),J_158 n_160 [.int .i64 n_163, .int .i64 i_164] h_161->(
ldS h_161 ((⟨r_72,0,none⟩:Addr).add 8) fun x_165 x_165n x_165c =>
bcase (decide (i_164<(x_165n:Int))) (
ldS h_161 ((⟨r_11,0,none⟩:Addr).add 9) fun x_166 x_166n x_166c =>
ldS h_161 ((⟨r_72,0,none⟩:Addr).add 8) fun x_167 x_167n x_167c =>
needs (0<=i_164/\i_164<(x_167n:Int)) <|
ptr x_167 fun a_168 =>
ldI h_161 ((a_168.add (i_164.toNat*7)).add 2) .i64 fun x_169 =>
needs (0<=x_169/\x_169<(x_166n:Int)) <|
ptr x_166 fun a_170 =>
ldI h_161 ((a_170.add (x_169.toNat*3)).add 0) .i64 fun x_171 =>
ldI h_161 ((a_170.add (x_169.toNat*3)).add 1) .i64 fun x_172 =>
ldS h_161 ((a_170.add (x_169.toNat*3)).add 2) fun x_173 x_173n x_173c =>
newC h_161 [.int .i64 0, .int .i64 0, .slice none 0 0] T_api_Bitmap fun r_174 h_175 =>
stV h_175 ((⟨r_174,0,none⟩:Addr).add 0) (.int .i64 x_171) fun h_176 =>
stV h_176 ((⟨r_174,0,none⟩:Addr).add 1) (.int .i64 x_172) fun h_177 =>
stV h_177 ((⟨r_174,0,none⟩:Addr).add 2) (.slice x_173 x_173n x_173c) fun h_178 =>
∃ K_179:List Value->Heap->Prop,(
ldS h_178 ((⟨r_72,0,none⟩:Addr).add 8) fun x_182 x_182n x_182c =>
needs (0<=i_164/\i_164<(x_182n:Int)) <|
ptr x_182 fun a_183 =>
ldB h_178 ((a_183.add (i_164.toNat*7)).add 3) fun x_184 =>
bcase x_184 (
ldS h_178 ((⟨r_72,0,none⟩:Addr).add 8) fun x_185 x_185n x_185c =>
needs (0<=i_164/\i_164<(x_185n:Int)) <|
ptr x_185 fun a_186 =>
ldI h_178 (((a_186.add (i_164.toNat*7)).add 4).add 0) .i64 fun x_187 =>
ldI h_178 (((a_186.add (i_164.toNat*7)).add 4).add 1) .i64 fun x_188 =>
ldS h_178 (((a_186.add (i_164.toNat*7)).add 4).add 2) fun x_189 x_189n x_189c =>
stV h_178 ((⟨r_174,0,none⟩:Addr).add 0) (.int .i64 x_187) fun h_190 =>
stV h_190 ((⟨r_174,0,none⟩:Addr).add 1) (.int .i64 x_188) fun h_191 =>
stV h_191 ((⟨r_174,0,none⟩:Addr).add 2) (.slice x_189 x_189n x_189c) fun h_192 =>
K_179 [] h_192) <|
K_179 [] h_178)/\∀ (h_180:Heap) (u_181:Nat->Value) ,K_179 [] h_180->(
ldI h_180 ((⟨r_174,0,none⟩:Addr).add 0) .i64 fun x_193 =>
ldI h_180 ((⟨r_174,0,none⟩:Addr).add 1) .i64 fun x_194 =>
ldS h_180 ((⟨r_174,0,none⟩:Addr).add 2) fun x_195 x_195n x_195c =>
ldS h_180 ((⟨r_72,0,none⟩:Addr).add 8) fun x_196 x_196n x_196c =>
needs (0<=i_164/\i_164<(x_196n:Int)) <|
ptr x_196 fun a_197 =>
ldI h_180 ((a_197.add (i_164.toNat*7)).add 0) .i64 fun x_198 =>
bindI (IntKind.i64.wrap (x_155-x_198)) fun z_199 =>
ldS h_180 ((⟨r_72,0,none⟩:Addr).add 8) fun x_200 x_200n x_200c =>
needs (0<=i_164/\i_164<(x_200n:Int)) <|
ptr x_200 fun a_201 =>
ldI h_180 ((a_201.add (i_164.toNat*7)).add 1) .i64 fun x_202 =>
bindI (IntKind.i64.wrap (y_148-x_202)) fun z_203 =>
C F_burinref0_Get #[.agg #[.int .i64 x_193, .int .i64 x_194, .slice x_195 x_195n x_195c], .int .i64 z_199, .int .i64 z_203] h_180 (fun v_204 h_205 =>
∃ (r_206:Int),v_204 = .int .i64 r_206/\(
bindI (IntKind.i64.wrap (n_163+r_206)) fun z_207 =>
bindI (IntKind.i64.wrap (i_164+(1:Int))) fun z_208 =>
∃ m_159,m_159<n_160/\J_158 m_159 [.int .i64 z_207, .int .i64 z_208] h_205)) (Kp))) <|
ldI h_161 ((⟨r_92,0,none⟩:Addr).add 0) .i64 fun x_209 =>
ldI h_161 ((⟨r_92,0,none⟩:Addr).add 1) .i64 fun x_210 =>
ldS h_161 ((⟨r_92,0,none⟩:Addr).add 2) fun x_211 x_211n x_211c =>
C F_burinref0_Get #[.agg #[.int .i64 x_209, .int .i64 x_210, .slice x_211 x_211n x_211c], .int .i64 x_155, .int .i64 y_148] h_161 (fun v_212 h_213 =>
∃ (r_214:Int),v_212 = .int .i64 r_214/\(
bcase (!((r_214 == (1:Int)) == (decide (n_163 > (0:Int))))) (
K (.bool false) h_213) <|
ldI h_213 ((⟨r_114,0,none⟩:Addr).add 0) .i64 fun x_215 =>
ldI h_213 ((⟨r_114,0,none⟩:Addr).add 1) .i64 fun x_216 =>
ldS h_213 ((⟨r_114,0,none⟩:Addr).add 2) fun x_217 x_217n x_217c =>
C F_burinref0_Get #[.agg #[.int .i64 x_215, .int .i64 x_216, .slice x_217 x_217n x_217c], .int .i64 x_155, .int .i64 y_148] h_213 (fun v_218 h_219 =>
∃ (r_220:Int),v_218 = .int .i64 r_220/\(
bindI (n_163.tmod (2:Int)) fun z_221 =>
bcase (r_220 != z_221) (
K (.bool false) h_219) <|
bindI (IntKind.i64.wrap (x_155+(1:Int))) fun z_222 =>
∃ m_151,m_151<n_152/\J_150 m_151 [.int .i64 z_222] h_219)) (Kp))) (Kp))) <|
bindI (IntKind.i64.wrap (y_148+(1:Int))) fun z_223 =>
∃ m_144,m_144<n_145/\J_143 m_144 [.int .i64 z_223] h_153)) <|
C F_burinlaw14_wakes #[] h_146 (fun v_224 h_225 =>
∃ (r_226:Bool),v_224 = .bool r_226/\(
K (.bool r_226) h_225)) (Kp)))) (Kp))) (Kp))) (Kp))) (Kp))) (Kp))) (Kp))) (Kp)
end Go.Den.YtbknfejmdekhpaaGreat
namespace Go.Den.YtbknfejmdekhpaaGreat
open Go Go.Den
theorem call_burinlaw14_TextDraws {p_1:Int} {p_2:Int} {p_3:Int} {p_4:Int} {p_5:Int} {p_6:Bool} {p_7:Int} {p_8:Int} {p_9:Option Addr} {p_9n:Nat} {p_9c:Nat} {p_10:Option Addr} {p_10n:Nat} {p_10c:Nat} {h:Heap} {K:VK} {Kp:PK} (H:burinlaw14_TextDraws (CallsHP Go.Proofs.Tryz.prog) p_1 p_2 p_3 p_4 p_5 p_6 p_7 p_8 p_9 p_9n p_9c p_10 p_10n p_10c h K Kp):CallsHP Go.Proofs.Tryz.prog F_burinlaw14_TextDraws #[.agg #[.int .i64 p_1, .int .i64 p_2, .int .i64 p_3, .int .i64 p_4, .int .i64 p_5, .bool p_6, .int .i64 p_7, .int .i64 p_8, .slice p_9 p_9n p_9c, .slice p_10 p_10n p_10c]] h K Kp :=
 callsHP_ofE (Hints.mk (fun i=>bif Nat.beq i 22 then some ([11], .take 0 <| .take 2 <| .take 4 <| .take 1 <| .take 3 <| .take 5 <| .take 6 <| .take 7 <| .take 8 <| .take 9 <| .go 10 <| .bar 11 [] <| .done) else (bif Nat.beq i 25 then some ([18], .take 0 <| .take 2 <| .take 3 <| .take 5 <| .take 10 <| .take 11 <| .take 13 <| .take 1 <| .take 4 <| .take 6 <| .take 7 <| .take 8 <| .take 9 <| .take 12 <| .take 14 <| .take 15 <| .take 16 <| .take 17 <| .bar 18 [] <| .take 19 <| .take 20 <| .done) else (none))) (fun i=>bif Nat.beq i 13 then some ([(8, .int .i64)],24519928653854221733733532151995343286229402007686356740) else (bif Nat.beq i 16 then some ([(9, .int .i64)],24519928653854221733732254360190313230992693330855337476) else (bif Nat.beq i 20 then some ([(10, .int .i64),(11, .int .i64)],187072209578355241223072712358716000564194295421952) else (none)))) (fun i=>bif Nat.beq i 25 then some ([],178362405445279105008962434231435625716776960) else (none)) []) (by kernel_rfl) Go.Proofs.Tryz.func7 (by kernel_rfl) (fun C=>burinlaw14_TextDraws C p_1 p_2 p_3 p_4 p_5 p_6 p_7 p_8 p_9 p_9n p_9c p_10 p_10n p_10c h K Kp) (fun C=>by kernel_rfl) H
end Go.Den.YtbknfejmdekhpaaGreat
namespace Go.Bm
open Go Go.Den Go.Den.YtbknfejmdekhpaaGreat
section
variable {hB:Heap} {K:VK} {Kp:PK}
theorem getB_ok {b:Bmp} {q:Option Addr} {c:Nat} (hr:rdO hB q (b.ws.length*1) (u64s b.ws)) (hw:W64 b.ws) (hm:b.may) {x y:Int} (hk:∀ h,hext hB h->K (.int .i64 ((getP b.ws b.w.toNat b.h.toNat x y).toNat:Nat)) h) :
  CP F_burinref0_Get #[.agg #[.int .i64 b.w, .int .i64 b.h, .slice q b.ws.length c], .int .i64 x, .int .i64 y] hB K Kp:=by
 obtain ⟨bw,bh,ws⟩:=b
 obtain ⟨W,X,e1,e2,_⟩:=size_nat hm.1
 have e1:bw=(W:Int):=e1
 have e2:bh=(X:Int):=e2
 subst e1 e2
 refine get_ok hr hw hm.1 (may_len hm) fun h e=>?_
 exact hk h e
set_option maxHeartbeats 8000000 in
theorem tDraws_law {t:Reg14} {q q2:Option Addr} {c c2:Nat} {l:List Ins} {sy:List Bmp} (hv:InsV hB q l) (hl:l.length<=4000000000000) (hs:BmsV hB q2 sy) (hsl:sy.length<=4000000000000) (hk:∀ h',hext hB h'->K (.bool true) h') :
  CP F_burinlaw14_TextDraws #[.agg #[.int .i64 t.x, .int .i64 t.y, .int .i64 t.w, .int .i64 t.h, .int .i64 t.op, .bool t.rf, .int .i64 t.df, .int .i64 t.st, .slice q l.length c, .slice q2 sy.length c2]] hB K Kp:=by
 refine call_burinlaw14_TextDraws ?_
 unfold burinlaw14_TextDraws
 have H:=Hp.nil hB []
 refine newC_hp H fun r11 h H=>?_
 have H:Hp hB [] h [⟨r11,true,T_burinlaw14_Ask,t.cs q l.length c++[.slice q2 sy.length c2]⟩]:=H
 have wk:∀ {h},hext hB h->CP F_burinlaw14_wakes #[] h (fun v_26 h_27=>∃ (r_28:Bool),v_26 = .bool r_28/\(K (.bool r_28) h_27)) (Kp):=fun e=>wakes14_ok fun h' e'=>⟨_,rfl,hk _ (e.trans e')⟩
 repeat first | with_reducible refine ldI_of (by with_unfolding_all first | exact hpA H 0 rfl rfl | exact Hp.cell H 0 rfl rfl | exact hpB H 0 rfl rfl | exact hpC H 0 rfl rfl) ?_ | with_reducible refine ldS_of (by with_unfolding_all first | exact hpA H 0 rfl rfl | exact Hp.cell H 0 rfl rfl | exact hpB H 0 rfl rfl | exact hpC H 0 rfl rfl) ?_ | with_reducible refine ldP_of (by with_unfolding_all first | exact hpA H 0 rfl rfl | exact Hp.cell H 0 rfl rfl | exact hpB H 0 rfl rfl | exact hpC H 0 rfl rfl) ?_ | with_reducible refine ldB_of (by with_unfolding_all first | exact hpA H 0 rfl rfl | exact Hp.cell H 0 rfl rfl | exact hpB H 0 rfl rfl | exact hpC H 0 rfl rfl) ?_ | with_reducible refine ldT_of (by with_unfolding_all first | exact hpA H 0 rfl rfl | exact Hp.cell H 0 rfl rfl | exact hpB H 0 rfl rfl | exact hpC H 0 rfl rfl) ?_
 refine light14_ok (t:=t) (hv.ext H.hext) (hs.ext H.hext) hl hsl fun r h' hr e=>⟨_,rfl,?_⟩
 have H:=H.ext e
 clear e
 refine bcase_not (fun _=>wk H.hext) fun h1=>?_
 have hlt:=hr h1
 clear h1 hr
 have hn1:=hlt.n1
 have hn2:=hlt.n2
 refine ldI_of (hpB H 0 rfl rfl) (bindI_of _ rfl (ldI_of (hpB H 0 rfl rfl) (bindI_of _ rfl ?_)))
 refine bcase_dec (fun _=>wk H.hext) fun _=>?_
 repeat first | with_reducible refine ldI_of (by with_unfolding_all first | exact hpA H 0 rfl rfl | exact Hp.cell H 0 rfl rfl | exact hpB H 0 rfl rfl | exact hpC H 0 rfl rfl) ?_ | with_reducible refine ldS_of (by with_unfolding_all first | exact hpA H 0 rfl rfl | exact Hp.cell H 0 rfl rfl | exact hpB H 0 rfl rfl | exact hpC H 0 rfl rfl) ?_ | with_reducible refine ldP_of (by with_unfolding_all first | exact hpA H 0 rfl rfl | exact Hp.cell H 0 rfl rfl | exact hpB H 0 rfl rfl | exact hpC H 0 rfl rfl) ?_ | with_reducible refine ldB_of (by with_unfolding_all first | exact hpA H 0 rfl rfl | exact Hp.cell H 0 rfl rfl | exact hpB H 0 rfl rfl | exact hpC H 0 rfl rfl) ?_ | with_reducible refine ldT_of (by with_unfolding_all first | exact hpA H 0 rfl rfl | exact Hp.cell H 0 rfl rfl | exact hpB H 0 rfl rfl | exact hpC H 0 rfl rfl) ?_
 refine bad14_ok (t:=t) (hv.ext H.hext) (hs.ext H.hext) (by omega) (by omega) fun h' e=>⟨_,rfl,?_⟩
 have H:=H.ext e
 clear e
 refine bcase_ne (fun _=>wk H.hext) fun hck=>?_
 have hf:=(chkT_zero hck).1
 repeat first | with_reducible refine ldI_of (by with_unfolding_all first | exact hpA H 0 rfl rfl | exact Hp.cell H 0 rfl rfl | exact hpB H 0 rfl rfl | exact hpC H 0 rfl rfl) ?_ | with_reducible refine ldS_of (by with_unfolding_all first | exact hpA H 0 rfl rfl | exact Hp.cell H 0 rfl rfl | exact hpB H 0 rfl rfl | exact hpC H 0 rfl rfl) ?_ | with_reducible refine ldP_of (by with_unfolding_all first | exact hpA H 0 rfl rfl | exact Hp.cell H 0 rfl rfl | exact hpB H 0 rfl rfl | exact hpC H 0 rfl rfl) ?_ | with_reducible refine ldB_of (by with_unfolding_all first | exact hpA H 0 rfl rfl | exact Hp.cell H 0 rfl rfl | exact hpB H 0 rfl rfl | exact hpC H 0 rfl rfl) ?_ | with_reducible refine ldT_of (by with_unfolding_all first | exact hpA H 0 rfl rfl | exact Hp.cell H 0 rfl rfl | exact hpB H 0 rfl rfl | exact hpC H 0 rfl rfl) ?_
 refine cpText_ok (t:=t) (hv.ext H.hext) (by omega) (fun i hi=>Nat.le_trans (hlt.w1 i hi) (by decide)) fun R q' c' h' hL H'=>?_
 have H:=H.join H' hL.w
 clear H'
 refine ⟨_,_,_,_,_,_,_,_,_,_,_,rfl,?_⟩
 refine newC_hp H fun r72 h H=>?_
 have H:=H.rot
 refine stVsA H 0 rfl rfl rfl fun h H=>?_
 refine stA H 0 rfl rfl rfl fun h H=>?_
 obtain ⟨tO,htO⟩:∃ tO:Reg14,tO = { t with op:=0 }:=⟨_,rfl⟩
 obtain ⟨tX,htX⟩:∃ tX:Reg14,tX = { t with op:=2 }:=⟨_,rfl⟩
 have H:Hp hB [] h (⟨r72,true,T_api_Text,tO.cs q' l.length c'⟩::⟨r11,true,T_burinlaw14_Ask,t.cs q l.length c++[.slice q2 sy.length c2]⟩::R):=by rw [htO]; exact H
 have hreg:=hf.2.1
 have hcO:chkT tO sy l=0:=chkT_like hck (by rw [htO]; exact ⟨hreg.1,hreg.2.1,hreg.2.2.1,⟨Int.le_refl 0,by show (0:Int)<=4; decide⟩,hreg.2.2.2.2.1,hreg.2.2.2.2.2⟩) (by rw [htO])
 have hcX:chkT tX sy l=0:=chkT_like hck (by rw [htX]; exact ⟨hreg.1,hreg.2.1,hreg.2.2.1,⟨by show (0:Int)<=2; decide,by show (2:Int)<=4; decide⟩,hreg.2.2.2.2.1,hreg.2.2.2.2.2⟩) (by rw [htX])
 have hsrc:∀ i∈l,(srcB sy i).may:=fun i hi=>(hf.2.2 i hi).src hf.1
 have hsrcS:∀ i∈srtI t.st.toNat l,(srcB sy i).may:=fun i hi=>hsrc i (srtI_mem.1 hi)
 repeat first | with_reducible refine ldI_of (by with_unfolding_all first | exact hpA H 0 rfl rfl | exact Hp.cell H 0 rfl rfl | exact hpB H 0 rfl rfl | exact hpC H 0 rfl rfl) ?_ | with_reducible refine ldS_of (by with_unfolding_all first | exact hpA H 0 rfl rfl | exact Hp.cell H 0 rfl rfl | exact hpB H 0 rfl rfl | exact hpC H 0 rfl rfl) ?_ | with_reducible refine ldP_of (by with_unfolding_all first | exact hpA H 0 rfl rfl | exact Hp.cell H 0 rfl rfl | exact hpB H 0 rfl rfl | exact hpC H 0 rfl rfl) ?_ | with_reducible refine ldB_of (by with_unfolding_all first | exact hpA H 0 rfl rfl | exact Hp.cell H 0 rfl rfl | exact hpB H 0 rfl rfl | exact hpC H 0 rfl rfl) ?_ | with_reducible refine ldT_of (by with_unfolding_all first | exact hpA H 0 rfl rfl | exact Hp.cell H 0 rfl rfl | exact hpB H 0 rfl rfl | exact hpC H 0 rfl rfl) ?_
 refine ldS_of (hpA H 1 rfl rfl) ?_
 refine tDraw_ok (t:=tO) (hL.view H fun e he=>List.mem_cons_of_mem _ (List.mem_cons_of_mem _ he)) (hs.ext H.hext) (by omega) (by omega) (fun h' hn _=>absurd hcO hn) fun RO DO qO cO h' _ hpO hsO H'=>?_
 have H:=H.join H' hsO.w
 clear H'
 refine ⟨_,_,_,_,_,_,rfl,?_⟩
 refine newC_hp H fun r92 h H=>?_
 have H:=H.rot
 refine stA H 0 rfl rfl rfl fun h H=>?_
 refine stA H 0 rfl rfl rfl fun h H=>?_
 refine stA H 0 rfl rfl rfl fun h H=>?_
 refine stA H 1 rfl rfl rfl fun h H=>?_
 have H:Hp hB [] h (⟨r92,true,T_api_Bitmap,[.int .i64 tO.w, .int .i64 tO.h, .slice qO RO.length cO]⟩::⟨r72,true,T_api_Text,tX.cs q' l.length c'⟩::⟨r11,true,T_burinlaw14_Ask,t.cs q l.length c++[.slice q2 sy.length c2]⟩::(R++DO)):=by rw [htX]; rw [htO] at H ⊢; exact H
 repeat first | with_reducible refine ldI_of (by with_unfolding_all first | exact hpA H 1 rfl rfl | exact Hp.cell H 1 rfl rfl | exact hpB H 1 rfl rfl | exact hpC H 1 rfl rfl) ?_ | with_reducible refine ldS_of (by with_unfolding_all first | exact hpA H 1 rfl rfl | exact Hp.cell H 1 rfl rfl | exact hpB H 1 rfl rfl | exact hpC H 1 rfl rfl) ?_ | with_reducible refine ldP_of (by with_unfolding_all first | exact hpA H 1 rfl rfl | exact Hp.cell H 1 rfl rfl | exact hpB H 1 rfl rfl | exact hpC H 1 rfl rfl) ?_ | with_reducible refine ldB_of (by with_unfolding_all first | exact hpA H 1 rfl rfl | exact Hp.cell H 1 rfl rfl | exact hpB H 1 rfl rfl | exact hpC H 1 rfl rfl) ?_ | with_reducible refine ldT_of (by with_unfolding_all first | exact hpA H 1 rfl rfl | exact Hp.cell H 1 rfl rfl | exact hpB H 1 rfl rfl | exact hpC H 1 rfl rfl) ?_
 refine ldS_of (hpA H 2 rfl rfl) ?_
 refine tDraw_ok (t:=tX) (hL.view H fun e he=>by simp [he]) (hs.ext H.hext) (by omega) (by omega) (fun h' hn _=>absurd hcX hn) fun RX DX qX cX h' _ hpX hsX H'=>?_
 have H:=H.join H' hsX.w
 clear H'
 refine ⟨_,_,_,_,_,_,rfl,?_⟩
 refine newC_hp H fun r114 h H=>?_
 have H:=H.rot
 refine stA H 0 rfl rfl rfl fun h H=>?_
 refine stA H 0 rfl rfl rfl fun h H=>?_
 refine stA H 0 rfl rfl rfl fun h H=>?_
 obtain ⟨W,XX,e1,e2,hW1,hW2,hX1,hX2,hWX⟩:=size_nat hreg.1
 have eO:tO.w=(W:Nat)/\tO.h=(XX:Nat)/\tO.st=t.st/\tO.df=t.df/\tO.op=0:=by rw [htO]; exact ⟨e1,e2,rfl,rfl,rfl⟩
 have eX:tX.w=(W:Nat)/\tX.h=(XX:Nat)/\tX.st=t.st/\tX.df=t.df/\tX.op=2:=by rw [htX]; exact ⟨e1,e2,rfl,rfl,rfl⟩
 obtain ⟨bO,hbO⟩:∃ bO:Bmp,bO=⟨(W:Nat),(XX:Nat),RO⟩:=⟨_,rfl⟩
 obtain ⟨bX,hbX⟩:∃ bX:Bmp,bX=⟨(W:Nat),(XX:Nat),RX⟩:=⟨_,rfl⟩
 have hsz2:SizeP ((W:Nat):Int) ((XX:Nat):Int):=by rw [<- e1,<- e2]; exact hreg.1
 have hmO:bO.may:=by
  have:=drawG_may (t:=tO) (by rw [eO.1,eO.2.1]; exact hsz2) (by rw [eO.2.2.1]; exact hsrcS) hpO
  rw [eO.1,eO.2.1] at this
  rw [hbO]
  exact this
 have hmX:bX.may:=by
  have:=drawG_may (t:=tX) (by rw [eX.1,eX.2.1]; exact hsz2) (by rw [eX.2.2.1]; exact hsrcS) hpX
  rw [eX.1,eX.2.1] at this
  rw [hbX]
  exact this
 rw [eO.1,eO.2.1,Int.toNat_natCast,Int.toNat_natCast,eO.2.2.1] at hpO
 rw [eX.1,eX.2.1,Int.toNat_natCast,Int.toNat_natCast,eX.2.2.1] at hpX
 have hwO:W64 bO.ws:=by rw [hbO]; exact hpO.2.1
 have hwX:W64 bX.ws:=by rw [hbX]; exact hpX.2.1
 have hhw:=hw_le hW1 hWX
 have hlO:bO.ws.length<140737488351300:=by rw [hbO]; have:=hpO.1; show RO.length<_; omega
 have hlX:bX.ws.length<140737488351300:=by rw [hbX]; have:=hpX.1; show RX.length<_; omega
 obtain ⟨V,hV⟩:∃ V,V=R++DO++DX:=⟨_,rfl⟩
 have H:Hp hB [] h (⟨r114,true,T_api_Bitmap,[.int .i64 bX.w, .int .i64 bX.h, .slice qX bX.ws.length cX]⟩::⟨r92,true,T_api_Bitmap,[.int .i64 bO.w, .int .i64 bO.h, .slice qO bO.ws.length cO]⟩::⟨r72,true,T_api_Text,tX.cs q' l.length c'⟩::⟨r11,true,T_burinlaw14_Ask,t.cs q l.length c++[.slice q2 sy.length c2]⟩::V):=by
  rw [hbO,hbX,hV,<- eO.1,<- eO.2.1]
  rw [show tO.w=tX.w by rw [eO.1,eX.1],show tO.h=tX.h by rw [eO.2.1,eX.2.1]] at H ⊢
  exact H
 have rdO':∀ {h A},Hp hB [] h (A++V)->rdO h qO (bO.ws.length*1) (u64s bO.ws):=fun H=>by
  rw [hbO]
  exact Slot.rdO' hsO H fun e he=>by rw [hV]; simp [he]
 have rdX':∀ {h A},Hp hB [] h (A++V)->rdO h qX (bX.ws.length*1) (u64s bX.ws):=fun H=>by
  rw [hbX]
  exact Slot.rdO' hsX H fun e he=>by rw [hV]; simp [he]
 obtain ⟨O,E,ho1,hO,hslO,hRd⟩:=hL
 have hOl:O.length=l.length:=by rw [<- hO,List.length_map]
 have rdL:∀ {h A},Hp hB [] h (A++V)->rdO h q' (l.length*7) (csI O):=fun H=>Slot.rdO' hslO H fun e he=>by rw [hV,hRd]; simp [he]
 have vwO:∀ {o:OwI} {h A},o∈O->Hp hB [] h (A++V)->o.Vw h:=fun {o h A} ho H=>⟨Slot.rdO' (ho1 o ho).s H fun e he=>by rw [hV,hRd]; simp [dsI_mem ho e he],(ho1 o ho).w,(ho1 o ho).l⟩
 refine bcase_ne (fun hh=>absurd rfl hh) fun _=>?_
 refine bcase_ne (fun hh=>absurd rfl hh) fun _=>?_
 refine ldI_of (hpA H 1 rfl rfl) (ldI_of (hpA H 1 rfl rfl) (ldS_of (hpA H 1 rfl rfl) ?_))
 refine may_ok (rdO' (A:=[_,_,_,_]) H) hwO hlO fun r h' hr e=>⟨_,rfl,?_⟩
 have H:=H.ext e
 clear e
 refine bcase_not (fun hh=>by rw [hr.2 hmO] at hh; cases hh) fun _=>?_
 refine ldI_of (hpA H 0 rfl rfl) (ldI_of (hpA H 0 rfl rfl) (ldS_of (hpA H 0 rfl rfl) ?_))
 refine may_ok (rdX' (A:=[_,_,_,_]) H) hwX hlX fun r h' hr e=>⟨_,rfl,?_⟩
 have H:=H.ext e
 clear e
 refine bcase_not (fun hh=>by rw [hr.2 hmX] at hh; cases hh) fun _=>?_
 have ebO:bO.w=(W:Nat)/\bO.h=(XX:Nat):=by rw [hbO]; exact ⟨rfl,rfl⟩
 have ebX:bX.w=(W:Nat)/\bX.h=(XX:Nat):=by rw [hbX]; exact ⟨rfl,rfl⟩
 refine ldI_of (hpA H 1 rfl rfl) (ldI_of (hpA H 2 rfl rfl) (bcase_ne (fun hh=>absurd (by rw [ebO.1,eX.1]) hh) fun _=>?_))
 refine ldI_of (hpA H 0 rfl rfl) (ldI_of (hpA H 2 rfl rfl) (bcase_ne (fun hh=>absurd (by rw [ebX.1,eX.1]) hh) fun _=>?_))
 refine ldI_of (hpA H 1 rfl rfl) (ldI_of (hpA H 2 rfl rfl) (bcase_ne (fun hh=>absurd (by rw [ebO.2,eX.2.1]) hh) fun _=>?_))
 refine ldI_of (hpA H 0 rfl rfl) (ldI_of (hpA H 2 rfl rfl) (bcase_ne (fun hh=>absurd (by rw [ebX.2,eX.2.1]) hh) fun _=>?_))
 refine ldS_of (hpA H 2 rfl rfl) (bcase_dec (fun _=>wk H.hext) fun hn30=>?_)
 refine ⟨fun m vs h'=>∃ y:Nat,y+m=XX/\vs=[.int .i64 (y:Nat)]/\Hp hB [] h' (⟨r114,true,T_api_Bitmap,[.int .i64 bX.w, .int .i64 bX.h, .slice qX bX.ws.length cX]⟩::⟨r92,true,T_api_Bitmap,[.int .i64 bO.w, .int .i64 bO.h, .slice qO bO.ws.length cO]⟩::⟨r72,true,T_api_Text,tX.cs q' l.length c'⟩::⟨r11,true,T_burinlaw14_Ask,t.cs q l.length c++[.slice q2 sy.length c2]⟩::V),⟨XX,0,by omega,rfl,H⟩,?_⟩
 clear H
 rintro m h u xy ⟨y,hym,hxx,H⟩
 injection hxx with hx1 hxx
 injection hx1 with _ hx1
 subst xy
 refine ldI_of (hpA H 2 rfl rfl) ?_
 rw [eX.2.1]
 refine bcase_dec (fun hy=>?_) fun hy=>wk H.hext
 refine ⟨fun m2 vs h'=>∃ x:Nat,x+m2=W/\vs=[.int .i64 (x:Nat)]/\Hp hB [] h' (⟨r114,true,T_api_Bitmap,[.int .i64 bX.w, .int .i64 bX.h, .slice qX bX.ws.length cX]⟩::⟨r92,true,T_api_Bitmap,[.int .i64 bO.w, .int .i64 bO.h, .slice qO bO.ws.length cO]⟩::⟨r72,true,T_api_Text,tX.cs q' l.length c'⟩::⟨r11,true,T_burinlaw14_Ask,t.cs q l.length c++[.slice q2 sy.length c2]⟩::V),⟨W,0,by omega,rfl,H⟩,?_⟩
 clear H
 rintro m2 h u xx ⟨x,hxm,hxx,H⟩
 injection hxx with hx1 hxx
 injection hx1 with _ hx1
 subst xx
 refine ldI_of (hpA H 2 rfl rfl) ?_
 rw [eX.1]
 refine bcase_dec (fun hx=>?_) fun hx=>?_
 rotate_left
 ·refine bindI_of (((y+1:Nat):Int)) (by exact i64_at _ _ (by omega) (by omega) (by omega)) ?_
  exact ⟨m-1,by omega,y+1,by omega,rfl,H⟩
 refine ldI_of (hpA H 2 rfl rfl) ?_
 rw [eX.2.2.2.1]
 obtain ⟨DF,hDF⟩:∃ DF:Nat,t.df=(DF:Int):=⟨t.df.toNat,by have:=hreg.2.2.2.2.1; omega⟩
 have hDF1:DF<=1:=by have:=hreg.2.2.2.2.1; omega
 rw [hDF]
 refine ⟨fun m3 vs h'=>∃ (k:Nat),k+m3=l.length/\vs=[.int .i64 ((DF+cntH sy (l.take k) x y:Nat):Int), .int .i64 (k:Nat)]/\cntH sy (l.take k) x y<=k/\Hp hB [] h' (⟨r114,true,T_api_Bitmap,[.int .i64 bX.w, .int .i64 bX.h, .slice qX bX.ws.length cX]⟩::⟨r92,true,T_api_Bitmap,[.int .i64 bO.w, .int .i64 bO.h, .slice qO bO.ws.length cO]⟩::⟨r72,true,T_api_Text,tX.cs q' l.length c'⟩::⟨r11,true,T_burinlaw14_Ask,t.cs q l.length c++[.slice q2 sy.length c2]⟩::V),⟨l.length,0,by omega,rfl,Nat.zero_le _,H⟩,?_⟩
 clear H
 rintro m3 h u xn xk ⟨k,hkm,hxx,hcn,H⟩
 injection hxx with hx1 hxx
 injection hxx with hx2 hxx
 injection hx1 with _ hx1
 injection hx2 with _ hx2
 subst xn xk
 refine ldS_of (hpA H 2 rfl rfl) ?_
 refine bcase_dec (fun h5=>?_) fun h5=>?_
 rotate_left
 ·obtain rfl:k=l.length:=by omega
  rw [List.take_of_length_le (Nat.le_refl _)] at hcn ⊢
  have hpm:=srtI_perm t.st.toNat l
  have gO:getP bO.ws bO.w.toNat bO.h.toNat (x:Int) (y:Int)=decide (0<DF+cntH sy l x y):=by
   rw [hbO]
   show getP RO W XX (x:Int) (y:Int)=_
   rw [pic_get hpO (by omega) (by omega),drawG_pt hsrcS,if_pos (by rw [eO.1,Int.toNat_natCast]; omega),eO.2.2.2.2]
   show List.foldl (lay1 sy 0 x y) _ _=_
   rw [fold_or,eO.2.2.2.1,hDF,cntH_perm hpm x y,decide_eq_decide]
   rcases (by omega:DF=0\/DF=1) with rfl | rfl <;> simp
  have gX:getP bX.ws bX.w.toNat bX.h.toNat (x:Int) (y:Int)=decide ((DF+cntH sy l x y) % 2=1):=by
   rw [hbX]
   show getP RX W XX (x:Int) (y:Int)=_
   rw [pic_get hpX (by omega) (by omega),drawG_pt hsrcS,if_pos (by rw [eX.1,Int.toNat_natCast]; omega),eX.2.2.2.2]
   show List.foldl (lay1 sy 2 x y) _ _=_
   rw [fold_xor,eX.2.2.2.1,hDF,cntH_perm hpm x y,decide_eq_decide]
   rcases (by omega:DF=0\/DF=1) with rfl | rfl <;> simp
  refine ldI_of (hpA H 1 rfl rfl) (ldI_of (hpA H 1 rfl rfl) (ldS_of (hpA H 1 rfl rfl) ?_))
  refine getB_ok (rdO' (A:=[_,_,_,_]) H) hwO hmO fun h' e=>⟨_,rfl,?_⟩
  have H:=H.ext e
  clear e
  rw [gO]
  obtain ⟨N,hN⟩:∃ N,N=DF+cntH sy l x y:=⟨_,rfl⟩
  rw [<- hN]
  refine bcase_false ?_ ?_
  ·have e5:(decide (((N:Nat):Int) > (0:Int)))=decide (0<N):=by rw [decide_eq_decide]; omega
   rw [e5]
   by_cases h0:0<N
   ·rw [decide_eq_true h0]; rfl
   ·rw [decide_eq_false h0]; rfl
  refine ldI_of (hpA H 0 rfl rfl) (ldI_of (hpA H 0 rfl rfl) (ldS_of (hpA H 0 rfl rfl) ?_))
  refine getB_ok (rdX' (A:=[_,_,_,_]) H) hwX hmX fun h' e=>⟨_,rfl,?_⟩
  have H:=H.ext e
  clear e
  rw [gX,<- hN]
  refine bindI_of (((N % 2:Nat):Int)) (by exact tmod_nat N 2) ?_
  refine bcase_ne (fun hh=>absurd ?_ hh) fun _=>?_
  ·rcases (by omega:N % 2=0\/N % 2=1) with h0 | h0 <;> rw [h0] <;> rfl
  refine bindI_of (((x+1:Nat):Int)) (by exact i64_at _ _ (by omega) (by omega) (by omega)) ?_
  exact ⟨m2-1,by omega,x+1,by omega,rfl,H⟩
 obtain ⟨o,ho⟩:∃ o,O[k]? = some o:=⟨_,List.getElem?_eq_getElem (by omega)⟩
 have hli:l[k]? = some o.i:=by rw [<- hO,List.getElem?_map,ho]; rfl
 have hio:=hf.2.2 _ (List.mem_of_getElem? hli)
 obtain ⟨a,ha,cell⟩:=ins_at (rdL (A:=[_,_,_,_]) H) ho
 have hnk:0<=((k:Nat):Int)/\((k:Nat):Int)<((l.length:Nat):Int):=by omega
 refine ldS_of (hpA H 3 rfl rfl) (ldS_of (hpA H 2 rfl rfl) (needs_of hnk (ptr_eq ha ?_)))
 rw [Int.toNat_natCast]
 obtain ⟨a3,q9,c9,ha3,hc0⟩:=hs _ _ (sym_at hio)
 have hc:=hc0.ext H.hext
 have hid:=hio.1
 refine ldI_of (cell 2 _ rfl) (needs_of (by omega) (ptr_eq ha3 ?_))
 refine ldI_of hc.c0 (ldI_of hc.c1 (ldS_of hc.c2 ?_))
 refine newC_hp H fun r174 h H=>?_
 have H:=H.rot
 have H:Hp hB [] h (⟨r174,true,T_api_Bitmap,[.int .i64 0, .int .i64 0, .slice none 0 0]⟩::⟨r114,true,T_api_Bitmap,[.int .i64 bX.w, .int .i64 bX.h, .slice qX bX.ws.length cX]⟩::⟨r92,true,T_api_Bitmap,[.int .i64 bO.w, .int .i64 bO.h, .slice qO bO.ws.length cO]⟩::⟨r72,true,T_api_Text,tX.cs q' l.length c'⟩::⟨r11,true,T_burinlaw14_Ask,t.cs q l.length c++[.slice q2 sy.length c2]⟩::V):=H
 refine stA H 0 rfl rfl rfl fun h H=>?_
 refine stA H 0 rfl rfl rfl fun h H=>?_
 refine stA H 0 rfl rfl rfl fun h H=>?_
 refine ⟨fun _ h'=>∃ q9 c9,(∀ {h A},Hp hB [] h (A++V)->rdO h q9 ((srcB sy o.i).ws.length*1) (u64s (srcB sy o.i).ws)/\W64 (srcB sy o.i).ws)/\Hp hB [] h' (⟨r174,true,T_api_Bitmap,[.int .i64 (srcB sy o.i).w, .int .i64 (srcB sy o.i).h, .slice q9 (srcB sy o.i).ws.length c9]⟩::⟨r114,true,T_api_Bitmap,[.int .i64 bX.w, .int .i64 bX.h, .slice qX bX.ws.length cX]⟩::⟨r92,true,T_api_Bitmap,[.int .i64 bO.w, .int .i64 bO.h, .slice qO bO.ws.length cO]⟩::⟨r72,true,T_api_Text,tX.cs q' l.length c'⟩::⟨r11,true,T_burinlaw14_Ask,t.cs q l.length c++[.slice q2 sy.length c2]⟩::V),?_,?_⟩
 ·obtain ⟨a,ha,cell⟩:=ins_at (rdL (A:=[_,_,_,_,_]) H) ho
  refine ldS_of (hpA H 3 rfl rfl) (needs_of hnk (ptr_eq ha (ldB_of (cell 3 _ rfl) (bcase_of (fun hd=>?_) fun hd=>?_))))
  ·have esrc:srcB sy o.i=o.i.b:=by unfold srcB; rw [if_pos hd]
   refine ldS_of (hpA H 3 rfl rfl) (needs_of hnk (ptr_eq ha ?_))
   rw [add_zero',add_addT _ 4 1,add_addT _ 4 2]
   refine ldI_of (cell 4 _ rfl) (ldI_of (cell 5 _ rfl) (ldS_of (cell 6 _ rfl) ?_))
   refine stA H 0 rfl rfl rfl fun h H=>?_
   refine stA H 0 rfl rfl rfl fun h H=>?_
   refine stA H 0 rfl rfl rfl fun h H=>?_
   rw [esrc]
   refine ⟨o.q,o.c,fun {h A} H=>?_,H⟩
   have:=vwO (List.mem_of_getElem? ho) H
   exact ⟨this.r,this.w⟩
  ·have esrc:srcB sy o.i=symOf sy o.i.s:=by unfold srcB; rw [if_neg (by rw [hd]; decide)]
   rw [esrc]
   exact ⟨q9,c9,fun H=>⟨H.rdO hc0.r1,hc0.w1⟩,H⟩
 clear H cell
 rintro h u ⟨q8,c8,hrd,H⟩
 refine ldI_of (hpA H 0 rfl rfl) (ldI_of (hpA H 0 rfl rfl) (ldS_of (hpA H 0 rfl rfl) ?_))
 obtain ⟨a,ha,cell⟩:=ins_at (rdL (A:=[_,_,_,_,_]) H) ho
 have hxb:=hio.2.1
 have hyb:=hio.2.2.1
 refine ldS_of (hpA H 3 rfl rfl) (needs_of hnk (ptr_eq ha (ldI_of (cell 0 _ rfl) ?_)))
 refine bindI_of (((x:Int)-o.i.x)) (by exact i64_in _ (by omega) (by omega)) ?_
 refine ldS_of (hpA H 3 rfl rfl) (needs_of hnk (ptr_eq ha (ldI_of (cell 1 _ rfl) ?_)))
 refine bindI_of (((y:Int)-o.i.y)) (by exact i64_in _ (by omega) (by omega)) ?_
 obtain ⟨g1,g2⟩:=hrd (A:=[_,_,_,_,_]) H
 refine getB_ok g1 g2 (hio.src hf.1) fun h' e=>⟨_,rfl,?_⟩
 have H:=H.ext e
 clear e
 have hcs:=cntH_snoc sy (l.take k) o.i x y
 rw [<- take_snocG hli] at hcs
 have htl:=toNat_le (hitP sy x y o.i)
 have ehit:getP (srcB sy o.i).ws (srcB sy o.i).w.toNat (srcB sy o.i).h.toNat ((x:Int)-o.i.x) ((y:Int)-o.i.y)=hitP sy x y o.i:=rfl
 rw [ehit]
 refine bindI_of (((DF+cntH sy (l.take (k+1)) x y:Nat):Int)) (by (rw [hcs]; exact i64_at _ _ (by omega) (by omega) (by omega))) ?_
 refine bindI_of (((k+1:Nat):Int)) (by exact i64_at _ _ (by omega) (by omega) (by omega)) ?_
 exact ⟨m3-1,by omega,k+1,by omega,rfl,by omega,Hp.suf (X:=[_]) H⟩
theorem tDraws_arg {h:Heap} {cs:Array Value} (hsz:cs.size=TP.cellsOf T_burinlaw14_Ask) (hw:WDx TP h T_burinlaw14_Ask cs.toList) {K:VK} {Kp:PK} (hk:∀ h',hext h h'->K (.bool true) h'):CP F_burinlaw14_TextDraws #[.agg cs] h K Kp:=by
 obtain ⟨t,q,c,l,q2,c2,sy,e,hv,hl,hs,hsl⟩:=wd_ask14 hw
 obtain rfl:cs=#[.int .i64 t.x, .int .i64 t.y, .int .i64 t.w, .int .i64 t.h, .int .i64 t.op, .bool t.rf, .int .i64 t.df, .int .i64 t.st, .slice q l.length c, .slice q2 sy.length c2]:=by
  cases cs
  simpa using e
 exact tDraws_law (t:=t) hv hl hs hsl hk
end
end Go.Bm
namespace Go.Proofs.YtbknfejmdekhpaaGreat
open Go.ChangeShapes Go.WideShapes Go.ChangeAt Go.RowKit
theorem own:ownKnob Tryz.prog.godebug=none:=by kernel_rfl
theorem laidOut:laidOutB Tryz.prog=true:=by kernel_rfl
theorem below_of {W W':World} (hk:Go.Den.keeps W W') (h:Go.Den.hext W.heap W'.heap):Below W.heap.size W W' :=
 ⟨hk.1,hk.2.1,hk.2.2,h.1,fun k hlt=>h.2 k hlt⟩
theorem walk_of {f:FuncId} {args:Array Value} {W:World}
  (h:Calls Tryz.prog f args W fun e w'=>Go.Den.keeps W w'/\match e with
   | .returned v=>v = .bool true/\Go.Den.hext W.heap w'.heap
   | .panicked c=>False
   | .outgrown=>False):Calls Tryz.prog f args W fun e W'=>e = .returned (.bool true)/\Below W.heap.size W W':=by
 refine h.mono fun e W' he=>?_
 obtain ⟨hk,he⟩:=he
 cases e with
 | returned v=>exact ⟨by rw [he.1],below_of hk he.2⟩
 | panicked c=>exact he.elim
 | outgrown=>exact he.elim
end Go.Proofs.YtbknfejmdekhpaaGreat
namespace Go.Proofs.YtbknfejmdekhpaaGreat
open Go.ChangeShapes Go.WideShapes Go.ChangeAt Go.RowKit
theorem textDraws_walk (W:World) {cs:Array Value} (hsz:cs.size=Tryz.prog.cellsOf 29) (hw:Go.Den.WDx Tryz.prog W.heap 29 cs.toList):Calls Tryz.prog 7 #[.agg cs] W fun e W'=>e = .returned (.bool true)/\Below W.heap.size W W' :=
 walk_of ((Go.Bm.tDraws_arg (h:=W.heap) (K:=fun v h'=>v = .bool true/\Go.Den.hext W.heap h') (Kp:=fun _ _=>False) hsz hw fun h' e=>⟨rfl,e⟩).2 W rfl)
theorem textDraws_lifted (os:Os) (started:os.Started) (H:Type) (enc:TypeId × Value->H) :
  ReturnsInHanded {} Tryz.checked os 7 .any (Rows.textDrawsSpec.pre6 enc Tryz.prog Tryz.f7 Rows.textDrawsRow.domain false) (Rows.textDrawsSpec.post enc Tryz.prog Tryz.f7 false true false false):=by
 refine returnsInHanded_of_change_sized (C:=Tryz.checked) own started (by kernel_rfl) Tryz.func7
  (ChangeSpec.witness6 (enc:=enc) (C:=Tryz.checked) false ⟨#[],#[.agg #[.int .i64 0, .int .i64 0, .int .i64 0, .int .i64 0, .int .i64 0, .bool false, .int .i64 0, .int .i64 0, .slice none 0 0, .slice none 0 0]],[]⟩ 8 (by kernel_rfl) (by kernel_rfl) (by kernel_rfl) (by kernel_rfl)) ?_
 intro W base args ds gs before hval0 hW hcnd hz _
 have hval:∀ (j:Nat) t v,Tryz.f7.params[j]? = some t->args[j]? = some v->Value.okWide Tryz.prog W .any base t v:=hval0
 have hz:∀ n∈DataW.weightsEach Tryz.prog (Tryz.f7.params.toList++Rows.textDrawsSpec.plain.varTypes Tryz.prog) (ds++gs),n<=reachBytes:=fun n hn=>by simpa using List.all_eq_true.1 hz n hn
 have hW':=hW
 obtain ⟨p,q,hA0,hV,rfl,hfz,hnd⟩:=hW
 have hA:DataW.TrodAll enc Tryz.prog W 0 (fun _=>true) true Tryz.f7.params.toList args.toList ds p:=hA0
 rw [Tryz.params7] at hA hval hz
 obtain ⟨v0,vs0,d0,ds0,p0,q0,hargs,rfl,rfl,h0,r0⟩:=trodAll_cons hA
 obtain ⟨rfl,rfl,rfl⟩:=trodAll_nil r0
 obtain rfl:args=#[v0]:=by cases args; simp_all
 obtain ⟨rfl,rfl⟩:=trodVars_none hV
 obtain ⟨cs,rfl,hsz⟩:=okWide_struct Tryz.underlying29 (hval 0 29 v0 rfl rfl)
 have hwd:Go.Den.WDx Tryz.prog W.heap 29 cs.toList:=by
  obtain ⟨f,hf⟩:=h0
  exact ⟨f,Go.Den.wd_of hf fun n hn=>hz n (DataW.weights_mem_each (j:=0) rfl rfl n hn)⟩
 clear hA0 hval0
 simp only [List.append_nil] at hW'
 refine (textDraws_walk W hsz hwd).mono fun e W' ⟨he,hb⟩=>?_
 subst he
 refine ⟨_,rfl,[d0],[],_,[],p0,[],hW',?_,?_,?_,hb.frame _,fun h=>Bool.noConfusion h⟩
 ·exact trodAll_cons_mk (shut_bool Go.Proofs.Tryz.underlying4 _) trodAll_mk0
 ·exact ⟨p0,[],Below.trod laidOut (by kernel_rfl) (of_decide_eq_true (by kernel_rfl)) h0 hb (fun x hx=>by simpa using hW'.lt x hx),rfl,(List.append_nil p0).symm⟩
 ·rfl
theorem textDraws_over:Rows.textDrawsRow.holds Tryz.pinned (OpenSpec.ofChange Rows.textDrawsSpec) :=
 OpenClaim.holds_of_wide 7 Tryz.f7 rfl rfl rfl rfl rfl rfl rfl ⟨rfl,rfl,rfl,rfl,rfl⟩ rfl rfl rfl rfl rfl (by kernel_rfl) Tryz.func7 (by kernel_rfl)
  (of_decide_eq_true (by kernel_rfl)) (by unfold Func.isWrapper; first | (rw [if_pos (by decide +kernel)]; kernel_rfl) | (rw [if_neg (by decide +kernel)]; exact ⟨rfl,rfl⟩))
  (fun os started H enc _=>textDraws_lifted os started H enc)
theorem textDraws_proved:Rows.TextDrawsSaid:=textDraws_over
#print axioms textDraws_proved
end Go.Proofs.YtbknfejmdekhpaaGreat
