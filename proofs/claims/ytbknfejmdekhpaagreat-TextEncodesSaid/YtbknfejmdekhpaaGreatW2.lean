/- W2: put together by wip/tools/bundle.py: BmA Nums Mbitmap Bbitmap Mburinref0 Bburinref0 Mslices Bslices BmB. -/
import Derived.Test.YtbknfejmdekhpaaGreatW1
import Derived.Test.YtbknfejmdekhpaaGreatProg
set_option linter.unusedVariables false
set_option linter.unusedSimpArgs false
set_option maxRecDepth 100000
abbrev Go.QP:Go.Den.gl:=Go.Den.kW Go.Proofs.Tryz.prog
namespace Go.Bm
open Go Go.Den
def il (l:List Nat):List Value:=l.map fun x:Nat => .int .u64 (x:Int)
theorem iO (l:List Nat):(il l).length=l.length:=by simp [il]
theorem lp {l:List Nat} {i x:Nat} (h:l[i]? = some x):(il l)[i]? = some (.int .u64 (x:Int)):=by
 unfold il; rw [gL,h]; rfl
theorem NO (l:List Nat) (i x:Nat):il (l.set i x)=(il l).set i (.int .u64 (x:Int)):=by simp [il,Ex]
theorem xH (l:List Nat):∀ v∈il l,v.oneCell'=true:=fun v hv=>by
 obtain ⟨x,_,rfl⟩:=List.mem_map.1 hv; rfl
theorem Dc (n:Nat):l9 [.int .u64 0] n=il (List.replicate n 0):=by rw [Cu]; simp [il]
theorem lU {l:List Nat} {i:Nat} (h:i<l.length):l[i]? = some (l.getD i 0):=by
 rw [fY,fP h]; rfl
abbrev M64:Nat:=18446744073709551616
def W64 (l:List Nat):Prop:=∀ v∈l,v<M64
theorem W64.get {l:List Nat} (h:W64 l) (i:Nat):l.getD i 0<M64:=by
 rw [fY]
 cases hk:l[i]? with
 | none=>decide
 | some x=>exact h x (fS hk)
theorem W64.set {l:List Nat} (h:W64 l) {i v:Nat} (hv:v<M64):W64 (l.set i v):=fun x hx=>by
 rcases List.mem_or_eq_of_mem_set hx with h1 | h1
 ·exact h x h1
 ·rw [h1]; exact hv
theorem W64.zero (n:Nat):W64 (List.replicate n 0):=fun v hv=>by rw [(List.mem_replicate.1 hv).2]; decide
theorem C5:M64=2 ^ 64:=rfl
theorem C1 {v:Nat} (h:v<M64) {j:Nat} (hj:64<=j):v.testBit j=false :=
 Nat.testBit_lt_two_pow (iK h (by rw [C5]; exact im (by decide) hj))
theorem I5 {a b:Nat} (ha:a<M64) (hb:b<M64) (h:∀ j,j<64->a.testBit j=b.testBit j):a=b:=by
 apply Bl
 intro j
 rcases gI j 64 with h1 | h1
 ·exact h j h1
 ·rw [C1 ha h1,C1 hb h1]
def wds (w:Nat):Nat:=(w+63) / 64
def pix (ws:List Nat) (wd x y:Nat):Bool:=(ws.getD (y*wd+x / 64) 0).testBit (63-x % 64)
theorem Me {wd c c' y y':Nat} (hc:c<wd) (hc':c'<wd) (h:y*wd+c=y'*wd+c'):y=y'/\c=c':=by
 have h1:(y*wd+c) / wd=y:=by rw [gS,Nat.mul_add_div (by omega),lf hc,gr]
 have h2:(y'*wd+c') / wd=y':=by rw [gS,Nat.mul_add_div (by omega),lf hc',gr]
 rw [h,h2] at h1
 subst h1
 exact ⟨rfl,by omega⟩
theorem rZ {wd c y h:Nat} (hc:c<wd) (hy:y<h):y*wd+c<h*wd:=by
 have:(y+1)*wd<=h*wd:=gD _ hy
 rw [gZ,kn] at this
 omega
theorem LX {a b:List Nat} {wd h:Nat} (ha:a.length=h*wd) (hb:b.length=h*wd) (wa:W64 a) (wb:W64 b) (hp:∀ y,y<h->∀ x,x<64*wd->pix a wd x y=pix b wd x y):a=b:=by
 apply pO
 intro i
 rcases gI i (h*wd) with hi | hi
 ·have hw:0<wd:=by
   rcases oO wd with h0 | h0
   ·subst h0; simp at hi
   ·exact h0
  rw [lU (by omega),lU (by omega)]
  congr 1
  refine I5 (wa.get i) (wb.get i) fun j hj=>?_
  have hy:i / wd<h:=(Nat.div_lt_iff_lt_mul hw).2 hi
  have hc:i % wd<wd:=iP _ hw
  have:=hp (i / wd) hy (64*(i % wd)+(63-j)) (by omega)
  unfold pix at this
  rw [show (64*(i % wd)+(63-j)) / 64=i % wd by omega,show 63-(64*(i % wd)+(63-j)) % 64=j by omega,show i / wd*wd+i % wd=i by rw [gS]; exact Nat.div_add_mod i wd] at this
  exact this
 ·rw [iq (by omega),iq (by omega)]
theorem Iu {ws:List Nat} {wd c y v h:Nat} (hl:ws.length=h*wd) (hc:c<wd) (hy:y<h) {x' y':Nat} (hx':x'<64*wd) :
  pix (ws.set (y*wd+c) v) wd x' y'=if y'=y/\x' / 64=c then v.testBit (63-x' % 64) else pix ws wd x' y':=by
 have hi:=rZ hc hy
 unfold pix
 split
 ·rename_i h1
  rw [h1.1,h1.2,fY,iD (by omega)]
  rfl
 ·rename_i h1
  rw [fY,j3,<- fY]
  intro e
  obtain ⟨e1,e2⟩:=Me hc (show x' / 64<wd by omega) e
  exact h1 ⟨e1.symm,e2.symm⟩
def y5 (b:Nat):Nat:=2 ^ 64-(b+1)
theorem s6 {b:Nat} (h:b<M64) {j:Nat} (hj:j<64):(y5 b).testBit j = !b.testBit j:=by
 unfold y5
 rw [Nat.testBit_two_pow_sub_succ h,decide_eq_true hj,jm]
theorem xv (a b:Nat) (ha:a<M64) (hb:b<M64):jo .andNot .u64 a b=((a &&& y5 b:Nat):Int):=by
 have ha':a % 2 ^ 64=a:=jC ha
 have hb':b % 2 ^ 64=b:=jC hb
 have h1:(BitVec.ofInt 64 (a:Int) &&& ~~~ BitVec.ofInt 64 (b:Int)).toNat=a &&& y5 b:=by
  rw [BitVec.toNat_and,BitVec.toNat_not,BitVec.ofInt_natCast,BitVec.ofInt_natCast,BitVec.toNat_ofNat,BitVec.toNat_ofNat,ha',hb']
  unfold y5
  congr 1
  omega
 have e:jo .andNot .u64 (a:Int) (b:Int)=IntKind.u64.wrap (((BitVec.ofInt 64 (a:Int) &&& ~~~ BitVec.ofInt 64 (b:Int)).toNat:Nat):Int):=rfl
 rw [e,h1]
 exact u64_in _ (by omega) (by
  have:a &&& y5 b<=a:=Nat.and_le_left
  omega)
theorem NA (a b:Nat) (ha:a<M64) (hb:b<M64):jo .xor .u64 a b=((a ^^^ b:Nat):Int):=DZ .u64 64 (by decide) PW a b ha hb
theorem ri {a b:Nat} (ha:a<M64):a &&& b<M64:=ir Nat.and_le_left ha
theorem Hg {a b:Nat} (ha:a<M64) (hb:b<M64):a ||| b<M64:=Nat.or_lt_two_pow (n:=64) ha hb
theorem HZ {a b:Nat} (ha:a<M64) (hb:b<M64):a ^^^ b<M64:=Nat.xor_lt_two_pow (n:=64) ha hb
theorem JA {p j:Nat} (hp:p<=64):(18446744073709551615 / 2 ^ p).testBit j=decide (j+p<64):=by
 rw [Nat.testBit_div_two_pow,show 18446744073709551615=2 ^ 64-1 from rfl,tq]
def opB (op:Nat) (d s:Bool):Bool:=match op with
 | 0=>d || s
 | 1=>d && s
 | 2=>d != s
 | 3=>!(d != s)
 | _=>s
def KL (ws:List Nat) (X:Int):Bool:=decide (0<=X) && (ws.getD (X.toNat / 64) 0).testBit (63-X.toNat % 64)
end Go.Bm
namespace Go.Den.YtbknfejmdekhpaaGreat
open Go Go.Den
abbrev gQ:TypeId:=3
abbrev PT:TypeId:=4
abbrev gA:TypeId:=5
abbrev Ce:TypeId:=22
abbrev xA:TypeId:=24
abbrev fR:TypeId:=26
abbrev iF:TypeId:=27
abbrev mn:TypeId:=29
abbrev k7:TypeId:=32
abbrev gR:TypeId:=33
abbrev Gu:TypeId:=36
abbrev fK:TypeId:=38
abbrev fM:TypeId:=47
abbrev gj:TypeId:=70
abbrev jW:TypeId:=73
abbrev C4:TypeId:=79
abbrev iz:TypeId:=87
abbrev mB:TypeId:=90
abbrev jV:TypeId:=104
abbrev mP:TypeId:=105
abbrev mX:TypeId:=107
abbrev mJ:TypeId:=110
abbrev mO:TypeId:=132
abbrev k8:TypeId:=136
abbrev Gv:TypeId:=137
abbrev sS:TypeId:=139
abbrev Bk:TypeId:=143
abbrev D7:TypeId:=156
abbrev vQ:TypeId:=159
abbrev yw:TypeId:=165
abbrev jD:TypeId:=171
abbrev wM:TypeId:=182
abbrev tU:TypeId:=187
abbrev Bj:TypeId:=206
abbrev kV:TypeId:=211
abbrev jx:TypeId:=233
abbrev lv:TypeId:=238
abbrev mA:TypeId:=245
abbrev pK:FuncId:=3
abbrev qf:FuncId:=12
abbrev mS:FuncId:=13
abbrev nf:FuncId:=14
abbrev s3:FuncId:=15
abbrev px:FuncId:=16
abbrev tp:FuncId:=17
abbrev mR:FuncId:=18
abbrev ml:FuncId:=19
abbrev oM:FuncId:=20
abbrev jy:FuncId:=21
abbrev j8:FuncId:=22
abbrev kF:FuncId:=23
abbrev lW:FuncId:=24
abbrev mD:FuncId:=25
abbrev lN:FuncId:=26
abbrev nE:FuncId:=27
abbrev wQ:FuncId:=30
abbrev o0:FuncId:=35
abbrev nQ:FuncId:=36
abbrev jJ:FuncId:=37
abbrev mg:FuncId:=38
abbrev og:FuncId:=39
abbrev pW:FuncId:=40
abbrev nc:FuncId:=42
abbrev rq:FuncId:=43
abbrev sZ:FuncId:=44
abbrev xC:FuncId:=45
abbrev Am:FuncId:=46
abbrev jh:FuncId:=47
abbrev sG:FuncId:=48
abbrev pD:FuncId:=49
abbrev Al:FuncId:=50
abbrev ki:FuncId:=51
abbrev tX:FuncId:=52
abbrev lS:FuncId:=53
abbrev jZ:FuncId:=54
abbrev lR:FuncId:=55
abbrev sJ:FuncId:=56
abbrev nb:FuncId:=57
abbrev rF:FuncId:=58
abbrev rH:FuncId:=59
abbrev nW:FuncId:=60
abbrev rI:FuncId:=61
abbrev nK:FuncId:=62
abbrev tY:FuncId:=63
abbrev j2:FuncId:=64
abbrev jv:FuncId:=65
abbrev iQ:FuncId:=66
abbrev oZ:FuncId:=67
abbrev yz:FuncId:=68
abbrev mQ:FuncId:=69
abbrev pz:FuncId:=70
abbrev rv:FuncId:=71
abbrev xD:FuncId:=72
abbrev ij:FuncId:=73
abbrev jd:FuncId:=74
abbrev pt:FuncId:=75
abbrev lX:FuncId:=76
abbrev oL:FuncId:=77
abbrev sN:FuncId:=78
abbrev wO:FuncId:=79
abbrev qi:FuncId:=80
abbrev mE:FuncId:=81
abbrev rp:FuncId:=82
abbrev pv:FuncId:=83
abbrev mY:FuncId:=88
abbrev ly:FuncId:=89
abbrev Cg:FuncId:=90
abbrev lQ:FuncId:=91
abbrev uB:FuncId:=92
abbrev mo:FuncId:=93
abbrev sF:FuncId:=94
abbrev nt:FuncId:=95
abbrev oh:FuncId:=96
abbrev sM:FuncId:=97
abbrev mT:FuncId:=98
abbrev rC:FuncId:=99
abbrev pA:FuncId:=100
abbrev ru:FuncId:=101
abbrev sI:FuncId:=102
abbrev jG:FuncId:=103
abbrev sH:FuncId:=104
abbrev od:FuncId:=105
abbrev qe:FuncId:=106
abbrev pV:FuncId:=107
abbrev lM:FuncId:=108
abbrev rE:FuncId:=109
abbrev o3:FuncId:=110
abbrev pM:FuncId:=111
abbrev s5:FuncId:=112
abbrev pC:FuncId:=113
abbrev pL:FuncId:=114
abbrev vo:FuncId:=115
abbrev kO:FuncId:=116
abbrev pU:FuncId:=117
abbrev lK:FuncId:=118
abbrev wR:FuncId:=119
abbrev l5:FuncId:=120
abbrev qh:FuncId:=121
abbrev jP:FuncId:=122
abbrev mF:FuncId:=123
abbrev kh:FuncId:=124
abbrev rl:FuncId:=125
abbrev oe:FuncId:=134
abbrev wP:FuncId:=135
abbrev mj:FuncId:=136
abbrev iB:FuncId:=137
abbrev pJ:FuncId:=138
abbrev tV:FuncId:=139
abbrev uA:FuncId:=140
abbrev sV:FuncId:=141
abbrev uw:FuncId:=142
abbrev kJ:FuncId:=143
abbrev uy:FuncId:=144
abbrev rk:FuncId:=145
abbrev jz:FuncId:=146
abbrev wN:FuncId:=147
abbrev yx:FuncId:=148
abbrev uv:FuncId:=149
abbrev sK:FuncId:=150
abbrev rB:FuncId:=151
abbrev lx:FuncId:=152
abbrev nD:FuncId:=153
abbrev ld:FuncId:=154
abbrev mf:FuncId:=155
abbrev j7:FuncId:=156
abbrev vn:FuncId:=157
abbrev nJ:FuncId:=158
abbrev nI:FuncId:=159
abbrev nH:FuncId:=160
abbrev nG:FuncId:=161
abbrev nF:FuncId:=162
abbrev je:FuncId:=163
abbrev iN:FuncId:=164
abbrev rD:FuncId:=165
abbrev qg:FuncId:=166
abbrev Ak:FuncId:=167
abbrev sW:FuncId:=168
abbrev kG:FuncId:=169
abbrev uz:FuncId:=170
abbrev rJ:FuncId:=171
abbrev k9:FuncId:=178
abbrev vS:FuncId:=179
abbrev o6:FuncId:=180
abbrev oN:FuncId:=181
abbrev ng:FuncId:=182
abbrev lz:FuncId:=183
abbrev pR:FuncId:=184
abbrev s4:FuncId:=185
abbrev ux:FuncId:=186
abbrev pS:FuncId:=187
abbrev jY:FuncId:=188
abbrev sU:FuncId:=189
abbrev tW:FuncId:=190
abbrev kP:FuncId:=191
abbrev ji:FuncId:=192
abbrev pB:FuncId:=193
abbrev kZ:FuncId:=194
abbrev mG:FuncId:=195
abbrev pT:FuncId:=196
abbrev l6:FuncId:=197
abbrev iR:FuncId:=200
abbrev rG:FuncId:=201
abbrev lD:FuncId:=202
abbrev o5:FuncId:=203
abbrev mK:FuncId:=204
abbrev sO:FuncId:=205
abbrev iY:FuncId:=206
abbrev rA:FuncId:=207
abbrev m6:FuncId:=208
abbrev o4:FuncId:=209
def Gs:List Value:=[.int .u32 0,.int .u8 0,.int .u8 0,.int .u8 0,.int .u32 0,.int .u8 0,.int .u8 0,.int .u8 0,.int .u32 0,.int .u8 0,.int .u8 0,.int .u8 0,.int .u32 0,.int .u8 0,.int .u8 0,.int .u8 0,.int .u32 0,.int .u8 0,.int .u8 0,.int .u8 0,.int .u32 0,.int .u8 0,.int .u8 0,.int .u8 0,.int .u32 0,.int .u8 0,.int .u8 0,.int .u8 0,.int .u32 0,.int .u8 0,.int .u8 0,.int .u8 0,.int .u32 0,.int .u8 0,.int .u8 0,.int .u8 0,.int .u32 0,.int .u8 0,.int .u8 0,.int .u8 0,.int .u32 0,.int .u8 0,.int .u8 0,.int .u8 0,.int .u32 0,.int .u8 0,.int .u8 0,.int .u8 0,.int .u32 0,.int .u8 0,.int .u8 0,.int .u8 0,.int .u32 0,.int .u8 0,.int .u8 0,.int .u8 0,.int .u32 0,.int .u8 0,.int .u8 0,.int .u8 0,.int .u32 0,.int .u8 0,.int .u8 0,.int .u8 0,.int .u32 0,.int .u8 0,.int .u8 0,.int .u8 0,.int .u32 0,.int .u8 0,.int .u8 0,.int .u8 0,.int .u32 0,.int .u8 0,.int .u8 0,.int .u8 0,.int .u32 0,.int .u8 0,.int .u8 0,.int .u8 0,.int .u32 0,.int .u8 0,.int .u8 0,.int .u8 0,.int .u32 0,.int .u8 0,.int .u8 0,.int .u8 0,.int .u32 0,.int .u8 0,.int .u8 0,.int .u8 0,.int .u32 0,.int .u8 0,.int .u8 0,.int .u8 0,.int .u32 0,.int .u8 0,.int .u8 0,.int .u8 0,.int .u32 0,.int .u8 0,.int .u8 0,.int .u8 0,.int .u32 0,.int .u8 0,.int .u8 0,.int .u8 0,.int .u32 0,.int .u8 0,.int .u8 0,.int .u8 0,.int .u32 0,.int .u8 0,.int .u8 0,.int .u8 0,.int .u32 0,.int .u8 0,.int .u8 0,.int .u8 0,.int .u32 0,.int .u8 0,.int .u8 0,.int .u8 0,.int .u32 0,.int .u8 0,.int .u8 0,.int .u8 0,.int .u32 0,.int .u8 0,.int .u8 0,.int .u8 0,.int .u32 0,.int .u8 0,.int .u8 0,.int .u8 0,.int .u32 0,.int .u8 0,.int .u8 0,.int .u8 0,.int .u32 0,.int .u8 0,.int .u8 0,.int .u8 0,.int .u32 0,.int .u8 0,.int .u8 0,.int .u8 0,.int .u32 0,.int .u8 0,.int .u8 0,.int .u8 0,.int .u32 0,.int .u8 0,.int .u8 0,.int .u8 0,.int .u32 0,.int .u8 0,.int .u8 0,.int .u8 0,.int .u32 0,.int .u8 0,.int .u8 0,.int .u8 0,.int .u32 0,.int .u8 0,.int .u8 0,.int .u8 0,.int .u32 0,.int .u8 0,.int .u8 0,.int .u8 0,.int .u32 0,.int .u8 0,.int .u8 0,.int .u8 0,.int .u32 0,.int .u8 0,.int .u8 0,.int .u8 0,.int .u32 0,.int .u8 0,.int .u8 0,.int .u8 0,.int .u32 0,.int .u8 0,.int .u8 0,.int .u8 0]
def kj:List Value:=[.int .u32 0,.int .u8 0,.int .u8 0,.int .u8 0,.int .u32 0,.int .u8 0,.int .u8 0,.int .u8 0,.int .u32 0,.int .u8 0,.int .u8 0,.int .u8 0,.int .u32 0,.int .u8 0,.int .u8 0,.int .u8 0,.int .u32 0,.int .u8 0,.int .u8 0,.int .u8 0,.int .u32 0,.int .u8 0,.int .u8 0,.int .u8 0,.int .u32 0,.int .u8 0,.int .u8 0,.int .u8 0,.int .u32 0,.int .u8 0,.int .u8 0,.int .u8 0,.int .u32 0,.int .u8 0,.int .u8 0,.int .u8 0,.int .u32 0,.int .u8 0,.int .u8 0,.int .u8 0,.int .u32 0,.int .u8 0,.int .u8 0,.int .u8 0,.int .u32 0,.int .u8 0,.int .u8 0,.int .u8 0,.int .u32 0,.int .u8 0,.int .u8 0,.int .u8 0,.int .u32 0,.int .u8 0,.int .u8 0,.int .u8 0,.int .u32 0,.int .u8 0,.int .u8 0,.int .u8 0,.int .u32 0,.int .u8 0,.int .u8 0,.int .u8 0,.int .u32 0,.int .u8 0,.int .u8 0,.int .u8 0,.int .u32 0,.int .u8 0,.int .u8 0,.int .u8 0,.int .u32 0,.int .u8 0,.int .u8 0,.int .u8 0,.int .u32 0,.int .u8 0,.int .u8 0,.int .u8 0,.int .u32 0,.int .u8 0,.int .u8 0,.int .u8 0,.int .u32 0,.int .u8 0,.int .u8 0,.int .u8 0,.int .u32 0,.int .u8 0,.int .u8 0,.int .u8 0,.int .u32 0,.int .u8 0,.int .u8 0,.int .u8 0,.int .u32 0,.int .u8 0,.int .u8 0,.int .u8 0,.int .u32 0,.int .u8 0,.int .u8 0,.int .u8 0,.int .u32 0,.int .u8 0,.int .u8 0,.int .u8 0,.int .u32 0,.int .u8 0,.int .u8 0,.int .u8 0,.int .u32 0,.int .u8 0,.int .u8 0,.int .u8 0,.int .u32 0,.int .u8 0,.int .u8 0,.int .u8 0,.int .u32 0,.int .u8 0,.int .u8 0,.int .u8 0,.int .u32 0,.int .u8 0,.int .u8 0,.int .u8 0,.int .u32 0,.int .u8 0,.int .u8 0,.int .u8 0,.int .u32 0,.int .u8 0,.int .u8 0,.int .u8 0,.int .u32 0,.int .u8 0,.int .u8 0,.int .u8 0,.int .u32 0,.int .u8 0,.int .u8 0,.int .u8 0,.int .u32 0,.int .u8 0,.int .u8 0,.int .u8 0,.int .u32 0,.int .u8 0,.int .u8 0,.int .u8 0,.int .u32 0,.int .u8 0,.int .u8 0,.int .u8 0,.int .u32 0,.int .u8 0,.int .u8 0,.int .u8 0,.int .u32 0,.int .u8 0,.int .u8 0,.int .u8 0,.int .u32 0,.int .u8 0,.int .u8 0,.int .u8 0,.int .u32 0,.int .u8 0,.int .u8 0,.int .u8 0,.int .u32 0,.int .u8 0,.int .u8 0,.int .u8 0,.int .u32 0,.int .u8 0,.int .u8 0,.int .u8 0,.int .u32 0,.int .u8 0,.int .u8 0,.int .u8 0,.int .u32 0,.int .u8 0,.int .u8 0,.int .u8 0,.slice none 0 0,.int .i64 0]
def nV:List Value:=[.int .u32 0,.int .u8 0,.int .u8 0,.int .u8 0,.int .u32 0,.int .u8 0,.int .u8 0,.int .u8 0,.int .u32 0,.int .u8 0,.int .u8 0,.int .u8 0,.int .u32 0,.int .u8 0,.int .u8 0,.int .u8 0,.int .u32 0,.int .u8 0,.int .u8 0,.int .u8 0,.int .u32 0,.int .u8 0,.int .u8 0,.int .u8 0,.int .u32 0,.int .u8 0,.int .u8 0,.int .u8 0,.int .u32 0,.int .u8 0,.int .u8 0,.int .u8 0,.int .u32 0,.int .u8 0,.int .u8 0,.int .u8 0,.int .u32 0,.int .u8 0,.int .u8 0,.int .u8 0,.int .u32 0,.int .u8 0,.int .u8 0,.int .u8 0,.int .u32 0,.int .u8 0,.int .u8 0,.int .u8 0,.int .u32 0,.int .u8 0,.int .u8 0,.int .u8 0,.int .u32 0,.int .u8 0,.int .u8 0,.int .u8 0,.int .u32 0,.int .u8 0,.int .u8 0,.int .u8 0,.int .u32 0,.int .u8 0,.int .u8 0,.int .u8 0,.int .u32 0,.int .u8 0,.int .u8 0,.int .u8 0,.int .u32 0,.int .u8 0,.int .u8 0,.int .u8 0,.int .u32 0,.int .u8 0,.int .u8 0,.int .u8 0,.int .u32 0,.int .u8 0,.int .u8 0,.int .u8 0,.int .u32 0,.int .u8 0,.int .u8 0,.int .u8 0,.int .u32 0,.int .u8 0,.int .u8 0,.int .u8 0,.int .u32 0,.int .u8 0,.int .u8 0,.int .u8 0,.int .u32 0,.int .u8 0,.int .u8 0,.int .u8 0,.int .u32 0,.int .u8 0,.int .u8 0,.int .u8 0,.int .u32 0,.int .u8 0,.int .u8 0,.int .u8 0,.int .u32 0,.int .u8 0,.int .u8 0,.int .u8 0,.int .u32 0,.int .u8 0,.int .u8 0,.int .u8 0,.int .u32 0,.int .u8 0,.int .u8 0,.int .u8 0,.int .u32 0,.int .u8 0,.int .u8 0,.int .u8 0,.int .u32 0,.int .u8 0,.int .u8 0,.int .u8 0,.int .u32 0,.int .u8 0,.int .u8 0,.int .u8 0,.int .u32 0,.int .u8 0,.int .u8 0,.int .u8 0,.int .u32 0,.int .u8 0,.int .u8 0,.int .u8 0,.int .u32 0,.int .u8 0,.int .u8 0,.int .u8 0,.int .u32 0,.int .u8 0,.int .u8 0,.int .u8 0,.int .u32 0,.int .u8 0,.int .u8 0,.int .u8 0,.int .u32 0,.int .u8 0,.int .u8 0,.int .u8 0,.int .u32 0,.int .u8 0,.int .u8 0,.int .u8 0,.int .u32 0,.int .u8 0,.int .u8 0,.int .u8 0,.int .u32 0,.int .u8 0,.int .u8 0,.int .u8 0,.int .u32 0,.int .u8 0,.int .u8 0,.int .u8 0,.int .u32 0,.int .u8 0,.int .u8 0,.int .u8 0,.int .u32 0,.int .u8 0,.int .u8 0,.int .u8 0,.int .u32 0,.int .u8 0,.int .u8 0,.int .u8 0,.int .u32 0,.int .u8 0,.int .u8 0,.int .u8 0,.int .u32 0,.int .u8 0,.int .u8 0,.int .u8 0,.slice none 0 0,.int .i64 0,.int .u32 0,.int .u32 0,.int .i64 0,.slice none 0 0,.bool false]
def kU:List Value:=[.int .u32 0,.int .u8 0,.int .u8 0,.int .u8 0,.int .u32 0,.int .u8 0,.int .u8 0,.int .u8 0,.int .u32 0,.int .u8 0,.int .u8 0,.int .u8 0,.int .u32 0,.int .u8 0,.int .u8 0,.int .u8 0,.int .u32 0,.int .u8 0,.int .u8 0,.int .u8 0,.int .u32 0,.int .u8 0,.int .u8 0,.int .u8 0,.int .u32 0,.int .u8 0,.int .u8 0,.int .u8 0,.int .u32 0,.int .u8 0,.int .u8 0,.int .u8 0,.int .u32 0,.int .u8 0,.int .u8 0,.int .u8 0,.int .u32 0,.int .u8 0,.int .u8 0,.int .u8 0,.int .u32 0,.int .u8 0,.int .u8 0,.int .u8 0,.int .u32 0,.int .u8 0,.int .u8 0,.int .u8 0,.int .u32 0,.int .u8 0,.int .u8 0,.int .u8 0,.int .u32 0,.int .u8 0,.int .u8 0,.int .u8 0,.int .u32 0,.int .u8 0,.int .u8 0,.int .u8 0,.int .u32 0,.int .u8 0,.int .u8 0,.int .u8 0,.int .u32 0,.int .u8 0,.int .u8 0,.int .u8 0,.int .u32 0,.int .u8 0,.int .u8 0,.int .u8 0,.int .u32 0,.int .u8 0,.int .u8 0,.int .u8 0,.int .u32 0,.int .u8 0,.int .u8 0,.int .u8 0,.int .u32 0,.int .u8 0,.int .u8 0,.int .u8 0,.int .u32 0,.int .u8 0,.int .u8 0,.int .u8 0,.int .u32 0,.int .u8 0,.int .u8 0,.int .u8 0,.int .u32 0,.int .u8 0,.int .u8 0,.int .u8 0,.int .u32 0,.int .u8 0,.int .u8 0,.int .u8 0,.int .u32 0,.int .u8 0,.int .u8 0,.int .u8 0,.int .u32 0,.int .u8 0,.int .u8 0,.int .u8 0,.int .u32 0,.int .u8 0,.int .u8 0,.int .u8 0,.int .u32 0,.int .u8 0,.int .u8 0,.int .u8 0,.int .u32 0,.int .u8 0,.int .u8 0,.int .u8 0,.int .u32 0,.int .u8 0,.int .u8 0,.int .u8 0,.int .u32 0,.int .u8 0,.int .u8 0,.int .u8 0,.int .u32 0,.int .u8 0,.int .u8 0,.int .u8 0,.int .u32 0,.int .u8 0,.int .u8 0,.int .u8 0,.int .u32 0,.int .u8 0,.int .u8 0,.int .u8 0,.int .u32 0,.int .u8 0,.int .u8 0,.int .u8 0,.int .u32 0,.int .u8 0,.int .u8 0,.int .u8 0,.int .u32 0,.int .u8 0,.int .u8 0,.int .u8 0,.int .u32 0,.int .u8 0,.int .u8 0,.int .u8 0,.int .u32 0,.int .u8 0,.int .u8 0,.int .u8 0,.int .u32 0,.int .u8 0,.int .u8 0,.int .u8 0,.int .u32 0,.int .u8 0,.int .u8 0,.int .u8 0,.int .u32 0,.int .u8 0,.int .u8 0,.int .u8 0,.int .u32 0,.int .u8 0,.int .u8 0,.int .u8 0,.int .u32 0,.int .u8 0,.int .u8 0,.int .u8 0,.int .u32 0,.int .u8 0,.int .u8 0,.int .u8 0,.int .u32 0,.int .u8 0,.int .u8 0,.int .u8 0,.slice none 0 0,.int .i64 0,.int .u32 0,.int .u32 0,.int .i64 0,.slice none 0 0,.int .i64 0]
def Ca (C:gl) (w h':Int) (h:Heap) (K:VK) (Kp:PK):Prop :=
C rE #[.int .i64 w,.int .i64 h'] h (fun f b=>
∃ (c:Bool),f = .bool c/\(
fI (!c) (
K (.tuple #[.pointer none,.int .i64 20]) b)<|
fG (IntKind.i64.wrap (w+(63:Int))) fun g=>
fG (IntKind.i64.wrap (g.tdiv (64:Int))) fun d=>
fG (IntKind.i64.wrap (h'*d)) fun a=>
fW (0<=a/\a<=a/\a<=9223372036854775807/\((8:Nat):Int)*a<=281474976710656)<|
gE b (l9 [.int .u64 0] a.toNat) gj fun i j=>
gE j [.int .i64 w,.int .i64 h',.int .i64 d,.slice (some ⟨i,0,none⟩) a.toNat a.toNat] yw fun k e=>
K (.tuple #[.pointer (some ⟨k,0,none⟩),.int .i64 0]) e)) (Kp)
def tQ (C:gl) (m:Option Addr) (x y w h' bit:Int) (h:Heap) (K:VK) (Kp:PK):Prop :=
∃ u:List Value->Heap->Prop,(
fI (decide (w<(0:Int))) (
K (.int .i64 24) h)<|
fI (decide (h'<(0:Int))) (
K (.int .i64 24) h)<|
fI (bit != (0:Int)) (
fI (bit != (1:Int)) (
K (.int .i64 23) h)<|
u [] h)<|
u [] h)/\∀ (v:Heap) (az:Nat->Value) ,u [] v->(
ptr m fun aq=>
ldI v (aq.add 0) .i64 fun ar=>
C o3 #[.int .i64 x,.int .i64 w,.int .i64 ar] v (fun au J=>
∃ (L:Int),∃ (n:Int),au = .tuple #[.int .i64 L,.int .i64 n]/\(
fG (IntKind.i64.wrap (x+L)) fun j=>
ptr m fun M=>
ldI J (M.add 1) .i64 fun N=>
C o3 #[.int .i64 y,.int .i64 h',.int .i64 N] J (fun O o=>
∃ (z:Int),∃ (p:Int),O = .tuple #[.int .i64 z,.int .i64 p]/\(
fG (IntKind.i64.wrap (y+z)) fun A=>
fI (n == (0:Int)) (
K (.int .i64 0) o)<|
fI (p == (0:Int)) (
K (.int .i64 0) o)<|
∃ q:Nat->List Value->Heap->Prop,(∃ k,q k [.int .i64 A] o)/\∀ (k:Nat) (r:Heap) (ax:Nat->Value) (f:Int),q k [.int .i64 f] r->(
fG (IntKind.i64.wrap (A+p)) fun P=>
fI (decide (f<P)) (
fG (IntKind.i64.wrap (j.tdiv (64:Int))) fun Q=>
∃ l:Nat->List Value->Heap->Prop,(∃ g,l g [.int .i64 Q] r)/\∀ (g:Nat) (b:Heap) (ay:Nat->Value) (a:Int),l g [.int .i64 a] b->(
fG (IntKind.i64.wrap (j+n)) fun R=>
fG (IntKind.i64.wrap (R-(1:Int))) fun S=>
fG (IntKind.i64.wrap (S.tdiv (64:Int))) fun T=>
fI (decide (a<=T)) (
ptr m fun U=>
ptr m fun V=>
ldS b (U.add 3) fun B s av=>
ldI b (V.add 2) .i64 fun W=>
fG (IntKind.i64.wrap (f*W)) fun X=>
fG (IntKind.i64.wrap (X+a)) fun c=>
fW (0<=c/\c<(s:Int))<|
ptr B fun Y=>
ldI b (Y.add (c.toNat*1)) .u64 fun Z=>
C pM #[.int .i64 a,.int .i64 j,.int .i64 n] b (fun aa D=>
∃ (E:Int),aa = .int .u64 E/\(
gi b D/\(
fG (jo .andNot .u64 Z E) fun ab=>
fW (0<=c/\c<(s:Int))<|
ptr B fun ac=>
stV D (ac.add (c.toNat*1)) (.int .u64 ab) fun d=>
fI (bit == (1:Int)) (
ptr m fun ad=>
ptr m fun ae=>
ldS d (ad.add 3) fun F t aw=>
ldI d (ae.add 2) .i64 fun af=>
fG (IntKind.i64.wrap (f*af)) fun ag=>
fG (IntKind.i64.wrap (ag+a)) fun e=>
fW (0<=e/\e<(t:Int))<|
ptr F fun ah=>
ldI d (ah.add (e.toNat*1)) .u64 fun ai=>
C pM #[.int .i64 a,.int .i64 j,.int .i64 n] d (fun aj G=>
∃ (H:Int),aj = .int .u64 H/\(
gi d G/\(
fG (jo .or .u64 ai H) fun ak=>
fW (0<=e/\e<(t:Int))<|
ptr F fun al=>
stV G (al.add (e.toNat*1)) (.int .u64 ak) fun am=>
fG (IntKind.i64.wrap (a+(1:Int))) fun an=>
∃ i,i<g/\l i [.int .i64 an] am))) (Kp))<|
fG (IntKind.i64.wrap (a+(1:Int))) fun ao=>
∃ i,i<g/\l i [.int .i64 ao] d))) (Kp))<|
fG (IntKind.i64.wrap (f+(1:Int))) fun ap=>
∃ I,I<k/\q I [.int .i64 ap] b))<|
K (.int .i64 0) r))) (Kp))) (Kp))
def Ag (C:gl) (y z:Int) (A:Option Addr) (l m:Nat) (h:Heap) (K:VK) (Kp:PK):Prop :=
gE h [.int .i64 y,.int .i64 z,.slice A l m] fK fun b c=>
ldI c (.add ⟨b,0,none⟩ 0) .i64 fun B=>
ldI c (.add ⟨b,0,none⟩ 1) .i64 fun D=>
ldS c (.add ⟨b,0,none⟩ 2) fun E n o=>
C lX #[.agg #[.int .i64 B,.int .i64 D,.slice E n o]] c (fun F a=>
∃ (f:Bool),F = .bool f/\(
fI (!f) (
K (.tuple #[.pointer none,.int .i64 21]) a)<|
ldI a (.add ⟨b,0,none⟩ 0) .i64 fun p=>
ldI a (.add ⟨b,0,none⟩ 1) .i64 fun q=>
ldI a (.add ⟨b,0,none⟩ 0) .i64 fun r=>
fG (IntKind.i64.wrap (r+(63:Int))) fun s=>
fG (IntKind.i64.wrap (s.tdiv (64:Int))) fun t=>
ldS a (.add ⟨b,0,none⟩ 2) fun u j k=>
C jv #[.slice u j k] a (fun v g=>
∃ (i:Option Addr) (d e:Nat),v = .slice i d e/\(
gi a g/\(
gE g [.int .i64 p,.int .i64 q,.int .i64 t,.slice i d e] yw fun w x=>
K (.tuple #[.pointer (some ⟨w,0,none⟩),.int .i64 0]) x))) (Kp))) (Kp)
def tR (C:gl) (m src:Option Addr) (sx sy w h' dx dy op:Int) (h:Heap) (K:VK) (Kp:PK):Prop :=
fI src.isNone (
K (.int .i64 26) h)<|
fI (decide (w<(0:Int))) (
K (.int .i64 24) h)<|
fI (decide (h'<(0:Int))) (
K (.int .i64 24) h)<|
fI (decide (op<(0:Int))) (
K (.int .i64 25) h)<|
fI (decide (op > (4:Int))) (
K (.int .i64 25) h)<|
ptr src fun aP=>
ptr m fun aQ=>
ldI h (aP.add 0) .i64 fun aR=>
ldI h (aQ.add 0) .i64 fun aS=>
C s5 #[.int .i64 sx,.int .i64 aR,.int .i64 dx,.int .i64 aS,.int .i64 w] h (fun aT G=>
∃ (S:Int),∃ (q:Int),∃ (E:Int),aT = .tuple #[.int .i64 S,.int .i64 q,.int .i64 E]/\(
ptr src fun T=>
ptr m fun U=>
ldI G (T.add 1) .i64 fun V=>
ldI G (U.add 1) .i64 fun W=>
C s5 #[.int .i64 sy,.int .i64 V,.int .i64 dy,.int .i64 W,.int .i64 h'] G (fun X r=>
∃ (s:Int),∃ (t:Int),∃ (i:Int),X = .tuple #[.int .i64 s,.int .i64 t,.int .i64 i]/\(
fI (E == (0:Int)) (
K (.int .i64 0) r)<|
fI (i == (0:Int)) (
K (.int .i64 0) r)<|
C pC #[] r (fun Y u=>
∃ (H:Option Addr) (F P:Nat),Y = .slice H F P/\(
fW (0<=op/\op<(F:Int))<|
ptr H fun Z=>
ldV u (Z.add (op.toNat*1)) fun aa=>
ptr src fun ab=>
ldI u (ab.add 2) .i64 fun a=>
fW (0<=a/\a<=a/\a<=9223372036854775807/\((8:Nat):Int)*a<=281474976710656)<|
gE u (l9 [.int .u64 0] a.toNat) gj fun I ac=>
∃ v:Nat->List Value->Heap->Prop,(∃ j,v j [.int .i64 0] ac)/\∀ (j:Nat) (k:Heap) (aW:Nat->Value) (e:Int),v j [.int .i64 e] k->(
fI (decide (e<i)) (
∃ x:List Value->Heap->Prop,(
fI (decide (t > s)) (
fG (IntKind.i64.wrap (i-(1:Int))) fun ad=>
fG (IntKind.i64.wrap (ad-e)) fun ae=>
x [.int .i64 ae] k)<|
x [.int .i64 e] k)/\∀ (b:Heap) (aX:Nat->Value) (y:Int),x [.int .i64 y] b->(
fG (IntKind.i64.wrap (s+y)) fun af=>
ptr src fun ag=>
ldI b (ag.add 2) .i64 fun ah=>
fG (IntKind.i64.wrap (af*ah)) fun c=>
ptr src fun ai=>
ptr src fun aj=>
ptr src fun ak=>
ldS b (ai.add 3) fun al aU Q=>
ldI b (aj.add 2) .i64 fun am=>
fG (IntKind.i64.wrap (c+am)) fun l=>
ldI b (ak.add 2) .i64 fun an=>
fG (IntKind.i64.wrap (c+an)) fun n=>
fW (0<=n/\n<=((Q:Nat):Int))<|
fW (0<=l/\l<=((n.toNat:Nat):Int))<|
fW (0<=c/\c<=((l.toNat:Nat):Int))<|
S5 b 1 (some ⟨I,0,none⟩) (a.toNat) (we al (n.toNat) (c.toNat) 1) ((l.toNat-c.toNat)) fun aY ao=>
fG (IntKind.i64.wrap (q.tdiv (64:Int))) fun ap=>
∃ z:Nat->List Value->Heap->Prop,(∃ o,z o [.int .i64 ap] ao)/\∀ (o:Nat) (f:Heap) (aZ:Nat->Value) (d:Int),z o [.int .i64 d] f->(
fG (IntKind.i64.wrap (q+E)) fun aq=>
fG (IntKind.i64.wrap (aq-(1:Int))) fun ar=>
fG (IntKind.i64.wrap (ar.tdiv (64:Int))) fun au=>
fI (decide (d<=au)) (
ptr m fun av=>
fG (IntKind.i64.wrap (t+y)) fun aw=>
ptr m fun ax=>
ldS f (av.add 3) fun ay R aV=>
ldI f (ax.add 2) .i64 fun az=>
fG (IntKind.i64.wrap (aw*az)) fun aA=>
fG (IntKind.i64.wrap (aA+d)) fun g=>
fW (0<=g/\g<(R:Int))<|
ptr ay fun A=>
C pM #[.int .i64 d,.int .i64 q,.int .i64 E] f (fun aB p=>
∃ (B:Int),aB = .int .u64 B/\(
fG (IntKind.i64.wrap ((64:Int)*d)) fun aC=>
fG (IntKind.i64.wrap (S+aC)) fun aD=>
fG (IntKind.i64.wrap (aD-q)) fun aE=>
ldI p (A.add (g.toNat*1)) .u64 fun aF=>
fG (jo .andNot .u64 aF B) fun aG=>
ldI p (A.add (g.toNat*1)) .u64 fun aH=>
C pL #[.slice (some ⟨I,0,none⟩) a.toNat a.toNat,.int .i64 aE] p (fun aI D=>
∃ (J:Int),aI = .int .u64 J/\(
gi p D/\(
oy C (Kp) aa [.int .u64 aH,.int .u64 J] D fun aJ L=>
∃ (M:Int),aJ = .int .u64 M/\(
gi D L/\(
fG (jo .and .u64 M B) fun aK=>
fG (jo .or .u64 aG aK) fun aL=>
stV L (A.add (g.toNat*1)) (.int .u64 aL) fun aM=>
fG (IntKind.i64.wrap (d+(1:Int))) fun aN=>
∃ N,N<o/\z N [.int .i64 aN] aM))))) (Kp))) (Kp))<|
fG (IntKind.i64.wrap (e+(1:Int))) fun aO=>
∃ O,O<j/\v O [.int .i64 aO] f)))<|
K (.int .i64 0) k))) (Kp))) (Kp))) (Kp)
def sB (C:gl) (m:Option Addr) (h:Heap) (K:VK) (Kp:PK):Prop :=
gE h [.int .i64 0,.int .i64 0,.slice none 0 0] fK fun a c=>
ptr m fun s=>
ptr m fun t=>
ptr m fun u=>
ldI c (s.add 0) .i64 fun v=>
ldI c (t.add 1) .i64 fun w=>
ldS c (u.add 3) fun x k l=>
C jv #[.slice x k l] c (fun y f=>
∃ (g:Option Addr) (d e:Nat),y = .slice g d e/\(
gi c f/\(
stV f (.add ⟨a,0,none⟩ 0) (.int .i64 v) fun n=>
stV n (.add ⟨a,0,none⟩ 1) (.int .i64 w) fun o=>
stV o (.add ⟨a,0,none⟩ 2) (.slice g d e) fun b=>
ldI b (.add ⟨a,0,none⟩ 0) .i64 fun p=>
ldI b (.add ⟨a,0,none⟩ 1) .i64 fun q=>
ldS b (.add ⟨a,0,none⟩ 2) fun r i j=>
K (.agg #[.int .i64 p,.int .i64 q,.slice r i j]) b))) (Kp)
def yq (C:gl) (H I:Int) (J:Option Addr) (q r:Nat) (h:Heap) (K:VK) (Kp:PK):Prop :=
gE h [.int .i64 H,.int .i64 I,.slice J q r] fK fun b k=>
ldI k (.add ⟨b,0,none⟩ 0) .i64 fun L=>
ldI k (.add ⟨b,0,none⟩ 1) .i64 fun M=>
C rE #[.int .i64 L,.int .i64 M] k (fun N c=>
∃ (l:Bool),N = .bool l/\(
fI (!l) (
K (.bool false) c)<|
ldI c (.add ⟨b,0,none⟩ 0) .i64 fun s=>
fG (IntKind.i64.wrap (s+(63:Int))) fun t=>
fG (IntKind.i64.wrap (t.tdiv (64:Int))) fun f=>
ldS c (.add ⟨b,0,none⟩ 2) fun Q o O=>
ldI c (.add ⟨b,0,none⟩ 1) .i64 fun u=>
fG (IntKind.i64.wrap (u*f)) fun v=>
fI ((o:Int) != v) (
K (.bool false) c)<|
ldI c (.add ⟨b,0,none⟩ 1) .i64 fun w=>
∃ g:Nat->List Value->Heap->Prop,(∃ d,g d [.int .i64 0] c)/\∀ (d:Nat) (a:Heap) (R:Nat->Value) (e:Int),g d [.int .i64 e] a->(
fI (decide (e<w)) (
fG (IntKind.i64.wrap (e*f)) fun x=>
fG (IntKind.i64.wrap (x+f)) fun y=>
fG (IntKind.i64.wrap (y-(1:Int))) fun i=>
ldS a (.add ⟨b,0,none⟩ 2) fun z p P=>
fW (0<=i/\i<(p:Int))<|
ptr z fun A=>
ldI a (A.add (i.toNat*1)) .u64 fun B=>
ldI a (.add ⟨b,0,none⟩ 0) .i64 fun D=>
C wR #[.int .i64 D] a (fun E j=>
∃ (m:Int),E = .int .u64 m/\(
gi a j/\(
fG (jo .andNot .u64 B m) fun F=>
fI (F != (0:Int)) (
K (.bool false) j)<|
fG (IntKind.i64.wrap (e+(1:Int))) fun G=>
∃ n,n<d/\g n [.int .i64 G] j))) (Kp))<|
K (.bool true) a))) (Kp)
def yo (C:gl) (w h':Int) (h:Heap) (K:VK) (Kp:PK):Prop :=
fI (decide (w≥(1:Int))) (
fI (decide (h'≥(1:Int))) (
fI (decide (w<=(1048576:Int))) (
fI (decide (h'<=(1048576:Int))) (
fG (IntKind.i64.wrap (w*h')) fun z_1=>
K (.bool (decide (z_1<=(1048576:Int)))) h)<|
K (.bool false) h)<|
K (.bool false) h)<|
K (.bool false) h)<|
K (.bool false) h
def B9 (C:gl) (off n size:Int) (h:Heap) (K:VK) (Kp:PK):Prop :=
∃ a:List Value->Heap->Prop,(
fI (decide (n<=(0:Int))) (
a [.bool (decide (n<=(0:Int)))] h)<|
fI (decide (off≥size)) (
a [.bool (decide (off≥size))] h)<|
fG (IntKind.i64.wrap (0-n)) fun e=>
a [.bool (decide (off<=e))] h)/\∀ (b:Heap) (k:Nat->Value) (c:Bool),a [.bool c] b->(
fI c (
K (.tuple #[.int .i64 0,.int .i64 0]) b)<|
fI (decide (off≥(0:Int))) (
fG (IntKind.i64.wrap (size-off)) fun f=>
fG (JD n f) fun g=>
K (.tuple #[.int .i64 0,.int .i64 g]) b)<|
fG (IntKind.i64.wrap (0-off)) fun i=>
fG (IntKind.i64.wrap (n+off)) fun j=>
fG (JD j size) fun d=>
K (.tuple #[.int .i64 i,.int .i64 d]) b)
def Ad (C:gl) (i x n:Int) (h:Heap) (K:VK) (Kp:PK):Prop :=
fG (IntKind.i64.wrap ((64:Int)*i)) fun d=>
fG (IntKind.i64.wrap (x-d)) fun e=>
fG (Qy e (0:Int)) fun a=>
fG (IntKind.i64.wrap (x+n)) fun f=>
fG (IntKind.i64.wrap ((64:Int)*i)) fun g=>
fG (IntKind.i64.wrap (f-g)) fun j=>
fG (JD j (64:Int)) fun b=>
fW (0<=a)<|
fG (l8 .u64 (18446744073709551615:Int) a) fun k=>
fW (0<=b)<|
fG (l8 .u64 (18446744073709551615:Int) b) fun l=>
fG (jo .andNot .u64 k l) fun c=>
K (.int .u64 c) h
def Af (C:gl) (a asv b bs n:Int) (h:Heap) (K:VK) (Kp:PK):Prop :=
C o3 #[.int .i64 a,.int .i64 n,.int .i64 asv] h (fun l e=>
∃ (d:Int),∃ (f:Int),l = .tuple #[.int .i64 d,.int .i64 f]/\(
fI (f == (0:Int)) (
K (.tuple #[.int .i64 0,.int .i64 0,.int .i64 0]) e)<|
fG (IntKind.i64.wrap ((9223372036854775807:Int)-d)) fun m=>
fI (decide (b > m)) (
K (.tuple #[.int .i64 0,.int .i64 0,.int .i64 0]) e)<|
fG (IntKind.i64.wrap (a+d)) fun o=>
fG (IntKind.i64.wrap (b+d)) fun i=>
C o3 #[.int .i64 i,.int .i64 f,.int .i64 bs] e (fun p q=>
∃ (c:Int),∃ (g:Int),p = .tuple #[.int .i64 c,.int .i64 g]/\(
fG (IntKind.i64.wrap (o+c)) fun j=>
fG (IntKind.i64.wrap (i+c)) fun k=>
K (.tuple #[.int .i64 j,.int .i64 k,.int .i64 g]) q)) (Kp))) (Kp)
def qY (C:gl)  (h:Heap) (K:VK) (Kp:PK):Prop :=
gE h [.func (.func nJ) #[] #[],.func (.func nI) #[] #[],.func (.func nH) #[] #[],.func (.func nG) #[] #[],.func (.func nF) #[] #[]] jD fun a b=>
K (.slice (some ⟨a,0,none⟩) 5 5) b
def vP (C:gl) (row:Option Addr) (rown rowc:Nat) (x:Int) (h:Heap) (K:VK) (Kp:PK):Prop :=
fI (decide (x<(0:Int))) (
C pL #[.slice row rown rowc,.int .i64 0] h (fun s t=>
∃ (i:Int),s = .int .u64 i/\(
fG (IntKind.i64.wrap (0-x)) fun j=>
fW (0<=j)<|
fG (l8 .u64 i j) fun u=>
K (.int .u64 u) t)) (Kp))<|
fG (IntKind.i64.wrap (x.tdiv (64:Int))) fun a=>
fI (decide (a≥(rown:Int))) (
K (.int .u64 0) h)<|
fW (0<=a/\a<(rown:Int))<|
ptr row fun v=>
ldI h (v.add (a.toNat*1)) .u64 fun w=>
fG (x.tmod (64:Int)) fun k=>
fW (0<=k)<|
fG (lT .u64 w k) fun e=>
∃ c:List Value->Heap->Prop,(
fG (x.tmod (64:Int)) fun l=>
fI (decide (l > (0:Int))) (
fG (IntKind.i64.wrap (a+(1:Int))) fun m=>
c [.bool (decide (m<(rown:Int)))] h)<|
c [.bool false] h)/\∀ (b:Heap) (y:Nat->Value) (f:Bool),c [.bool f] b->(
fI f (
fG (IntKind.i64.wrap (a+(1:Int))) fun d=>
fW (0<=d/\d<(rown:Int))<|
ptr row fun n=>
ldI b (n.add (d.toNat*1)) .u64 fun o=>
fG (x.tmod (64:Int)) fun p=>
fG (IntKind.i64.wrap ((64:Int)-p)) fun g=>
fW (0<=g)<|
fG (l8 .u64 o g) fun q=>
fG (jo .or .u64 e q) fun r=>
K (.int .u64 r) b)<|
K (.int .u64 e) b)
def Ae (C:gl) (w:Int) (h:Heap) (K:VK) (Kp:PK):Prop :=
fG (w.tmod (64:Int)) fun b=>
fG (IntKind.i64.wrap ((64:Int)-b)) fun c=>
fG (c.tmod (64:Int)) fun a=>
fW (0<=a)<|
fG (lT .u64 (18446744073709551615:Int) a) fun d=>
K (.int .u64 d) h
def oH (C:gl) (d s:Int) (h:Heap) (K:VK) (Kp:PK):Prop :=
fG (jo .or .u64 d s) fun z_1=>
K (.int .u64 z_1) h
def oG (C:gl) (d s:Int) (h:Heap) (K:VK) (Kp:PK):Prop :=
fG (jo .and .u64 d s) fun z_1=>
K (.int .u64 z_1) h
def oF (C:gl) (d s:Int) (h:Heap) (K:VK) (Kp:PK):Prop :=
fG (jo .xor .u64 d s) fun z_1=>
K (.int .u64 z_1) h
def oE (C:gl) (d s:Int) (h:Heap) (K:VK) (Kp:PK):Prop :=
fG (jo .xor .u64 d s) fun a=>
fG (jo .xor .u64 IntKind.u64.max a) fun b=>
K (.int .u64 b) h
def oD (C:gl) (d s:Int) (h:Heap) (K:VK) (Kp:PK):Prop :=
K (.int .u64 s) h
def yp (C:gl) (N O:Int) (P:Option Addr) (r s:Nat) (Q R:Int) (S:Option Addr) (t u:Nat) (h:Heap) (K:VK) (Kp:PK):Prop :=
gE h [.int .i64 N,.int .i64 O,.slice P r s] fK fun c T=>
gE T [.int .i64 Q,.int .i64 R,.slice S t u] fK fun d e=>
ldI e (.add ⟨c,0,none⟩ 0) .i64 fun v=>
ldI e (.add ⟨c,0,none⟩ 1) .i64 fun w=>
ldS e (.add ⟨c,0,none⟩ 2) fun x j k=>
C lX #[.agg #[.int .i64 v,.int .i64 w,.slice x j k]] e (fun y b=>
∃ (f:Bool),y = .bool f/\(
fI f (
ldI b (.add ⟨d,0,none⟩ 0) .i64 fun z=>
ldI b (.add ⟨d,0,none⟩ 1) .i64 fun A=>
ldS b (.add ⟨d,0,none⟩ 2) fun B l m=>
C lX #[.agg #[.int .i64 z,.int .i64 A,.slice B l m]] b (fun D a=>
∃ (g:Bool),D = .bool g/\(
fI g (
ldI a (.add ⟨c,0,none⟩ 0) .i64 fun E=>
ldI a (.add ⟨d,0,none⟩ 0) .i64 fun F=>
fI (E == F) (
ldI a (.add ⟨c,0,none⟩ 1) .i64 fun G=>
ldI a (.add ⟨d,0,none⟩ 1) .i64 fun H=>
fI (G == H) (
ldS a (.add ⟨c,0,none⟩ 2) fun I n o=>
ldS a (.add ⟨d,0,none⟩ 2) fun J p q=>
C l6 #[.slice I n o,.slice J p q] a (fun L M=>
∃ (i:Bool),L = .bool i/\(
K (.bool i) M)) (Kp))<|
K (.bool false) a)<|
K (.bool false) a)<|
K (.bool false) a)) (Kp))<|
K (.bool false) b)) (Kp)
def tP (C:gl) (m:Option Addr) (h:Heap) (K:VK) (Kp:PK):Prop :=
ptr m fun a=>
ptr m fun b=>
ldI h (a.add 0) .i64 fun c=>
ldI h (b.add 1) .i64 fun d=>
K (.tuple #[.int .i64 c,.int .i64 d]) h
def vh (C:gl) (m:Option Addr) (x y:Int) (h:Heap) (K:VK) (Kp:PK):Prop :=
C m6 #[.pointer m,.int .i64 x,.int .i64 y] h (fun o a=>
∃ (c:Bool),o = .bool c/\(
fI (!c) (
K (.int .i64 0) a)<|
ptr m fun p=>
ptr m fun q=>
fG (IntKind.i64.wrap (x.tdiv (64:Int))) fun r=>
fG (x.tmod (64:Int)) fun s=>
fG (IntKind.i64.wrap ((63:Int)-s)) fun d=>
ldS a (p.add 3) fun t e u=>
ldI a (q.add 2) .i64 fun f=>
fG (IntKind.i64.wrap (y*f)) fun g=>
fG (IntKind.i64.wrap (g+r)) fun b=>
fW (0<=b/\b<(e:Int))<|
ptr t fun i=>
ldI a (i.add (b.toNat*1)) .u64 fun j=>
fW (0<=d)<|
fG (l8 .u64 j d) fun k=>
fG (jo .and .u64 k (1:Int)) fun l=>
fG (IntKind.i64.wrap l) fun n=>
K (.int .i64 n) a)) (Kp)
def vg (C:gl) (m:Option Addr) (x y bit:Int) (h:Heap) (K:VK) (Kp:PK):Prop :=
C m6 #[.pointer m,.int .i64 x,.int .i64 y] h (fun c a=>
∃ (b:Bool),c = .bool b/\(
fI (!b) (
K (.int .i64 22) a)<|
fI (bit != (0:Int)) (
fI (bit != (1:Int)) (
K (.int .i64 23) a)<|
C o4 #[.pointer m,.int .i64 x,.int .i64 y,.int .i64 bit] a (fun f d=>
K (.int .i64 0) d) (Kp))<|
C o4 #[.pointer m,.int .i64 x,.int .i64 y,.int .i64 bit] a (fun g e=>
K (.int .i64 0) e) (Kp))) (Kp)
def qZ (C:gl) (m:Option Addr) (x y:Int) (h:Heap) (K:VK) (Kp:PK):Prop :=
fI (decide (x≥(0:Int))) (
ptr m fun a=>
ldI h (a.add 0) .i64 fun b=>
fI (decide (x<b)) (
fI (decide (y≥(0:Int))) (
ptr m fun c=>
ldI h (c.add 1) .i64 fun d=>
K (.bool (decide (y<d))) h)<|
K (.bool false) h)<|
K (.bool false) h)<|
K (.bool false) h
def vf (C:gl) (m:Option Addr) (x y bit:Int) (h:Heap) (K:VK) (Kp:PK):Prop :=
ptr m fun p=>
ptr m fun q=>
fG (IntKind.i64.wrap (x.tdiv (64:Int))) fun r=>
ldS h (p.add 3) fun s e w=>
ldI h (q.add 2) .i64 fun t=>
fG (IntKind.i64.wrap (y*t)) fun u=>
fG (IntKind.i64.wrap (u+r)) fun a=>
fW (0<=a/\a<(e:Int))<|
ptr s fun d=>
fG (x.tmod (64:Int)) fun v=>
fG (IntKind.i64.wrap ((63:Int)-v)) fun b=>
fW (0<=b)<|
fG (lT .u64 (1:Int) b) fun f=>
fG (IntKind.u64.wrap bit) fun g=>
fG (x.tmod (64:Int)) fun i=>
fG (IntKind.i64.wrap ((63:Int)-i)) fun c=>
fW (0<=c)<|
fG (lT .u64 g c) fun j=>
ldI h (d.add (a.toNat*1)) .u64 fun k=>
fG (jo .andNot .u64 k f) fun l=>
fG (jo .or .u64 l j) fun n=>
stV h (d.add (a.toNat*1)) (.int .u64 n) fun o=>
K (.tuple #[]) o
theorem EL {w h':Int} {h:Heap} {K:VK} {Kp:PK} (H:Ca QP w h' h K Kp):QP rF #[.int .i64 w,.int .i64 h'] h K Kp :=
 fJ (Hints.mk (fun i=>none) (fun i=>none) (fun i=>none) []) (by kernel_rfl) Go.Proofs.Tryz.func58 (by kernel_rfl) (fun C=>Ca C w h' h K Kp) (fun C=>by kernel_rfl) H
theorem zZ {m:Option Addr} {x y w h' bit:Int} {h:Heap} {K:VK} {Kp:PK} (H:tQ QP m x y w h' bit h K Kp):QP rH #[.pointer m,.int .i64 x,.int .i64 y,.int .i64 w,.int .i64 h',.int .i64 bit] h K Kp :=
 fJ (Hints.mk (fun i=>bif Nat.beq i 17 then some ([20],.take 0 <| .take 1 <| .take 2 <| .take 4 <| .take 5 <| .take 6 <| .take 7 <| .take 10 <| .take 14 <| .take 15 <| .take 16 <| .take 3 <| .take 8 <| .take 9 <| .take 11 <| .take 12 <| .take 13 <| .go 17 <| .take 18 <| .take 19 <| .bar 20 [] <| .done) else (bif Nat.beq i 19 then some ([20],.take 0 <| .take 1 <| .take 2 <| .take 4 <| .take 5 <| .take 6 <| .take 7 <| .take 10 <| .take 14 <| .take 15 <| .take 16 <| .take 3 <| .take 8 <| .take 9 <| .take 11 <| .take 12 <| .take 13 <| .go 17 <| .take 18 <| .take 19 <| .bar 20 [] <| .done) else (none))) (fun i=>bif Nat.beq i 12 then some ([(16,.int .i64)],42535295865117307896028337781552119808) else (bif Nat.beq i 15 then some ([(17,.int .i64)],42535295865117289043455894450390302720) else (none))) (fun i=>bif Nat.beq i 5 then some ([],4294709248) else (none)) []) (by kernel_rfl) Go.Proofs.Tryz.func59 (by kernel_rfl) (fun C=>tQ C m x y w h' bit h K Kp) (fun C=>by kernel_rfl) H
theorem DY {c d:Int} {e:Option Addr} {a b:Nat} {h:Heap} {K:VK} {Kp:PK} (H:Ag QP c d e a b h K Kp):QP nW #[.agg #[.int .i64 c,.int .i64 d,.slice e a b]] h K Kp :=
 fJ (Hints.mk (fun i=>bif Nat.beq i 3 then some ([12],.take 0 <| .take 2 <| .take 4 <| .take 8 <| .take 1 <| .take 3 <| .take 5 <| .take 6 <| .take 7 <| .take 9 <| .go 10 <| .take 11 <| .bar 12 [] <| .take 13 <| .take 14 <| .done) else (none)) (fun i=>none) (fun i=>none) []) (by kernel_rfl) Go.Proofs.Tryz.func60 (by kernel_rfl) (fun C=>Ag C c d e a b h K Kp) (fun C=>by kernel_rfl) H
theorem z4 {m src:Option Addr} {sx sy w h' dx dy op:Int} {h:Heap} {K:VK} {Kp:PK} (H:tR QP m src sx sy w h' dx dy op h K Kp):QP rI #[.pointer m,.pointer src,.int .i64 sx,.int .i64 sy,.int .i64 w,.int .i64 h',.int .i64 dx,.int .i64 dy,.int .i64 op] h K Kp :=
 fJ (Hints.mk (fun i=>bif Nat.beq i 7 then some ([11],.take 0 <| .take 1 <| .take 2 <| .take 3 <| .take 5 <| .take 6 <| .take 7 <| .take 8 <| .take 10 <| .take 4 <| .take 9 <| .bar 11 [] <| .take 12 <| .take 13 <| .take 14 <| .take 15 <| .take 16 <| .take 17 <| .take 18 <| .done) else (bif Nat.beq i 8 then some ([11],.take 0 <| .take 1 <| .take 2 <| .take 3 <| .take 5 <| .take 6 <| .take 7 <| .take 8 <| .take 10 <| .take 4 <| .take 9 <| .bar 11 [] <| .take 12 <| .take 13 <| .take 14 <| .take 15 <| .take 16 <| .take 17 <| .take 18 <| .done) else (bif Nat.beq i 19 then some ([19],.take 0 <| .take 1 <| .take 2 <| .take 3 <| .take 5 <| .take 6 <| .take 7 <| .take 8 <| .take 9 <| .take 12 <| .take 13 <| .take 14 <| .take 15 <| .take 4 <| .take 10 <| .take 11 <| .take 16 <| .take 17 <| .take 18 <| .bar 19 [] <| .done) else (bif Nat.beq i 23 then some ([],.take 0 <| .take 1 <| .take 2 <| .take 4 <| .take 5 <| .take 6 <| .take 7 <| .take 8 <| .take 9 <| .take 12 <| .take 3 <| .take 10 <| .take 11 <| .take 13 <| .take 14 <| .take 15 <| .done) else (bif Nat.beq i 25 then some ([23],.take 0 <| .take 1 <| .take 2 <| .take 4 <| .take 6 <| .take 7 <| .take 8 <| .take 10 <| .take 11 <| .take 12 <| .take 13 <| .take 14 <| .take 15 <| .take 16 <| .take 19 <| .take 3 <| .take 5 <| .take 9 <| .go 17 <| .go 18 <| .take 20 <| .take 21 <| .take 22 <| .bar 23 [] <| .done) else (none)))))) (fun i=>bif Nat.beq i 14 then some ([(91,.int .i64)],12259964326927110866866776214726593390379152427735580672) else (bif Nat.beq i 21 then some ([(23,.int .i64)],6129982163463552711174452741093529027478097034647437312) else (none))) (fun i=>bif Nat.beq i 18 then some ([(21,.int .i64)],2515494159827892718595022520320) else (none)) []) (by kernel_rfl) Go.Proofs.Tryz.func61 (by kernel_rfl) (fun C=>tR C m src sx sy w h' dx dy op h K Kp) (fun C=>by kernel_rfl) H
theorem yY {m:Option Addr} {h:Heap} {K:VK} {Kp:PK} (H:sB QP m h K Kp):QP nK #[.pointer m] h K Kp :=
 fJ (Hints.mk (fun i=>bif Nat.beq i 1 then some ([14],.take 0 <| .take 1 <| .take 2 <| .take 4 <| .take 5 <| .take 6 <| .take 8 <| .take 9 <| .take 10 <| .take 3 <| .take 7 <| .take 11 <| .go 12 <| .take 13 <| .bar 14 [] <| .done) else (none)) (fun i=>none) (fun i=>none) []) (by kernel_rfl) Go.Proofs.Tryz.func62 (by kernel_rfl) (fun C=>sB C m h K Kp) (fun C=>by kernel_rfl) H
theorem CX {c d:Int} {e:Option Addr} {a b:Nat} {h:Heap} {K:VK} {Kp:PK} (H:yq QP c d e a b h K Kp):QP lX #[.agg #[.int .i64 c,.int .i64 d,.slice e a b]] h K Kp :=
 fJ (Hints.mk (fun i=>bif Nat.beq i 9 then some ([],.take 0 <| .take 2 <| .take 3 <| .take 4 <| .take 5 <| .take 6 <| .take 7 <| .take 10 <| .take 1 <| .take 8 <| .take 9 <| .take 11 <| .go 12 <| .take 13 <| .take 14 <| .done) else (none)) (fun i=>bif Nat.beq i 7 then some ([(25,.int .i64)],17592152490004) else (none)) (fun i=>none) []) (by kernel_rfl) Go.Proofs.Tryz.func76 (by kernel_rfl) (fun C=>yq C c d e a b h K Kp) (fun C=>by kernel_rfl) H
theorem CV {w h':Int} {h:Heap} {K:VK} {Kp:PK} (H:yo QP w h' h K Kp):QP rE #[.int .i64 w,.int .i64 h'] h K Kp :=
 fJ (Hints.mk (fun i=>none) (fun i=>none) (fun i=>none) []) (by kernel_rfl) Go.Proofs.Tryz.func109 (by kernel_rfl) (fun C=>yo C w h' h K Kp) (fun C=>by kernel_rfl) H
theorem EK {off n size:Int} {h:Heap} {K:VK} {Kp:PK} (H:B9 QP off n size h K Kp):QP o3 #[.int .i64 off,.int .i64 n,.int .i64 size] h K Kp :=
 fJ (Hints.mk (fun i=>none) (fun i=>none) (fun i=>bif Nat.beq i 4 then some ([(8,.bool)],261888) else (none)) []) (by kernel_rfl) Go.Proofs.Tryz.func110 (by kernel_rfl) (fun C=>B9 C off n size h K Kp) (fun C=>by kernel_rfl) H
theorem DV {i x n:Int} {h:Heap} {K:VK} {Kp:PK} (H:Ad QP i x n h K Kp):QP pM #[.int .i64 i,.int .i64 x,.int .i64 n] h K Kp :=
 fJ (Hints.mk (fun i=>bif Nat.beq i 2 then some ([],.take 0 <| .take 1 <| .take 2 <| .take 3 <| .take 4 <| .take 5 <| .done) else (none)) (fun i=>none) (fun i=>none) []) (by kernel_rfl) Go.Proofs.Tryz.func111 (by kernel_rfl) (fun C=>Ad C i x n h K Kp) (fun C=>by kernel_rfl) H
theorem DX {a asv b bs n:Int} {h:Heap} {K:VK} {Kp:PK} (H:Af QP a asv b bs n h K Kp):QP s5 #[.int .i64 a,.int .i64 asv,.int .i64 b,.int .i64 bs,.int .i64 n] h K Kp :=
 fJ (Hints.mk (fun i=>none) (fun i=>none) (fun i=>none) []) (by kernel_rfl) Go.Proofs.Tryz.func112 (by kernel_rfl) (fun C=>Af C a asv b bs n h K Kp) (fun C=>by kernel_rfl) H
theorem yf  {h:Heap} {K:VK} {Kp:PK} (H:qY QP  h K Kp):QP pC #[] h K Kp :=
 fJ (Hints.mk (fun i=>none) (fun i=>none) (fun i=>none) []) (by kernel_rfl) Go.Proofs.Tryz.func113 (by kernel_rfl) (fun C=>qY C  h K Kp) (fun C=>by kernel_rfl) H
theorem xo {row:Option Addr} {rown rowc:Nat} {x:Int} {h:Heap} {K:VK} {Kp:PK} (H:vP QP row rown rowc x h K Kp):QP pL #[.slice row rown rowc,.int .i64 x] h K Kp :=
 fJ (Hints.mk (fun i=>none) (fun i=>none) (fun i=>bif Nat.beq i 8 then some ([(36,.bool)],137304735744) else (none)) []) (by kernel_rfl) Go.Proofs.Tryz.func114 (by kernel_rfl) (fun C=>vP C row rown rowc x h K Kp) (fun C=>by kernel_rfl) H
theorem DW {w:Int} {h:Heap} {K:VK} {Kp:PK} (H:Ae QP w h K Kp):QP wR #[.int .i64 w] h K Kp :=
 fJ (Hints.mk (fun i=>none) (fun i=>none) (fun i=>none) []) (by kernel_rfl) Go.Proofs.Tryz.func119 (by kernel_rfl) (fun C=>Ae C w h K Kp) (fun C=>by kernel_rfl) H
theorem vC {d s:Int} {h:Heap} {K:VK} {Kp:PK} (H:oH QP d s h K Kp):QP nJ #[.int .u64 d,.int .u64 s] h K Kp :=
 fJ (Hints.mk (fun i=>none) (fun i=>none) (fun i=>none) []) (by kernel_rfl) Go.Proofs.Tryz.func158 (by kernel_rfl) (fun C=>oH C d s h K Kp) (fun C=>by kernel_rfl) H
theorem vB {d s:Int} {h:Heap} {K:VK} {Kp:PK} (H:oG QP d s h K Kp):QP nI #[.int .u64 d,.int .u64 s] h K Kp :=
 fJ (Hints.mk (fun i=>none) (fun i=>none) (fun i=>none) []) (by kernel_rfl) Go.Proofs.Tryz.func159 (by kernel_rfl) (fun C=>oG C d s h K Kp) (fun C=>by kernel_rfl) H
theorem vA {d s:Int} {h:Heap} {K:VK} {Kp:PK} (H:oF QP d s h K Kp):QP nH #[.int .u64 d,.int .u64 s] h K Kp :=
 fJ (Hints.mk (fun i=>none) (fun i=>none) (fun i=>none) []) (by kernel_rfl) Go.Proofs.Tryz.func160 (by kernel_rfl) (fun C=>oF C d s h K Kp) (fun C=>by kernel_rfl) H
theorem vz {d s:Int} {h:Heap} {K:VK} {Kp:PK} (H:oE QP d s h K Kp):QP nG #[.int .u64 d,.int .u64 s] h K Kp :=
 fJ (Hints.mk (fun i=>none) (fun i=>none) (fun i=>none) []) (by kernel_rfl) Go.Proofs.Tryz.func161 (by kernel_rfl) (fun C=>oE C d s h K Kp) (fun C=>by kernel_rfl) H
theorem vy {d s:Int} {h:Heap} {K:VK} {Kp:PK} (H:oD QP d s h K Kp):QP nF #[.int .u64 d,.int .u64 s] h K Kp :=
 fJ (Hints.mk (fun i=>none) (fun i=>none) (fun i=>none) []) (by kernel_rfl) Go.Proofs.Tryz.func162 (by kernel_rfl) (fun C=>oD C d s h K Kp) (fun C=>by kernel_rfl) H
theorem CW {e f:Int} {g:Option Addr} {a b:Nat} {j k:Int} {l:Option Addr} {c d:Nat} {h:Heap} {K:VK} {Kp:PK} (H:yp QP e f g a b j k l c d h K Kp):QP rJ #[.agg #[.int .i64 e,.int .i64 f,.slice g a b],.agg #[.int .i64 j,.int .i64 k,.slice l c d]] h K Kp :=
 fJ (Hints.mk (fun i=>none) (fun i=>none) (fun i=>none) []) (by kernel_rfl) Go.Proofs.Tryz.func171 (by kernel_rfl) (fun C=>yp C e f g a b j k l c d h K Kp) (fun C=>by kernel_rfl) H
theorem zY {m:Option Addr} {h:Heap} {K:VK} {Kp:PK} (H:tP QP m h K Kp):QP rG #[.pointer m] h K Kp :=
 fJ (Hints.mk (fun i=>bif Nat.beq i 1 then some ([],.take 0 <| .take 1 <| .take 2 <| .take 4 <| .take 5 <| .take 6 <| .take 3 <| .take 8 <| .take 7 <| .take 9 <| .done) else (none)) (fun i=>none) (fun i=>none) []) (by kernel_rfl) Go.Proofs.Tryz.func201 (by kernel_rfl) (fun C=>tP C m h K Kp) (fun C=>by kernel_rfl) H
theorem A9 {m:Option Addr} {x y:Int} {h:Heap} {K:VK} {Kp:PK} (H:vh QP m x y h K Kp):QP o5 #[.pointer m,.int .i64 x,.int .i64 y] h K Kp :=
 fJ (Hints.mk (fun i=>bif Nat.beq i 3 then some ([],.take 0 <| .take 1 <| .take 2 <| .take 4 <| .take 5 <| .take 6 <| .take 7 <| .take 10 <| .take 11 <| .take 15 <| .take 16 <| .take 17 <| .take 3 <| .take 8 <| .take 9 <| .take 12 <| .take 13 <| .take 14 <| .take 18 <| .take 19 <| .take 20 <| .take 21 <| .done) else (none)) (fun i=>none) (fun i=>none) []) (by kernel_rfl) Go.Proofs.Tryz.func203 (by kernel_rfl) (fun C=>vh C m x y h K Kp) (fun C=>by kernel_rfl) H
theorem A8 {m:Option Addr} {x y bit:Int} {h:Heap} {K:VK} {Kp:PK} (H:vg QP m x y bit h K Kp):QP sO #[.pointer m,.int .i64 x,.int .i64 y,.int .i64 bit] h K Kp :=
 fJ (Hints.mk (fun i=>none) (fun i=>none) (fun i=>none) []) (by kernel_rfl) Go.Proofs.Tryz.func205 (by kernel_rfl) (fun C=>vg C m x y bit h K Kp) (fun C=>by kernel_rfl) H
theorem yg {m:Option Addr} {x y:Int} {h:Heap} {K:VK} {Kp:PK} (H:qZ QP m x y h K Kp):QP m6 #[.pointer m,.int .i64 x,.int .i64 y] h K Kp :=
 fJ (Hints.mk (fun i=>none) (fun i=>none) (fun i=>none) []) (by kernel_rfl) Go.Proofs.Tryz.func208 (by kernel_rfl) (fun C=>qZ C m x y h K Kp) (fun C=>by kernel_rfl) H
theorem A7 {m:Option Addr} {x y bit:Int} {h:Heap} {K:VK} {Kp:PK} (H:vf QP m x y bit h K Kp):QP o4 #[.pointer m,.int .i64 x,.int .i64 y,.int .i64 bit] h K Kp :=
 fJ (Hints.mk (fun i=>bif Nat.beq i 0 then some ([],.take 0 <| .take 1 <| .take 2 <| .take 4 <| .take 5 <| .take 6 <| .take 7 <| .take 10 <| .take 11 <| .take 3 <| .take 8 <| .take 9 <| .take 12 <| .take 13 <| .take 14 <| .done) else (bif Nat.beq i 1 then some ([17],.take 0 <| .take 1 <| .take 2 <| .take 4 <| .take 5 <| .take 6 <| .take 7 <| .take 9 <| .take 10 <| .take 11 <| .take 12 <| .take 13 <| .take 14 <| .take 3 <| .take 8 <| .take 15 <| .take 16 <| .bar 17 [] <| .done) else (none))) (fun i=>none) (fun i=>none) []) (by kernel_rfl) Go.Proofs.Tryz.func209 (by kernel_rfl) (fun C=>vf C m x y bit h K Kp) (fun C=>by kernel_rfl) H
def p7 (C:gl) (a7 a8 a9 ba bb:Int) (bc:Bool) (bd be:Int) (bf:Option Addr) (O P:Nat) (h:Heap) (K:VK) (Kp:PK):Prop :=
gE h [.int .i64 a7,.int .i64 a8,.int .i64 a9,.int .i64 ba,.int .i64 bb,.bool bc,.int .i64 bd,.int .i64 be,.slice bf O P] fR fun e Q=>
gE Q [.int .i64 0,.int .i64 0,.int .i64 0,.int .i64 0,.int .i64 0,.bool false,.int .i64 0,.int .i64 0,.slice none 0 0] fR fun f g=>
ldI g (.add ⟨e,0,none⟩ 0) .i64 fun R=>
ldI g (.add ⟨e,0,none⟩ 1) .i64 fun S=>
ldI g (.add ⟨e,0,none⟩ 2) .i64 fun T=>
ldI g (.add ⟨e,0,none⟩ 3) .i64 fun U=>
ldI g (.add ⟨e,0,none⟩ 4) .i64 fun V=>
ldB g (.add ⟨e,0,none⟩ 5) fun W=>
ldI g (.add ⟨e,0,none⟩ 6) .i64 fun X=>
ldI g (.add ⟨e,0,none⟩ 7) .i64 fun Y=>
ldS g (.add ⟨e,0,none⟩ 8) fun Z u v=>
gE g [.int .i64 0,.int .i64 0,.int .i64 0,.int .i64 0,.int .i64 0,.bool false,.int .i64 0,.int .i64 0,.slice none 0 0] fR fun c aa=>
qH aa (⟨c,0,none⟩:Addr) 0 [.int .i64 R,.int .i64 S,.int .i64 T,.int .i64 U,.int .i64 V,.bool W,.int .i64 X,.int .i64 Y,.slice Z u v] fun ab=>
stV ab (.add ⟨c,0,none⟩ 8) (.slice none 0 0) fun ac=>
∃ n:Nat->List Value->Heap->Prop,(∃ l,n l [.int .i64 0] ac)/\∀ (l:Nat) (a:Heap) (bi:Nat->Value) (d:Int),n l [.int .i64 d] a->(
ldS a (.add ⟨e,0,none⟩ 8) fun bj w bg=>
fI (decide (d<(w:Int))) (
ldS a (.add ⟨e,0,none⟩ 8) fun ad x bh=>
fW (0<=d/\d<(x:Int))<|
ptr ad fun k=>
ldI a ((k.add (d.toNat*7)).add 0) .i64 fun ae=>
ldI a ((k.add (d.toNat*7)).add 1) .i64 fun af=>
ldI a ((k.add (d.toNat*7)).add 2) .i64 fun ag=>
ldB a ((k.add (d.toNat*7)).add 3) fun ah=>
ldI a ((k.add (d.toNat*7)).add 4) .i64 fun ai=>
ldI a ((k.add (d.toNat*7)).add 5) .i64 fun aj=>
ldS a ((k.add (d.toNat*7)).add 6) fun ak y z=>
gE a [.int .i64 0,.int .i64 0,.int .i64 0,.bool false,.int .i64 0,.int .i64 0,.slice none 0 0] fM fun b al=>
stV al (.add ⟨b,0,none⟩ 0) (.int .i64 ae) fun am=>
stV am (.add ⟨b,0,none⟩ 1) (.int .i64 af) fun an=>
stV an (.add ⟨b,0,none⟩ 2) (.int .i64 ag) fun ao=>
stV ao (.add ⟨b,0,none⟩ 3) (.bool ah) fun ap=>
stV ap (.add ⟨b,0,none⟩ 4) (.int .i64 ai) fun aq=>
stV aq (.add ⟨b,0,none⟩ 5) (.int .i64 aj) fun ar=>
stV ar (.add ⟨b,0,none⟩ 6) (.slice ak y z) fun m=>
ldI m (((⟨b,0,none⟩:Addr).add 4).add 0) .i64 fun au=>
ldI m (((⟨b,0,none⟩:Addr).add 4).add 1) .i64 fun av=>
ldS m (((⟨b,0,none⟩:Addr).add 4).add 2) fun aw A B=>
C mg #[.agg #[.int .i64 au,.int .i64 av,.slice aw A B]] m (fun ax ay=>
∃ (q r:Int) (s:Option Addr) (o p:Nat),ax = .agg #[.int .i64 q,.int .i64 r,.slice s o p]/\(
stV ay (((⟨b,0,none⟩:Addr).add 4).add 0) (.int .i64 q) fun az=>
stV az (((⟨b,0,none⟩:Addr).add 4).add 1) (.int .i64 r) fun aA=>
stV aA (((⟨b,0,none⟩:Addr).add 4).add 2) (.slice s o p) fun j=>
ldS j (.add ⟨c,0,none⟩ 8) fun aB D E=>
ldI j (.add ⟨b,0,none⟩ 0) .i64 fun aC=>
ldI j (.add ⟨b,0,none⟩ 1) .i64 fun aD=>
ldI j (.add ⟨b,0,none⟩ 2) .i64 fun aE=>
ldB j (.add ⟨b,0,none⟩ 3) fun aF=>
ldI j (.add ⟨b,0,none⟩ 4) .i64 fun aG=>
ldI j (.add ⟨b,0,none⟩ 5) .i64 fun aH=>
ldS j (.add ⟨b,0,none⟩ 6) fun aI F G=>
gE j [.int .i64 aC,.int .i64 aD,.int .i64 aE,.bool aF,.int .i64 aG,.int .i64 aH,.slice aI F G] fM fun aJ aK=>
l4 aK fM 7 72 [.int .i64 0,.int .i64 0,.int .i64 0,.bool false,.int .i64 0,.int .i64 0,.slice none 0 0] aB (D) (E) (some ⟨aJ,0,none⟩) (1) fun aL H I aM=>
stV aM (.add ⟨c,0,none⟩ 8) (.slice aL H I) fun aN=>
fG (IntKind.i64.wrap (d+(1:Int))) fun aO=>
∃ t,t<l/\n t [.int .i64 aO] aN)) (Kp))<|
ldI a (.add ⟨c,0,none⟩ 0) .i64 fun aP=>
ldI a (.add ⟨c,0,none⟩ 1) .i64 fun aQ=>
ldI a (.add ⟨c,0,none⟩ 2) .i64 fun aR=>
ldI a (.add ⟨c,0,none⟩ 3) .i64 fun aS=>
ldI a (.add ⟨c,0,none⟩ 4) .i64 fun aT=>
ldB a (.add ⟨c,0,none⟩ 5) fun aU=>
ldI a (.add ⟨c,0,none⟩ 6) .i64 fun aV=>
ldI a (.add ⟨c,0,none⟩ 7) .i64 fun aW=>
ldS a (.add ⟨c,0,none⟩ 8) fun aX J L=>
qH a (⟨f,0,none⟩:Addr) 0 [.int .i64 aP,.int .i64 aQ,.int .i64 aR,.int .i64 aS,.int .i64 aT,.bool aU,.int .i64 aV,.int .i64 aW,.slice aX J L] fun i=>
ldI i (.add ⟨f,0,none⟩ 0) .i64 fun aY=>
ldI i (.add ⟨f,0,none⟩ 1) .i64 fun aZ=>
ldI i (.add ⟨f,0,none⟩ 2) .i64 fun a0=>
ldI i (.add ⟨f,0,none⟩ 3) .i64 fun a1=>
ldI i (.add ⟨f,0,none⟩ 4) .i64 fun a2=>
ldB i (.add ⟨f,0,none⟩ 5) fun a3=>
ldI i (.add ⟨f,0,none⟩ 6) .i64 fun a4=>
ldI i (.add ⟨f,0,none⟩ 7) .i64 fun a5=>
ldS i (.add ⟨f,0,none⟩ 8) fun a6 M N=>
K (.agg #[.int .i64 aY,.int .i64 aZ,.int .i64 a0,.int .i64 a1,.int .i64 a2,.bool a3,.int .i64 a4,.int .i64 a5,.slice a6 M N]) i)
def n8 (C:gl) (l:Option Addr) (ln lc:Nat) (h:Heap) (K:VK) (Kp:PK):Prop :=
∃ j:Nat->List Value->Heap->Prop,(∃ f,j f [.slice none 0 0,.int .i64 0] h)/\∀ (f:Nat) (d:Heap) (F:Nat->Value) (e:Option Addr) (b c:Nat) (a:Int),j f [.slice e b c,.int .i64 a] d->(
fI (decide (a<(ln:Int))) (
fW (0<=a/\a<(ln:Int))<|
ptr l fun k=>
ldI d ((k.add (a.toNat*3)).add 0) .i64 fun E=>
ldI d ((k.add (a.toNat*3)).add 1) .i64 fun u=>
ldS d ((k.add (a.toNat*3)).add 2) fun v p q=>
C mg #[.agg #[.int .i64 E,.int .i64 u,.slice v p q]] d (fun w x=>
∃ (m n:Int) (o:Option Addr) (g i:Nat),w = .agg #[.int .i64 m,.int .i64 n,.slice o g i]/\(
gE x [.int .i64 m,.int .i64 n,.slice o g i] fK fun y z=>
l4 z fK 3 40 [.int .i64 0,.int .i64 0,.slice none 0 0] e (b) (c) (some ⟨y,0,none⟩) (1) fun A r s B=>
fG (IntKind.i64.wrap (a+(1:Int))) fun D=>
∃ t,t<f/\j t [.slice A r s,.int .i64 D] B)) (Kp))<|
K (.slice e b c) d)
def yl (C:gl) (a:Option Addr) (an ac:Nat) (b:Option Addr) (bn bc:Nat) (h:Heap) (K:VK) (Kp:PK):Prop :=
fI ((an:Int) != (bn:Int)) (
K (.bool false) h)<|
∃ f:Nat->List Value->Heap->Prop,(∃ e,f e [.int .i64 0] h)/\∀ (e:Nat) (d:Heap) (n:Nat->Value) (c:Int),f e [.int .i64 c] d->(
fI (decide (c<(an:Int))) (
fW (0<=c/\c<(an:Int))<|
ptr a fun k=>
fW (0<=c/\c<(bn:Int))<|
ptr b fun l=>
ldI d (k.add (c.toNat*1)) .u8 fun m=>
ldI d (l.add (c.toNat*1)) .u8 fun i=>
fI (m != i) (
K (.bool false) d)<|
fG (IntKind.i64.wrap (c+(1:Int))) fun j=>
∃ g,g<e/\f g [.int .i64 j] d)<|
K (.bool true) d)
def p6 (C:gl) (v w:Int) (x:Option Addr) (j k:Nat) (y z:Int) (A:Option Addr) (l m:Nat) (h:Heap) (K:VK) (Kp:PK):Prop :=
gE h [.int .i64 v,.int .i64 w,.slice x j k] fK fun b B=>
gE B [.int .i64 y,.int .i64 z,.slice A l m] fK fun c a=>
ldI a (.add ⟨b,0,none⟩ 0) .i64 fun n=>
ldI a (.add ⟨c,0,none⟩ 0) .i64 fun o=>
fI (n == o) (
ldI a (.add ⟨b,0,none⟩ 1) .i64 fun p=>
ldI a (.add ⟨c,0,none⟩ 1) .i64 fun q=>
fI (p == q) (
ldS a (.add ⟨b,0,none⟩ 2) fun r e f=>
ldS a (.add ⟨c,0,none⟩ 2) fun s g i=>
C pz #[.slice r e f,.slice s g i] a (fun t u=>
∃ (d:Bool),t = .bool d/\(
K (.bool d) u)) (Kp))<|
K (.bool false) a)<|
K (.bool false) a
def n7 (C:gl) (a:Option Addr) (an ac:Nat) (b:Option Addr) (bn bc:Nat) (h:Heap) (K:VK) (Kp:PK):Prop :=
fI ((an:Int) != (bn:Int)) (
K (.bool false) h)<|
∃ i:Nat->List Value->Heap->Prop,(∃ g,i g [.int .i64 0] h)/\∀ (g:Nat) (d:Heap) (Q:Nat->Value) (c:Int),i g [.int .i64 c] d->(
fI (decide (c<(an:Int))) (
fW (0<=c/\c<(an:Int))<|
ptr a fun N=>
fW (0<=c/\c<(bn:Int))<|
ptr b fun O=>
ldI d ((N.add (c.toNat*7)).add 0) .i64 fun P=>
ldI d ((O.add (c.toNat*7)).add 0) .i64 fun q=>
fI (P != q) (
K (.bool false) d)<|
fW (0<=c/\c<(an:Int))<|
ptr a fun r=>
fW (0<=c/\c<(bn:Int))<|
ptr b fun s=>
ldI d ((r.add (c.toNat*7)).add 1) .i64 fun t=>
ldI d ((s.add (c.toNat*7)).add 1) .i64 fun u=>
fI (t != u) (
K (.bool false) d)<|
fW (0<=c/\c<(an:Int))<|
ptr a fun v=>
fW (0<=c/\c<(bn:Int))<|
ptr b fun w=>
ldI d ((v.add (c.toNat*7)).add 2) .i64 fun x=>
ldI d ((w.add (c.toNat*7)).add 2) .i64 fun y=>
fI (x != y) (
K (.bool false) d)<|
fW (0<=c/\c<(an:Int))<|
ptr a fun z=>
fW (0<=c/\c<(bn:Int))<|
ptr b fun A=>
ldB d ((z.add (c.toNat*7)).add 3) fun B=>
ldB d ((A.add (c.toNat*7)).add 3) fun D=>
fI (!(B == D)) (
K (.bool false) d)<|
fW (0<=c/\c<(an:Int))<|
ptr a fun e=>
fW (0<=c/\c<(bn:Int))<|
ptr b fun f=>
ldI d (((e.add (c.toNat*7)).add 4).add 0) .i64 fun E=>
ldI d (((e.add (c.toNat*7)).add 4).add 1) .i64 fun F=>
ldS d (((e.add (c.toNat*7)).add 4).add 2) fun G l m=>
ldI d (((f.add (c.toNat*7)).add 4).add 0) .i64 fun H=>
ldI d (((f.add (c.toNat*7)).add 4).add 1) .i64 fun I=>
ldS d (((f.add (c.toNat*7)).add 4).add 2) fun J n o=>
C jy #[.agg #[.int .i64 E,.int .i64 F,.slice G l m],.agg #[.int .i64 H,.int .i64 I,.slice J n o]] d (fun L j=>
∃ (k:Bool),L = .bool k/\(
fI (!k) (
K (.bool false) j)<|
fG (IntKind.i64.wrap (c+(1:Int))) fun M=>
∃ p,p<g/\i p [.int .i64 M] j)) (Kp))<|
K (.bool true) d)
def sm (C:gl) (T U V W X:Int) (Y:Bool) (Z aa:Int) (ab:Option Addr) (l m:Nat) (n o p q r:Int) (s:Bool) (t u:Int) (v:Option Addr) (e f:Nat) (h:Heap) (K:VK) (Kp:PK):Prop :=
gE h [.int .i64 T,.int .i64 U,.int .i64 V,.int .i64 W,.int .i64 X,.bool Y,.int .i64 Z,.int .i64 aa,.slice ab l m] fR fun b w=>
gE w [.int .i64 n,.int .i64 o,.int .i64 p,.int .i64 q,.int .i64 r,.bool s,.int .i64 t,.int .i64 u,.slice v e f] fR fun c a=>
ldI a (.add ⟨b,0,none⟩ 0) .i64 fun x=>
ldI a (.add ⟨c,0,none⟩ 0) .i64 fun y=>
fI (x == y) (
ldI a (.add ⟨b,0,none⟩ 1) .i64 fun z=>
ldI a (.add ⟨c,0,none⟩ 1) .i64 fun A=>
fI (z == A) (
ldI a (.add ⟨b,0,none⟩ 2) .i64 fun B=>
ldI a (.add ⟨c,0,none⟩ 2) .i64 fun D=>
fI (B == D) (
ldI a (.add ⟨b,0,none⟩ 3) .i64 fun E=>
ldI a (.add ⟨c,0,none⟩ 3) .i64 fun F=>
fI (E == F) (
ldI a (.add ⟨b,0,none⟩ 4) .i64 fun G=>
ldI a (.add ⟨c,0,none⟩ 4) .i64 fun H=>
fI (G == H) (
ldB a (.add ⟨b,0,none⟩ 5) fun I=>
ldB a (.add ⟨c,0,none⟩ 5) fun J=>
fI (I == J) (
ldI a (.add ⟨b,0,none⟩ 6) .i64 fun L=>
ldI a (.add ⟨c,0,none⟩ 6) .i64 fun M=>
fI (L == M) (
ldI a (.add ⟨b,0,none⟩ 7) .i64 fun N=>
ldI a (.add ⟨c,0,none⟩ 7) .i64 fun O=>
fI (N == O) (
ldS a (.add ⟨b,0,none⟩ 8) fun P g i=>
ldS a (.add ⟨c,0,none⟩ 8) fun Q j k=>
C j8 #[.slice P g i,.slice Q j k] a (fun R S=>
∃ (d:Bool),R = .bool d/\(
K (.bool d) S)) (Kp))<|
K (.bool false) a)<|
K (.bool false) a)<|
K (.bool false) a)<|
K (.bool false) a)<|
K (.bool false) a)<|
K (.bool false) a)<|
K (.bool false) a)<|
K (.bool false) a
def pq (C:gl) (a:Option Addr) (an ac:Nat) (b:Option Addr) (bn bc:Nat) (h:Heap) (K:VK) (Kp:PK):Prop :=
fI ((an:Int) != (bn:Int)) (
K (.bool false) h)<|
∃ f:Nat->List Value->Heap->Prop,(∃ e,f e [.int .i64 0] h)/\∀ (e:Nat) (d:Heap) (y:Nat->Value) (c:Int),f e [.int .i64 c] d->(
fI (decide (c<(an:Int))) (
fW (0<=c/\c<(an:Int))<|
ptr a fun g=>
fW (0<=c/\c<(bn:Int))<|
ptr b fun i=>
ldI d ((g.add (c.toNat*3)).add 0) .i64 fun x=>
ldI d ((g.add (c.toNat*3)).add 1) .i64 fun q=>
ldS d ((g.add (c.toNat*3)).add 2) fun r l m=>
ldI d ((i.add (c.toNat*3)).add 0) .i64 fun s=>
ldI d ((i.add (c.toNat*3)).add 1) .i64 fun t=>
ldS d ((i.add (c.toNat*3)).add 2) fun u n o=>
C jy #[.agg #[.int .i64 x,.int .i64 q,.slice r l m],.agg #[.int .i64 s,.int .i64 t,.slice u n o]] d (fun v j=>
∃ (k:Bool),v = .bool k/\(
fI (!k) (
K (.bool false) j)<|
fG (IntKind.i64.wrap (c+(1:Int))) fun w=>
∃ p,p<e/\f p [.int .i64 w] j)) (Kp))<|
K (.bool true) d)
def wI (C:gl) (O P:Int) (Q:Option Addr) (s t:Nat) (h:Heap) (K:VK) (Kp:PK):Prop :=
gE h [.int .i64 O,.int .i64 P,.slice Q s t] fK fun b k=>
ldI k (.add ⟨b,0,none⟩ 0) .i64 fun R=>
ldI k (.add ⟨b,0,none⟩ 1) .i64 fun S=>
C nc #[.int .i64 R,.int .i64 S] k (fun T c=>
∃ (l:Bool),T = .bool l/\(
fI (!l) (
gi c c/\(
K (.bool false) c))<|
ldS c (.add ⟨b,0,none⟩ 2) fun W q U=>
ldI c (.add ⟨b,0,none⟩ 1) .i64 fun u=>
ldI c (.add ⟨b,0,none⟩ 0) .i64 fun v=>
C ly #[.int .i64 v] c (fun w d=>
∃ (m:Int),w = .int .i64 m/\(
gi c d/\(
fG (IntKind.i64.wrap (u*m)) fun x=>
fI ((q:Int) != x) (
K (.bool false) d)<|
ldI d (.add ⟨b,0,none⟩ 0) .i64 fun y=>
fG (y.tmod (64:Int)) fun z=>
fI (z == (0:Int)) (
K (.bool true) d)<|
∃ i:Nat->List Value->Heap->Prop,(∃ e,i e [.int .i64 0] d)/\∀ (e:Nat) (a:Heap) (X:Nat->Value) (f:Int),i e [.int .i64 f] a->(
ldI a (.add ⟨b,0,none⟩ 1) .i64 fun A=>
fI (decide (f<A)) (
fG (IntKind.i64.wrap (f+(1:Int))) fun B=>
ldS a (.add ⟨b,0,none⟩ 2) fun D r V=>
ldI a (.add ⟨b,0,none⟩ 0) .i64 fun E=>
ldI a (.add ⟨b,0,none⟩ 0) .i64 fun F=>
fG (F.tmod (64:Int)) fun G=>
fG (IntKind.u64.wrap G) fun n=>
C ly #[.int .i64 E] a (fun H g=>
∃ (o:Int),H = .int .i64 o/\(
gi a g/\(
fG (IntKind.i64.wrap (B*o)) fun I=>
fG (IntKind.i64.wrap (I-(1:Int))) fun j=>
fW (0<=j/\j<(r:Int))<|
ptr D fun J=>
ldI g (J.add (j.toNat*1)) .u64 fun L=>
fW (0<=n)<|
fG (lT .u64 L n) fun M=>
fI (M != (0:Int)) (
K (.bool false) g)<|
fG (IntKind.i64.wrap (f+(1:Int))) fun N=>
∃ p,p<e/\i p [.int .i64 N] g))) (Kp))<|
K (.bool true) a)))) (Kp))) (Kp)
def wL (C:gl) (u v:Int) (w:Option Addr) (i j:Nat) (x y:Int) (h:Heap) (K:VK) (Kp:PK):Prop :=
gE h [.int .i64 u,.int .i64 v,.slice w i j] fK fun d a=>
fI (decide (x<(0:Int))) (
K (.int .i64 0) a)<|
fI (decide (y<(0:Int))) (
K (.int .i64 0) a)<|
ldI a (.add ⟨d,0,none⟩ 0) .i64 fun z=>
fI (decide (x≥z)) (
K (.int .i64 0) a)<|
ldI a (.add ⟨d,0,none⟩ 1) .i64 fun A=>
fI (decide (y≥A)) (
K (.int .i64 0) a)<|
fG (IntKind.i64.wrap (x.tdiv (64:Int))) fun B=>
fG (x.tmod (64:Int)) fun D=>
fG (IntKind.i64.wrap ((63:Int)-D)) fun k=>
fG (IntKind.u64.wrap k) fun e=>
ldS a (.add ⟨d,0,none⟩ 2) fun l g E=>
ldI a (.add ⟨d,0,none⟩ 0) .i64 fun m=>
C ly #[.int .i64 m] a (fun n b=>
∃ (f:Int),n = .int .i64 f/\(
gi a b/\(
fG (IntKind.i64.wrap (y*f)) fun o=>
fG (IntKind.i64.wrap (o+B)) fun c=>
fW (0<=c/\c<(g:Int))<|
ptr l fun p=>
ldI b (p.add (c.toNat*1)) .u64 fun q=>
fW (0<=e)<|
fG (l8 .u64 q e) fun r=>
fG (jo .and .u64 r (1:Int)) fun s=>
fG (IntKind.i64.wrap s) fun t=>
K (.int .i64 t) b))) (Kp)
def oC (C:gl) (u v:Int) (w:Option Addr) (l m:Nat) (h:Heap) (K:VK) (Kp:PK):Prop :=
gE h [.int .i64 u,.int .i64 v,.slice w l m] fK fun d x=>
gE x [.int .i64 0,.int .i64 0,.slice none 0 0] fK fun a c=>
ldI c (.add ⟨d,0,none⟩ 0) .i64 fun y=>
ldI c (.add ⟨d,0,none⟩ 1) .i64 fun z=>
ldS c (.add ⟨d,0,none⟩ 2) fun n f A=>
l4 c gj 1 8 [.int .u64 0] none (0) (0) n (f) fun o g i e=>
gi c e/\(
stV e (.add ⟨a,0,none⟩ 0) (.int .i64 y) fun p=>
stV p (.add ⟨a,0,none⟩ 1) (.int .i64 z) fun q=>
stV q (.add ⟨a,0,none⟩ 2) (.slice o g i) fun b=>
ldI b (.add ⟨a,0,none⟩ 0) .i64 fun r=>
ldI b (.add ⟨a,0,none⟩ 1) .i64 fun s=>
ldS b (.add ⟨a,0,none⟩ 2) fun t j k=>
K (.agg #[.int .i64 r,.int .i64 s,.slice t j k]) b)
def tJ (C:gl) (w h':Int) (h:Heap) (K:VK) (Kp:PK):Prop :=
gE h [.int .i64 0,.int .i64 0,.slice none 0 0] fK fun b l=>
C ly #[.int .i64 w] l (fun m n=>
∃ (f:Int),m = .int .i64 f/\(
fG (IntKind.i64.wrap (h'*f)) fun a=>
fW (0<=a/\a<=a/\a<=9223372036854775807/\((8:Nat):Int)*a<=281474976710656)<|
gE n (l9 [.int .u64 0] a.toNat) gj fun o p=>
stV p (.add ⟨b,0,none⟩ 0) (.int .i64 w) fun q=>
stV q (.add ⟨b,0,none⟩ 1) (.int .i64 h') fun g=>
stV g (.add ⟨b,0,none⟩ 2) (.slice (some ⟨o,0,none⟩) a.toNat a.toNat) fun c=>
ldI c (.add ⟨b,0,none⟩ 0) .i64 fun i=>
ldI c (.add ⟨b,0,none⟩ 1) .i64 fun j=>
ldS c (.add ⟨b,0,none⟩ 2) fun k d e=>
K (.agg #[.int .i64 i,.int .i64 j,.slice k d e]) c)) (Kp)
def wH (C:gl) (J L:Int) (M:Option Addr) (n o:Nat) (x y bit:Int) (h:Heap) (K:VK) (Kp:PK):Prop :=
gE h [.int .i64 J,.int .i64 L,.slice M n o] fK fun c l=>
ldI l (.add ⟨c,0,none⟩ 0) .i64 fun N=>
C ly #[.int .i64 N] l (fun O d=>
∃ (m:Int),O = .int .i64 m/\(
fG (IntKind.i64.wrap (y*m)) fun p=>
fG (IntKind.i64.wrap (x.tdiv (64:Int))) fun q=>
fG (IntKind.i64.wrap (p+q)) fun a=>
fG (x.tmod (64:Int)) fun r=>
fG (IntKind.i64.wrap ((63:Int)-r)) fun s=>
fG (IntKind.u64.wrap s) fun e=>
fW (0<=e)<|
fG (lT .u64 (1:Int) e) fun f=>
ldS d (.add ⟨c,0,none⟩ 2) fun t g P=>
ldS d (.add ⟨c,0,none⟩ 2) fun u i Q=>
fW (0<=a/\a<(i:Int))<|
ptr u fun v=>
ldI d (v.add (a.toNat*1)) .u64 fun w=>
fG (jo .andNot .u64 w f) fun z=>
fW (0<=a/\a<(g:Int))<|
ptr t fun A=>
stV d (A.add (a.toNat*1)) (.int .u64 z) fun b=>
fI (bit == (1:Int)) (
ldS b (.add ⟨c,0,none⟩ 2) fun B j R=>
ldS b (.add ⟨c,0,none⟩ 2) fun D k S=>
fW (0<=a/\a<(k:Int))<|
ptr D fun E=>
ldI b (E.add (a.toNat*1)) .u64 fun F=>
fG (jo .or .u64 F f) fun G=>
fW (0<=a/\a<(j:Int))<|
ptr B fun H=>
stV b (H.add (a.toNat*1)) (.int .u64 G) fun I=>
K (.tuple #[]) I)<|
K (.tuple #[]) b)) (Kp)
def vb (C:gl) (w h':Int) (h:Heap) (K:VK) (Kp:PK):Prop :=
fI (decide (w≥(1:Int))) (
fI (decide (h'≥(1:Int))) (
fI (decide (w<=(1048576:Int))) (
fW (IntKind.i64=IntKind.i64/\w≠0)<|
fG (IntKind.i64.wrap ((1048576:Int).tdiv w)) fun z_1=>
K (.bool (decide (h'<=z_1))) h)<|
K (.bool false) h)<|
K (.bool false) h)<|
K (.bool false) h
def wJ (C:gl) (av aw:Int) (ax:Option Addr) (G H:Nat) (x y op ay az:Int) (aA:Option Addr) (I J:Nat) (h:Heap) (K:VK) (Kp:PK):Prop :=
gE h [.int .i64 av,.int .i64 aw,.slice ax G H] fK fun f aB=>
gE aB [.int .i64 ay,.int .i64 az,.slice aA I J] fK fun g b=>
ldI b (.add ⟨f,0,none⟩ 0) .i64 fun L=>
fI (decide (x≥L)) (
K (.tuple #[]) b)<|
ldI b (.add ⟨f,0,none⟩ 1) .i64 fun M=>
fI (decide (y≥M)) (
K (.tuple #[]) b)<|
ldI b (.add ⟨g,0,none⟩ 0) .i64 fun N=>
fG (IntKind.i64.wrap (0-N)) fun O=>
fI (decide (x<=O)) (
K (.tuple #[]) b)<|
ldI b (.add ⟨g,0,none⟩ 1) .i64 fun P=>
fG (IntKind.i64.wrap (0-P)) fun Q=>
fI (decide (y<=Q)) (
K (.tuple #[]) b)<|
∃ o:Nat->List Value->Heap->Prop,(∃ l,o l [.int .i64 0] b)/\∀ (l:Nat) (m:Heap) (aC:Nat->Value) (e:Int),o l [.int .i64 e] m->(
ldI m (.add ⟨g,0,none⟩ 1) .i64 fun R=>
fI (decide (e<R)) (
∃ n:Nat->List Value->Heap->Prop,(∃ i,n i [.int .i64 0] m)/\∀ (i:Nat) (c:Heap) (aD:Nat->Value) (d:Int),n i [.int .i64 d] c->(
ldI c (.add ⟨g,0,none⟩ 0) .i64 fun S=>
fI (decide (d<S)) (
∃ j:List Value->Heap->Prop,(
fG (IntKind.i64.wrap (x+d)) fun T=>
fI (decide (T≥(0:Int))) (
fG (IntKind.i64.wrap (x+d)) fun U=>
ldI c (.add ⟨f,0,none⟩ 0) .i64 fun V=>
fI (decide (U<V)) (
fG (IntKind.i64.wrap (y+e)) fun W=>
fI (decide (W≥(0:Int))) (
fG (IntKind.i64.wrap (y+e)) fun X=>
ldI c (.add ⟨f,0,none⟩ 1) .i64 fun Y=>
j [.bool (decide (X<Y))] c)<|
j [.bool false] c)<|
j [.bool false] c)<|
j [.bool false] c)/\∀ (a:Heap) (aE:Nat->Value) (r:Bool),j [.bool r] a->(
fI r (
fG (IntKind.i64.wrap (x+d)) fun Z=>
fG (IntKind.i64.wrap (y+e)) fun aa=>
fG (IntKind.i64.wrap (x+d)) fun ab=>
fG (IntKind.i64.wrap (y+e)) fun ac=>
ldI a (.add ⟨f,0,none⟩ 0) .i64 fun ad=>
ldI a (.add ⟨f,0,none⟩ 1) .i64 fun ae=>
ldS a (.add ⟨f,0,none⟩ 2) fun af z A=>
ldI a (.add ⟨f,0,none⟩ 0) .i64 fun ag=>
ldI a (.add ⟨f,0,none⟩ 1) .i64 fun ah=>
ldS a (.add ⟨f,0,none⟩ 2) fun ai B D=>
ldI a (.add ⟨g,0,none⟩ 0) .i64 fun aj=>
ldI a (.add ⟨g,0,none⟩ 1) .i64 fun ak=>
ldS a (.add ⟨g,0,none⟩ 2) fun al E F=>
C jJ #[.agg #[.int .i64 ag,.int .i64 ah,.slice ai B D],.int .i64 ab,.int .i64 ac] a (fun am p=>
∃ (s:Int),am = .int .i64 s/\(
gi a p/\(
C jJ #[.agg #[.int .i64 aj,.int .i64 ak,.slice al E F],.int .i64 d,.int .i64 e] p (fun an q=>
∃ (t:Int),an = .int .i64 t/\(
gi p q/\(
C vo #[.int .i64 op,.int .i64 s,.int .i64 t] q (fun ao u=>
∃ (v:Int),ao = .int .i64 v/\(
gi q u/\(
C pW #[.agg #[.int .i64 ad,.int .i64 ae,.slice af z A],.int .i64 Z,.int .i64 aa,.int .i64 v] u (fun aF ap=>
fG (IntKind.i64.wrap (d+(1:Int))) fun aq=>
∃ k,k<i/\n k [.int .i64 aq] ap) (Kp)))) (Kp)))) (Kp)))) (Kp))<|
fG (IntKind.i64.wrap (d+(1:Int))) fun ar=>
∃ k,k<i/\n k [.int .i64 ar] a))<|
fG (IntKind.i64.wrap (e+(1:Int))) fun au=>
∃ w,w<l/\o w [.int .i64 au] c))<|
K (.tuple #[]) m)
def qV (C:gl) (a:Option Addr) (an ac:Nat) (b:Option Addr) (bn bc:Nat) (h:Heap) (K:VK) (Kp:PK):Prop :=
fI ((an:Int) != (bn:Int)) (
K (.bool false) h)<|
∃ f:Nat->List Value->Heap->Prop,(∃ e,f e [.int .i64 0] h)/\∀ (e:Nat) (d:Heap) (n:Nat->Value) (c:Int),f e [.int .i64 c] d->(
fI (decide (c<(an:Int))) (
fW (0<=c/\c<(an:Int))<|
ptr a fun k=>
fW (0<=c/\c<(bn:Int))<|
ptr b fun l=>
ldI d (k.add (c.toNat*1)) .u64 fun m=>
ldI d (l.add (c.toNat*1)) .u64 fun i=>
fI (m != i) (
K (.bool false) d)<|
fG (IntKind.i64.wrap (c+(1:Int))) fun j=>
∃ g,g<e/\f g [.int .i64 j] d)<|
K (.bool true) d)
def tI (C:gl) (w:Int) (h:Heap) (K:VK) (Kp:PK):Prop :=
fG (IntKind.i64.wrap (w+(63:Int))) fun a=>
fG (IntKind.i64.wrap (a.tdiv (64:Int))) fun b=>
K (.int .i64 b) h
def ym (C:gl) (op d s:Int) (h:Heap) (K:VK) (Kp:PK):Prop :=
fI (op == (0:Int)) (
fG (jo .or .i64 d s) fun a=>
K (.int .i64 a) h)<|
fI (op == (1:Int)) (
fG (jo .and .i64 d s) fun b=>
K (.int .i64 b) h)<|
fI (op == (2:Int)) (
fG (jo .xor .i64 d s) fun c=>
K (.int .i64 c) h)<|
fI (op == (3:Int)) (
fG (jo .xor .i64 d s) fun e=>
fG (IntKind.i64.wrap ((1:Int)-e)) fun f=>
K (.int .i64 f) h)<|
K (.int .i64 s) h
theorem xg {c d e f g:Int} {j:Bool} {k l:Int} {m:Option Addr} {a b:Nat} {h:Heap} {K:VK} {Kp:PK} (H:p7 QP c d e f g j k l m a b h K Kp):QP mS #[.agg #[.int .i64 c,.int .i64 d,.int .i64 e,.int .i64 f,.int .i64 g,.bool j,.int .i64 k,.int .i64 l,.slice m a b]] h K Kp :=
 fJ (Hints.mk (fun i=>none) (fun i=>bif Nat.beq i 4 then some ([(4,.int .i64)],1073741616) else (none)) (fun i=>none) []) (by kernel_rfl) Go.Proofs.Tryz.func13 (by kernel_rfl) (fun C=>p7 C c d e f g j k l m a b h K Kp) (fun C=>by kernel_rfl) H
theorem u5 {l:Option Addr} {ln lc:Nat} {h:Heap} {K:VK} {Kp:PK} (H:n8 QP l ln lc h K Kp):QP nf #[.slice l ln lc] h K Kp :=
 fJ (Hints.mk (fun i=>none) (fun i=>bif Nat.beq i 3 then some ([(3,.slc),(4,.int .i64)],524280) else (none)) (fun i=>none) []) (by kernel_rfl) Go.Proofs.Tryz.func14 (by kernel_rfl) (fun C=>n8 C l ln lc h K Kp) (fun C=>by kernel_rfl) H
theorem CS {a:Option Addr} {an ac:Nat} {b:Option Addr} {bn bc:Nat} {h:Heap} {K:VK} {Kp:PK} (H:yl QP a an ac b bn bc h K Kp):QP oM #[.slice a an ac,.slice b bn bc] h K Kp :=
 fJ (Hints.mk (fun i=>bif Nat.beq i 6 then some ([],.take 0 <| .take 1 <| .take 2 <| .take 4 <| .take 5 <| .take 6 <| .take 3 <| .take 7 <| .take 8 <| .done) else (none)) (fun i=>bif Nat.beq i 4 then some ([(5,.int .i64)],67106864) else (none)) (fun i=>none) []) (by kernel_rfl) Go.Proofs.Tryz.func20 (by kernel_rfl) (fun C=>yl C a an ac b bn bc h K Kp) (fun C=>by kernel_rfl) H
theorem xe {e f:Int} {g:Option Addr} {a b:Nat} {j k:Int} {l:Option Addr} {c d:Nat} {h:Heap} {K:VK} {Kp:PK} (H:p6 QP e f g a b j k l c d h K Kp):QP jy #[.agg #[.int .i64 e,.int .i64 f,.slice g a b],.agg #[.int .i64 j,.int .i64 k,.slice l c d]] h K Kp :=
 fJ (Hints.mk (fun i=>none) (fun i=>none) (fun i=>none) []) (by kernel_rfl) Go.Proofs.Tryz.func21 (by kernel_rfl) (fun C=>p6 C e f g a b j k l c d h K Kp) (fun C=>by kernel_rfl) H
theorem u4 {a:Option Addr} {an ac:Nat} {b:Option Addr} {bn bc:Nat} {h:Heap} {K:VK} {Kp:PK} (H:n7 QP a an ac b bn bc h K Kp):QP j8 #[.slice a an ac,.slice b bn bc] h K Kp :=
 fJ (Hints.mk (fun i=>bif Nat.beq i 6 then some ([61],.take 0 <| .take 1 <| .take 2 <| .take 3 <| .take 5 <| .take 6 <| .take 7 <| .take 8 <| .take 4 <| .take 9 <| .take 10 <| .take 11 <| .take 12 <| .take 13 <| .take 14 <| .take 15 <| .take 17 <| .take 18 <| .take 19 <| .take 20 <| .take 16 <| .take 21 <| .take 22 <| .take 23 <| .take 24 <| .take 25 <| .take 26 <| .take 27 <| .take 28 <| .take 30 <| .take 31 <| .take 32 <| .take 33 <| .take 29 <| .take 34 <| .take 35 <| .take 36 <| .take 37 <| .take 38 <| .take 39 <| .take 40 <| .take 41 <| .take 43 <| .take 44 <| .take 45 <| .take 46 <| .take 42 <| .take 47 <| .take 48 <| .take 49 <| .take 50 <| .take 51 <| .take 52 <| .take 53 <| .take 54 <| .take 56 <| .take 57 <| .take 58 <| .take 59 <| .take 55 <| .take 60 <| .bar 61 [] <| .take 62 <| .take 63 <| .done) else (none)) (fun i=>bif Nat.beq i 4 then some ([(5,.int .i64)],2417851639229258349410352) else (none)) (fun i=>none) []) (by kernel_rfl) Go.Proofs.Tryz.func22 (by kernel_rfl) (fun C=>n7 C a an ac b bn bc h K Kp) (fun C=>by kernel_rfl) H
theorem yS {p q r s t:Int} {u:Bool} {v w:Int} {x:Option Addr} {c d:Nat} {e f g j k:Int} {l:Bool} {m n:Int} {o:Option Addr} {a b:Nat} {h:Heap} {K:VK} {Kp:PK} (H:sm QP p q r s t u v w x c d e f g j k l m n o a b h K Kp):QP mD #[.agg #[.int .i64 p,.int .i64 q,.int .i64 r,.int .i64 s,.int .i64 t,.bool u,.int .i64 v,.int .i64 w,.slice x c d],.agg #[.int .i64 e,.int .i64 f,.int .i64 g,.int .i64 j,.int .i64 k,.bool l,.int .i64 m,.int .i64 n,.slice o a b]] h K Kp :=
 fJ (Hints.mk (fun i=>none) (fun i=>none) (fun i=>none) []) (by kernel_rfl) Go.Proofs.Tryz.func25 (by kernel_rfl) (fun C=>sm C p q r s t u v w x c d e f g j k l m n o a b h K Kp) (fun C=>by kernel_rfl) H
theorem wB {a:Option Addr} {an ac:Nat} {b:Option Addr} {bn bc:Nat} {h:Heap} {K:VK} {Kp:PK} (H:pq QP a an ac b bn bc h K Kp):QP lN #[.slice a an ac,.slice b bn bc] h K Kp :=
 fJ (Hints.mk (fun i=>bif Nat.beq i 6 then some ([8],.take 0 <| .take 1 <| .take 2 <| .take 4 <| .take 5 <| .take 6 <| .take 3 <| .take 7 <| .bar 8 [] <| .take 9 <| .done) else (none)) (fun i=>bif Nat.beq i 4 then some ([(5,.int .i64)],134215728) else (none)) (fun i=>none) []) (by kernel_rfl) Go.Proofs.Tryz.func26 (by kernel_rfl) (fun C=>pq C a an ac b bn bc h K Kp) (fun C=>by kernel_rfl) H
theorem B6 {c d:Int} {e:Option Addr} {a b:Nat} {h:Heap} {K:VK} {Kp:PK} (H:wI QP c d e a b h K Kp):QP nQ #[.agg #[.int .i64 c,.int .i64 d,.slice e a b]] h K Kp :=
 fJ (Hints.mk (fun i=>bif Nat.beq i 1 then some ([4,14],.take 0 <| .take 2 <| .take 1 <| .take 3 <| .bar 4 [] <| .take 5 <| .take 6 <| .take 7 <| .take 10 <| .take 12 <| .take 8 <| .take 9 <| .take 11 <| .take 13 <| .go 14 <| .take 15 <| .take 16 <| .take 17 <| .done) else (bif Nat.beq i 8 then some ([],.take 0 <| .take 2 <| .take 3 <| .take 4 <| .take 11 <| .take 1 <| .take 5 <| .take 12 <| .take 13 <| .take 14 <| .go 6 <| .take 7 <| .take 8 <| .take 9 <| .take 10 <| .take 15 <| .take 16 <| .done) else (none))) (fun i=>bif Nat.beq i 6 then some ([(3,.int .i64)],562949886312460) else (none)) (fun i=>none) []) (by kernel_rfl) Go.Proofs.Tryz.func36 (by kernel_rfl) (fun C=>wI C c d e a b h K Kp) (fun C=>by kernel_rfl) H
theorem B8 {c d:Int} {e:Option Addr} {a b:Nat} {x y:Int} {h:Heap} {K:VK} {Kp:PK} (H:wL QP c d e a b x y h K Kp):QP jJ #[.agg #[.int .i64 c,.int .i64 d,.slice e a b],.int .i64 x,.int .i64 y] h K Kp :=
 fJ (Hints.mk (fun i=>bif Nat.beq i 3 then some ([],.take 0 <| .take 2 <| .take 3 <| .take 7 <| .take 8 <| .take 12 <| .take 13 <| .take 14 <| .take 15 <| .take 1 <| .take 4 <| .go 5 <| .take 6 <| .take 9 <| .take 10 <| .take 11 <| .take 16 <| .take 17 <| .take 18 <| .take 19 <| .done) else (none)) (fun i=>none) (fun i=>none) []) (by kernel_rfl) Go.Proofs.Tryz.func37 (by kernel_rfl) (fun C=>wL C c d e a b x y h K Kp) (fun C=>by kernel_rfl) H
theorem vx {c d:Int} {e:Option Addr} {a b:Nat} {h:Heap} {K:VK} {Kp:PK} (H:oC QP c d e a b h K Kp):QP mg #[.agg #[.int .i64 c,.int .i64 d,.slice e a b]] h K Kp :=
 fJ (Hints.mk (fun i=>bif Nat.beq i 2 then some ([9],.take 0 <| .take 2 <| .take 4 <| .take 5 <| .take 1 <| .take 3 <| .take 6 <| .go 7 <| .take 8 <| .bar 9 [] <| .done) else (none)) (fun i=>none) (fun i=>none) []) (by kernel_rfl) Go.Proofs.Tryz.func38 (by kernel_rfl) (fun C=>oC C c d e a b h K Kp) (fun C=>by kernel_rfl) H
theorem zS {w h':Int} {h:Heap} {K:VK} {Kp:PK} (H:tJ QP w h' h K Kp):QP og #[.int .i64 w,.int .i64 h'] h K Kp :=
 fJ (Hints.mk (fun i=>none) (fun i=>none) (fun i=>none) []) (by kernel_rfl) Go.Proofs.Tryz.func39 (by kernel_rfl) (fun C=>tJ C w h' h K Kp) (fun C=>by kernel_rfl) H
theorem B5 {c d:Int} {e:Option Addr} {a b:Nat} {x y bit:Int} {h:Heap} {K:VK} {Kp:PK} (H:wH QP c d e a b x y bit h K Kp):QP pW #[.agg #[.int .i64 c,.int .i64 d,.slice e a b],.int .i64 x,.int .i64 y,.int .i64 bit] h K Kp :=
 fJ (Hints.mk (fun i=>bif Nat.beq i 3 then some ([11],.take 0 <| .take 2 <| .take 3 <| .take 5 <| .take 8 <| .take 1 <| .take 4 <| .take 6 <| .take 7 <| .take 9 <| .take 10 <| .bar 11 [] <| .done) else (bif Nat.beq i 5 then some ([11],.take 0 <| .take 2 <| .take 3 <| .take 5 <| .take 8 <| .take 1 <| .take 4 <| .take 6 <| .take 7 <| .take 9 <| .take 10 <| .bar 11 [] <| .done) else (none))) (fun i=>none) (fun i=>none) []) (by kernel_rfl) Go.Proofs.Tryz.func40 (by kernel_rfl) (fun C=>wH C c d e a b x y bit h K Kp) (fun C=>by kernel_rfl) H
theorem AX {w h':Int} {h:Heap} {K:VK} {Kp:PK} (H:vb QP w h' h K Kp):QP nc #[.int .i64 w,.int .i64 h'] h K Kp :=
 fJ (Hints.mk (fun i=>none) (fun i=>none) (fun i=>none) []) (by kernel_rfl) Go.Proofs.Tryz.func42 (by kernel_rfl) (fun C=>vb C w h' h K Kp) (fun C=>by kernel_rfl) H
theorem B7 {e f:Int} {g:Option Addr} {a b:Nat} {x y op j k:Int} {l:Option Addr} {c d:Nat} {h:Heap} {K:VK} {Kp:PK} (H:wJ QP e f g a b x y op j k l c d h K Kp):QP tY #[.agg #[.int .i64 e,.int .i64 f,.slice g a b],.int .i64 x,.int .i64 y,.int .i64 op,.agg #[.int .i64 j,.int .i64 k,.slice l c d]] h K Kp :=
 fJ (Hints.mk (fun i=>bif Nat.beq i 9 then some ([21],.take 1 <| .take 2 <| .take 3 <| .take 4 <| .take 5 <| .take 6 <| .take 7 <| .take 9 <| .take 10 <| .take 11 <| .take 12 <| .take 13 <| .take 14 <| .take 17 <| .take 18 <| .take 0 <| .take 8 <| .take 16 <| .go 15 <| .go 19 <| .go 20 <| .bar 21 [] <| .done) else (none)) (fun i=>bif Nat.beq i 3 then some ([(10,.int .i64)],79228162514264337524824476672) else (bif Nat.beq i 6 then some ([(11,.int .i64)],79228162514264333195497441280) else (none))) (fun i=>bif Nat.beq i 9 then some ([(73,.bool)],18889465650003604144128) else (none)) []) (by kernel_rfl) Go.Proofs.Tryz.func63 (by kernel_rfl) (fun C=>wJ C e f g a b x y op j k l c d h K Kp) (fun C=>by kernel_rfl) H
theorem yb {a:Option Addr} {an ac:Nat} {b:Option Addr} {bn bc:Nat} {h:Heap} {K:VK} {Kp:PK} (H:qV QP a an ac b bn bc h K Kp):QP pz #[.slice a an ac,.slice b bn bc] h K Kp :=
 fJ (Hints.mk (fun i=>bif Nat.beq i 6 then some ([],.take 0 <| .take 1 <| .take 2 <| .take 4 <| .take 5 <| .take 6 <| .take 3 <| .take 7 <| .take 8 <| .done) else (none)) (fun i=>bif Nat.beq i 4 then some ([(5,.int .i64)],67106864) else (none)) (fun i=>none) []) (by kernel_rfl) Go.Proofs.Tryz.func70 (by kernel_rfl) (fun C=>qV C a an ac b bn bc h K Kp) (fun C=>by kernel_rfl) H
theorem zR {w:Int} {h:Heap} {K:VK} {Kp:PK} (H:tI QP w h K Kp):QP ly #[.int .i64 w] h K Kp :=
 fJ (Hints.mk (fun i=>none) (fun i=>none) (fun i=>none) []) (by kernel_rfl) Go.Proofs.Tryz.func89 (by kernel_rfl) (fun C=>tI C w h K Kp) (fun C=>by kernel_rfl) H
theorem CU {op d s:Int} {h:Heap} {K:VK} {Kp:PK} (H:ym QP op d s h K Kp):QP vo #[.int .i64 op,.int .i64 d,.int .i64 s] h K Kp :=
 fJ (Hints.mk (fun i=>none) (fun i=>none) (fun i=>none) []) (by kernel_rfl) Go.Proofs.Tryz.func115 (by kernel_rfl) (fun C=>ym C op d s h K Kp) (fun C=>by kernel_rfl) H
def ke (C:gl) (s:Option Addr) (sn sc:Nat) (h:Heap) (K:VK) (Kp:PK):Prop :=
fI (Option.isNone s) (
K (.slice none 0 0) h)<|
gE h [] fM fun c d=>
l4 d fM 7 72 [.int .i64 0,.int .i64 0,.int .i64 0,.bool false,.int .i64 0,.int .i64 0,.slice none 0 0] (some ⟨c,0,none⟩) (0) (0) s (sn) fun e a b f=>
K (.slice e a b) f
def lr (C:gl) (s:Option Addr) (sn sc:Nat) (h:Heap) (K:VK) (Kp:PK):Prop :=
fI (Option.isNone s) (
K (.slice none 0 0) h)<|
gE h [] gj fun c d=>
l4 d gj 1 8 [.int .u64 0] (some ⟨c,0,none⟩) (0) (0) s (sn) fun e a b f=>
K (.slice e a b) f
def iV (C:gl) (x:Option Addr) (xn xc:Nat) (cmp:Value) (h:Heap) (K:VK) (Kp:PK):Prop :=
C kO #[.slice x xn xc,.int .i64 (xn:Int),cmp] h (fun b a=>
K (.tuple #[]) a) (Kp)
def jS (C:gl) (s:Option Addr) (sn sc:Nat) (f:Value) (h:Heap) (K:VK) (Kp:PK):Prop :=
C lK #[.slice s sn sc,f] h (fun b c=>
∃ (a:Int),b = .int .i64 a/\(
K (.bool (decide (a≥(0:Int)))) c)) (Kp)
def j0 (C:gl) (data:Option Addr) (datan datac:Nat) (n:Int) (cmp:Value) (h:Heap) (K:VK) (Kp:PK):Prop :=
∃ o:Nat->List Value->Heap->Prop,(∃ m,o m [.int .i64 0,.int .i64 20] h)/\∀ (m:Nat) (p:Heap) (M:Nat->Value) (q j:Int),o m [.int .i64 q,.int .i64 j] p->(
fI (decide (j<=n)) (
C je #[.slice data datan datac,.int .i64 q,.int .i64 j,cmp] p (fun N F=>
fG (IntKind.i64.wrap (j+(20:Int))) fun u=>
∃ t,t<m/\o t [.int .i64 j,.int .i64 u] F) (Kp))<|
C je #[.slice data datan datac,.int .i64 q,.int .i64 n,cmp] p (fun G v=>
∃ f:Nat->List Value->Heap->Prop,(∃ b,f b [.int .i64 20] v)/\∀ (b:Nat) (k:Heap) (H:Nat->Value) (a:Int),f b [.int .i64 a] k->(
fI (decide (a<n)) (
fG (IntKind.i64.wrap ((2:Int)*a)) fun w=>
∃ l:Nat->List Value->Heap->Prop,(∃ g,l g [.int .i64 0,.int .i64 w] k)/\∀ (g:Nat) (i:Heap) (I:Nat->Value) (c d:Int),l g [.int .i64 c,.int .i64 d] i->(
fI (decide (d<=n)) (
fG (IntKind.i64.wrap (c+a)) fun x=>
C iN #[.slice data datan datac,.int .i64 c,.int .i64 x,.int .i64 d,cmp] i (fun J y=>
fG (IntKind.i64.wrap ((2:Int)*a)) fun z=>
fG (IntKind.i64.wrap (d+z)) fun A=>
∃ r,r<g/\l r [.int .i64 d,.int .i64 A] y) (Kp))<|
fG (IntKind.i64.wrap (c+a)) fun s=>
fI (decide (s<n)) (
C iN #[.slice data datan datac,.int .i64 c,.int .i64 s,.int .i64 n,cmp] i (fun L B=>
fG (IntKind.i64.wrap (a*(2:Int))) fun D=>
∃ e,e<b/\f e [.int .i64 D] B) (Kp))<|
fG (IntKind.i64.wrap (a*(2:Int))) fun E=>
∃ e,e<b/\f e [.int .i64 E] i))<|
K (.tuple #[]) k)) (Kp))
def ka (C:gl) (s:Option Addr) (sn sc:Nat) (f:Value) (h:Heap) (K:VK) (Kp:PK):Prop :=
∃ d:Nat->List Value->Heap->Prop,(∃ c,d c [.int .i64 0] h)/\∀ (c:Nat) (b:Heap) (r:Nat->Value) (a:Int),d c [.int .i64 a] b->(
fI (decide (a<(sn:Int))) (
fW (0<=a/\a<(sn:Int))<|
ptr s fun e=>
ldI b ((e.add (a.toNat*3)).add 0) .i64 fun p=>
ldI b ((e.add (a.toNat*3)).add 1) .i64 fun q=>
ldS b ((e.add (a.toNat*3)).add 2) fun m j k=>
oy C (Kp) f [.agg #[.int .i64 p,.int .i64 q,.slice m j k]] b fun n g=>
∃ (i:Bool),n = .bool i/\(
fI i (
K (.int .i64 a) g)<|
fG (IntKind.i64.wrap (a+(1:Int))) fun o=>
∃ l,l<c/\d l [.int .i64 o] g))<|
K (.int .i64 (-1)) b)
def jE (C:gl) (s:Option Addr) (sn sc:Nat) (f:Value) (h:Heap) (K:VK) (Kp:PK):Prop :=
C k9 #[.slice s sn sc,f] h (fun b c=>
∃ (a:Int),b = .int .i64 a/\(
K (.bool (decide (a≥(0:Int)))) c)) (Kp)
def jn (C:gl) (data:Option Addr) (datan datac:Nat) (a b:Int) (cmp:Value) (h:Heap) (K:VK) (Kp:PK):Prop :=
fG (IntKind.i64.wrap (a+(1:Int))) fun aE=>
∃ t:Nat->List Value->Heap->Prop,(∃ q,t q [.int .i64 aE] h)/\∀ (q:Nat) (u:Heap) (aG:Nat->Value) (r:Int),t q [.int .i64 r] u->(
fI (decide (r<b)) (
∃ v:Nat->List Value->Heap->Prop,(∃ p,v p [.int .i64 r] u)/\∀ (p:Nat) (d:Heap) (aF:Nat->Value) (c:Int),v p [.int .i64 c] d->(
fI (decide (c > a)) (
fW (0<=c/\c<(datan:Int))<|
ptr data fun j=>
fG (IntKind.i64.wrap (c-(1:Int))) fun f=>
fW (0<=f/\f<(datan:Int))<|
ptr data fun k=>
ldI d ((j.add (c.toNat*7)).add 0) .i64 fun H=>
ldI d ((j.add (c.toNat*7)).add 1) .i64 fun I=>
ldI d ((j.add (c.toNat*7)).add 2) .i64 fun J=>
ldB d ((j.add (c.toNat*7)).add 3) fun L=>
ldI d ((j.add (c.toNat*7)).add 4) .i64 fun M=>
ldI d ((j.add (c.toNat*7)).add 5) .i64 fun N=>
ldS d ((j.add (c.toNat*7)).add 6) fun O x y=>
ldI d ((k.add (f.toNat*7)).add 0) .i64 fun P=>
ldI d ((k.add (f.toNat*7)).add 1) .i64 fun Q=>
ldI d ((k.add (f.toNat*7)).add 2) .i64 fun R=>
ldB d ((k.add (f.toNat*7)).add 3) fun S=>
ldI d ((k.add (f.toNat*7)).add 4) .i64 fun T=>
ldI d ((k.add (f.toNat*7)).add 5) .i64 fun U=>
ldS d ((k.add (f.toNat*7)).add 6) fun V z A=>
oy C (Kp) cmp [.agg #[.int .i64 H,.int .i64 I,.int .i64 J,.bool L,.int .i64 M,.int .i64 N,.slice O x y],.agg #[.int .i64 P,.int .i64 Q,.int .i64 R,.bool S,.int .i64 T,.int .i64 U,.slice V z A]] d fun W e=>
∃ (w:Int),W = .int .i64 w/\(
fI (decide (w<(0:Int))) (
fG (IntKind.i64.wrap (c-(1:Int))) fun g=>
fG (IntKind.i64.wrap (c-(1:Int))) fun i=>
fW (0<=i/\i<(datan:Int))<|
ptr data fun l=>
fW (0<=c/\c<(datan:Int))<|
ptr data fun m=>
ldI e ((l.add (i.toNat*7)).add 0) .i64 fun X=>
ldI e ((l.add (i.toNat*7)).add 1) .i64 fun Y=>
ldI e ((l.add (i.toNat*7)).add 2) .i64 fun Z=>
ldB e ((l.add (i.toNat*7)).add 3) fun aa=>
ldI e ((l.add (i.toNat*7)).add 4) .i64 fun ab=>
ldI e ((l.add (i.toNat*7)).add 5) .i64 fun ac=>
ldS e ((l.add (i.toNat*7)).add 6) fun ad B D=>
ldI e ((m.add (c.toNat*7)).add 0) .i64 fun ae=>
ldI e ((m.add (c.toNat*7)).add 1) .i64 fun af=>
ldI e ((m.add (c.toNat*7)).add 2) .i64 fun ag=>
ldB e ((m.add (c.toNat*7)).add 3) fun ah=>
ldI e ((m.add (c.toNat*7)).add 4) .i64 fun ai=>
ldI e ((m.add (c.toNat*7)).add 5) .i64 fun aj=>
ldS e ((m.add (c.toNat*7)).add 6) fun ak E F=>
fW (0<=c/\c<(datan:Int))<|
ptr data fun n=>
stV e ((n.add (c.toNat*7)).add 0) (.int .i64 X) fun al=>
stV al ((n.add (c.toNat*7)).add 1) (.int .i64 Y) fun am=>
stV am ((n.add (c.toNat*7)).add 2) (.int .i64 Z) fun an=>
stV an ((n.add (c.toNat*7)).add 3) (.bool aa) fun ao=>
stV ao ((n.add (c.toNat*7)).add 4) (.int .i64 ab) fun ap=>
stV ap ((n.add (c.toNat*7)).add 5) (.int .i64 ac) fun aq=>
stV aq ((n.add (c.toNat*7)).add 6) (.slice ad B D) fun ar=>
fW (0<=g/\g<(datan:Int))<|
ptr data fun o=>
stV ar ((o.add (g.toNat*7)).add 0) (.int .i64 ae) fun au=>
stV au ((o.add (g.toNat*7)).add 1) (.int .i64 af) fun av=>
stV av ((o.add (g.toNat*7)).add 2) (.int .i64 ag) fun aw=>
stV aw ((o.add (g.toNat*7)).add 3) (.bool ah) fun ax=>
stV ax ((o.add (g.toNat*7)).add 4) (.int .i64 ai) fun ay=>
stV ay ((o.add (g.toNat*7)).add 5) (.int .i64 aj) fun az=>
stV az ((o.add (g.toNat*7)).add 6) (.slice ak E F) fun aA=>
fG (IntKind.i64.wrap (c-(1:Int))) fun aB=>
∃ G,G<p/\v G [.int .i64 aB] aA)<|
fG (IntKind.i64.wrap (r+(1:Int))) fun aC=>
∃ s,s<q/\t s [.int .i64 aC] e))<|
fG (IntKind.i64.wrap (r+(1:Int))) fun aD=>
∃ s,s<q/\t s [.int .i64 aD] d))<|
K (.tuple #[]) u)
def kN (C:gl) (data:Option Addr) (datan datac:Nat) (a m b:Int) (cmp:Value) (h:Heap) (K:VK) (Kp:PK):Prop :=
fG (IntKind.i64.wrap (m-a)) fun cS=>
fI (cS == (1:Int)) (
∃ aj:Nat->List Value->Heap->Prop,(∃ af,aj af [.int .i64 m,.int .i64 b] h)/\∀ (af:Nat) (l:Heap) (c4:Nat->Value) (ag ak:Int),aj af [.int .i64 ag,.int .i64 ak] l->(
fI (decide (ag<ak)) (
fG (IntKind.i64.wrap (ag+ak)) fun cT=>
fG (IntKind.u64.wrap cT) fun bR=>
fG (l8 .u64 bR (1:Int)) fun bS=>
fG (IntKind.i64.wrap bS) fun q=>
fW (0<=q/\q<(datan:Int))<|
ptr data fun B=>
fW (0<=a/\a<(datan:Int))<|
ptr data fun D=>
ldI l ((B.add (q.toNat*7)).add 0) .i64 fun bT=>
ldI l ((B.add (q.toNat*7)).add 1) .i64 fun bU=>
ldI l ((B.add (q.toNat*7)).add 2) .i64 fun bV=>
ldB l ((B.add (q.toNat*7)).add 3) fun bW=>
ldI l ((B.add (q.toNat*7)).add 4) .i64 fun bX=>
ldI l ((B.add (q.toNat*7)).add 5) .i64 fun bY=>
ldS l ((B.add (q.toNat*7)).add 6) fun bZ aH aI=>
ldI l ((D.add (a.toNat*7)).add 0) .i64 fun b0=>
ldI l ((D.add (a.toNat*7)).add 1) .i64 fun b1=>
ldI l ((D.add (a.toNat*7)).add 2) .i64 fun b2=>
ldB l ((D.add (a.toNat*7)).add 3) fun b3=>
ldI l ((D.add (a.toNat*7)).add 4) .i64 fun b4=>
ldI l ((D.add (a.toNat*7)).add 5) .i64 fun b5=>
ldS l ((D.add (a.toNat*7)).add 6) fun b6 aJ aK=>
oy C (Kp) cmp [.agg #[.int .i64 bT,.int .i64 bU,.int .i64 bV,.bool bW,.int .i64 bX,.int .i64 bY,.slice bZ aH aI],.agg #[.int .i64 b0,.int .i64 b1,.int .i64 b2,.bool b3,.int .i64 b4,.int .i64 b5,.slice b6 aJ aK]] l fun b7 au=>
∃ (av:Int),b7 = .int .i64 av/\(
fI (decide (av<(0:Int))) (
fG (IntKind.i64.wrap (q+(1:Int))) fun b8=>
∃ ah,ah<af/\aj ah [.int .i64 b8,.int .i64 ak] au)<|
∃ ah,ah<af/\aj ah [.int .i64 ag,.int .i64 q] au))<|
∃ ai:Nat->List Value->Heap->Prop,(∃ Z,ai Z [.int .i64 a] l)/\∀ (Z:Nat) (i:Heap) (c2:Nat->Value) (f:Int),ai Z [.int .i64 f] i->(
fG (IntKind.i64.wrap (ag-(1:Int))) fun b9=>
fI (decide (f<b9)) (
fG (IntKind.i64.wrap (f+(1:Int))) fun s=>
fG (IntKind.i64.wrap (f+(1:Int))) fun t=>
fW (0<=t/\t<(datan:Int))<|
ptr data fun E=>
fW (0<=f/\f<(datan:Int))<|
ptr data fun F=>
ldI i ((E.add (t.toNat*7)).add 0) .i64 fun ca=>
ldI i ((E.add (t.toNat*7)).add 1) .i64 fun cb=>
ldI i ((E.add (t.toNat*7)).add 2) .i64 fun cc=>
ldB i ((E.add (t.toNat*7)).add 3) fun cd=>
ldI i ((E.add (t.toNat*7)).add 4) .i64 fun ce=>
ldI i ((E.add (t.toNat*7)).add 5) .i64 fun cf=>
ldS i ((E.add (t.toNat*7)).add 6) fun cg aL aM=>
ldI i ((F.add (f.toNat*7)).add 0) .i64 fun ch=>
ldI i ((F.add (f.toNat*7)).add 1) .i64 fun ci=>
ldI i ((F.add (f.toNat*7)).add 2) .i64 fun cj=>
ldB i ((F.add (f.toNat*7)).add 3) fun ck=>
ldI i ((F.add (f.toNat*7)).add 4) .i64 fun cl=>
ldI i ((F.add (f.toNat*7)).add 5) .i64 fun cm=>
ldS i ((F.add (f.toNat*7)).add 6) fun cn aN aO=>
fW (0<=f/\f<(datan:Int))<|
ptr data fun G=>
stV i ((G.add (f.toNat*7)).add 0) (.int .i64 ca) fun co=>
stV co ((G.add (f.toNat*7)).add 1) (.int .i64 cb) fun cp=>
stV cp ((G.add (f.toNat*7)).add 2) (.int .i64 cc) fun cq=>
stV cq ((G.add (f.toNat*7)).add 3) (.bool cd) fun cr=>
stV cr ((G.add (f.toNat*7)).add 4) (.int .i64 ce) fun cs=>
stV cs ((G.add (f.toNat*7)).add 5) (.int .i64 cf) fun ct=>
stV ct ((G.add (f.toNat*7)).add 6) (.slice cg aL aM) fun cu=>
fW (0<=s/\s<(datan:Int))<|
ptr data fun H=>
stV cu ((H.add (s.toNat*7)).add 0) (.int .i64 ch) fun cv=>
stV cv ((H.add (s.toNat*7)).add 1) (.int .i64 ci) fun cw=>
stV cw ((H.add (s.toNat*7)).add 2) (.int .i64 cj) fun cx=>
stV cx ((H.add (s.toNat*7)).add 3) (.bool ck) fun cy=>
stV cy ((H.add (s.toNat*7)).add 4) (.int .i64 cl) fun cz=>
stV cz ((H.add (s.toNat*7)).add 5) (.int .i64 cm) fun cA=>
stV cA ((H.add (s.toNat*7)).add 6) (.slice cn aN aO) fun cB=>
fG (IntKind.i64.wrap (f+(1:Int))) fun cC=>
∃ aw,aw<Z/\ai aw [.int .i64 cC] cB)<|
K (.tuple #[]) i)))<|
fG (IntKind.i64.wrap (b-m)) fun cD=>
fI (cD == (1:Int)) (
∃ aa:Nat->List Value->Heap->Prop,(∃ W,aa W [.int .i64 a,.int .i64 m] h)/\∀ (W:Nat) (j:Heap) (c3:Nat->Value) (X ab:Int),aa W [.int .i64 X,.int .i64 ab] j->(
fI (decide (X<ab)) (
fG (IntKind.i64.wrap (X+ab)) fun cE=>
fG (IntKind.u64.wrap cE) fun cF=>
fG (l8 .u64 cF (1:Int)) fun cG=>
fG (IntKind.i64.wrap cG) fun r=>
fW (0<=m/\m<(datan:Int))<|
ptr data fun I=>
fW (0<=r/\r<(datan:Int))<|
ptr data fun J=>
ldI j ((I.add (m.toNat*7)).add 0) .i64 fun cH=>
ldI j ((I.add (m.toNat*7)).add 1) .i64 fun cI=>
ldI j ((I.add (m.toNat*7)).add 2) .i64 fun cJ=>
ldB j ((I.add (m.toNat*7)).add 3) fun cK=>
ldI j ((I.add (m.toNat*7)).add 4) .i64 fun cL=>
ldI j ((I.add (m.toNat*7)).add 5) .i64 fun cM=>
ldS j ((I.add (m.toNat*7)).add 6) fun cN aP aQ=>
ldI j ((J.add (r.toNat*7)).add 0) .i64 fun cO=>
ldI j ((J.add (r.toNat*7)).add 1) .i64 fun cP=>
ldI j ((J.add (r.toNat*7)).add 2) .i64 fun cQ=>
ldB j ((J.add (r.toNat*7)).add 3) fun cR=>
ldI j ((J.add (r.toNat*7)).add 4) .i64 fun aR=>
ldI j ((J.add (r.toNat*7)).add 5) .i64 fun aS=>
ldS j ((J.add (r.toNat*7)).add 6) fun aT ax ay=>
oy C (Kp) cmp [.agg #[.int .i64 cH,.int .i64 cI,.int .i64 cJ,.bool cK,.int .i64 cL,.int .i64 cM,.slice cN aP aQ],.agg #[.int .i64 cO,.int .i64 cP,.int .i64 cQ,.bool cR,.int .i64 aR,.int .i64 aS,.slice aT ax ay]] j fun aU al=>
∃ (am:Int),aU = .int .i64 am/\(
fI (!(decide (am<(0:Int)))) (
fG (IntKind.i64.wrap (r+(1:Int))) fun aV=>
∃ Y,Y<W/\aa Y [.int .i64 aV,.int .i64 ab] al)<|
∃ Y,Y<W/\aa Y [.int .i64 X,.int .i64 r] al))<|
∃ ac:Nat->List Value->Heap->Prop,(∃ P,ac P [.int .i64 m] j)/\∀ (P:Nat) (g:Heap) (cU:Nat->Value) (c:Int),ac P [.int .i64 c] g->(
fI (decide (c > X)) (
fG (IntKind.i64.wrap (c-(1:Int))) fun n=>
fG (IntKind.i64.wrap (c-(1:Int))) fun o=>
fW (0<=o/\o<(datan:Int))<|
ptr data fun u=>
fW (0<=c/\c<(datan:Int))<|
ptr data fun v=>
ldI g ((u.add (o.toNat*7)).add 0) .i64 fun aW=>
ldI g ((u.add (o.toNat*7)).add 1) .i64 fun aX=>
ldI g ((u.add (o.toNat*7)).add 2) .i64 fun aY=>
ldB g ((u.add (o.toNat*7)).add 3) fun aZ=>
ldI g ((u.add (o.toNat*7)).add 4) .i64 fun a0=>
ldI g ((u.add (o.toNat*7)).add 5) .i64 fun a1=>
ldS g ((u.add (o.toNat*7)).add 6) fun a2 az aA=>
ldI g ((v.add (c.toNat*7)).add 0) .i64 fun a3=>
ldI g ((v.add (c.toNat*7)).add 1) .i64 fun a4=>
ldI g ((v.add (c.toNat*7)).add 2) .i64 fun a5=>
ldB g ((v.add (c.toNat*7)).add 3) fun a6=>
ldI g ((v.add (c.toNat*7)).add 4) .i64 fun a7=>
ldI g ((v.add (c.toNat*7)).add 5) .i64 fun a8=>
ldS g ((v.add (c.toNat*7)).add 6) fun a9 aB aC=>
fW (0<=c/\c<(datan:Int))<|
ptr data fun w=>
stV g ((w.add (c.toNat*7)).add 0) (.int .i64 aW) fun ba=>
stV ba ((w.add (c.toNat*7)).add 1) (.int .i64 aX) fun bb=>
stV bb ((w.add (c.toNat*7)).add 2) (.int .i64 aY) fun bc=>
stV bc ((w.add (c.toNat*7)).add 3) (.bool aZ) fun bd=>
stV bd ((w.add (c.toNat*7)).add 4) (.int .i64 a0) fun be=>
stV be ((w.add (c.toNat*7)).add 5) (.int .i64 a1) fun bf=>
stV bf ((w.add (c.toNat*7)).add 6) (.slice a2 az aA) fun bg=>
fW (0<=n/\n<(datan:Int))<|
ptr data fun x=>
stV bg ((x.add (n.toNat*7)).add 0) (.int .i64 a3) fun bh=>
stV bh ((x.add (n.toNat*7)).add 1) (.int .i64 a4) fun bi=>
stV bi ((x.add (n.toNat*7)).add 2) (.int .i64 a5) fun bj=>
stV bj ((x.add (n.toNat*7)).add 3) (.bool a6) fun bk=>
stV bk ((x.add (n.toNat*7)).add 4) (.int .i64 a7) fun bl=>
stV bl ((x.add (n.toNat*7)).add 5) (.int .i64 a8) fun bm=>
stV bm ((x.add (n.toNat*7)).add 6) (.slice a9 aB aC) fun bn=>
fG (IntKind.i64.wrap (c-(1:Int))) fun bo=>
∃ an,an<P/\ac an [.int .i64 bo] bn)<|
K (.tuple #[]) g)))<|
fG (IntKind.i64.wrap (a+b)) fun bp=>
fG (IntKind.u64.wrap bp) fun bq=>
fG (l8 .u64 bq (1:Int)) fun br=>
fG (IntKind.i64.wrap br) fun y=>
fG (IntKind.i64.wrap (y+m)) fun ad=>
∃ ae:List Value->Heap->Prop,(
fI (decide (m > y)) (
fG (IntKind.i64.wrap (ad-b)) fun bs=>
ae [.int .i64 bs,.int .i64 y] h)<|
ae [.int .i64 a,.int .i64 m] h)/\∀ (ao:Heap) (cV:Nat->Value) (O ap:Int),ae [.int .i64 O,.int .i64 ap] ao->(
fG (IntKind.i64.wrap (ad-(1:Int))) fun bt=>
∃ Q:Nat->List Value->Heap->Prop,(∃ L,Q L [.int .i64 O,.int .i64 ap] ao)/\∀ (L:Nat) (d:Heap) (cW:Nat->Value) (e R:Int),Q L [.int .i64 e,.int .i64 R] d->(
fI (decide (e<R)) (
fG (IntKind.i64.wrap (e+R)) fun bu=>
fG (IntKind.u64.wrap bu) fun bv=>
fG (l8 .u64 bv (1:Int)) fun bw=>
fG (IntKind.i64.wrap bw) fun k=>
fG (IntKind.i64.wrap (bt-k)) fun p=>
fW (0<=p/\p<(datan:Int))<|
ptr data fun z=>
fW (0<=k/\k<(datan:Int))<|
ptr data fun A=>
ldI d ((z.add (p.toNat*7)).add 0) .i64 fun bx=>
ldI d ((z.add (p.toNat*7)).add 1) .i64 fun bz=>
ldI d ((z.add (p.toNat*7)).add 2) .i64 fun bA=>
ldB d ((z.add (p.toNat*7)).add 3) fun bB=>
ldI d ((z.add (p.toNat*7)).add 4) .i64 fun bC=>
ldI d ((z.add (p.toNat*7)).add 5) .i64 fun bD=>
ldS d ((z.add (p.toNat*7)).add 6) fun bE aD aE=>
ldI d ((A.add (k.toNat*7)).add 0) .i64 fun bF=>
ldI d ((A.add (k.toNat*7)).add 1) .i64 fun bG=>
ldI d ((A.add (k.toNat*7)).add 2) .i64 fun bH=>
ldB d ((A.add (k.toNat*7)).add 3) fun bI=>
ldI d ((A.add (k.toNat*7)).add 4) .i64 fun bJ=>
ldI d ((A.add (k.toNat*7)).add 5) .i64 fun bK=>
ldS d ((A.add (k.toNat*7)).add 6) fun bL aF aG=>
oy C (Kp) cmp [.agg #[.int .i64 bx,.int .i64 bz,.int .i64 bA,.bool bB,.int .i64 bC,.int .i64 bD,.slice bE aD aE],.agg #[.int .i64 bF,.int .i64 bG,.int .i64 bH,.bool bI,.int .i64 bJ,.int .i64 bK,.slice bL aF aG]] d fun bM aq=>
∃ (ar:Int),bM = .int .i64 ar/\(
fI (!(decide (ar<(0:Int)))) (
fG (IntKind.i64.wrap (k+(1:Int))) fun bN=>
∃ M,M<L/\Q M [.int .i64 bN,.int .i64 R] aq)<|
∃ M,M<L/\Q M [.int .i64 e,.int .i64 k] aq))<|
fG (IntKind.i64.wrap (ad-e)) fun N=>
∃ S:List Value->Heap->Prop,(
fI (decide (e<m)) (
fI (decide (m<N)) (
C kP #[.slice data datan datac,.int .i64 e,.int .i64 m,.int .i64 N,cmp] d (fun cX bO=>
S [] bO) (Kp))<|
S [] d)<|
S [] d)/\∀ (T:Heap) (cY:Nat->Value) ,S [] T->(
∃ U:List Value->Heap->Prop,(
fI (decide (a<e)) (
fI (decide (e<y)) (
C iN #[.slice data datan datac,.int .i64 a,.int .i64 e,.int .i64 y,cmp] T (fun cZ bP=>
U [] bP) (Kp))<|
U [] T)<|
U [] T)/\∀ (V:Heap) (c0:Nat->Value) ,U [] V->(
fI (decide (y<N)) (
fI (decide (N<b)) (
C iN #[.slice data datan datac,.int .i64 y,.int .i64 N,.int .i64 b,cmp] V (fun c1 bQ=>
K (.tuple #[]) bQ) (Kp))<|
K (.tuple #[]) V)<|
K (.tuple #[]) V))))
def jQ (C:gl) (s:Option Addr) (sn sc:Nat) (f:Value) (h:Heap) (K:VK) (Kp:PK):Prop :=
∃ e:Nat->List Value->Heap->Prop,(∃ d,e d [.int .i64 0] h)/\∀ (d:Nat) (b:Heap) (w:Nat->Value) (a:Int),e d [.int .i64 a] b->(
fI (decide (a<(sn:Int))) (
fW (0<=a/\a<(sn:Int))<|
ptr s fun c=>
ldI b ((c.add (a.toNat*7)).add 0) .i64 fun u=>
ldI b ((c.add (a.toNat*7)).add 1) .i64 fun v=>
ldI b ((c.add (a.toNat*7)).add 2) .i64 fun m=>
ldB b ((c.add (a.toNat*7)).add 3) fun n=>
ldI b ((c.add (a.toNat*7)).add 4) .i64 fun o=>
ldI b ((c.add (a.toNat*7)).add 5) .i64 fun p=>
ldS b ((c.add (a.toNat*7)).add 6) fun q j k=>
oy C (Kp) f [.agg #[.int .i64 u,.int .i64 v,.int .i64 m,.bool n,.int .i64 o,.int .i64 p,.slice q j k]] b fun r g=>
∃ (i:Bool),r = .bool i/\(
fI i (
K (.int .i64 a) g)<|
fG (IntKind.i64.wrap (a+(1:Int))) fun t=>
∃ l,l<d/\e l [.int .i64 t] g))<|
K (.int .i64 (-1)) b)
def lg (C:gl) (data:Option Addr) (datan datac:Nat) (a m b:Int) (cmp:Value) (h:Heap) (K:VK) (Kp:PK):Prop :=
fG (IntKind.i64.wrap (m-a)) fun u=>
fG (IntKind.i64.wrap (b-m)) fun v=>
∃ g:Nat->List Value->Heap->Prop,(∃ e,g e [.int .i64 u,.int .i64 v] h)/\∀ (e:Nat) (i:Heap) (z:Nat->Value) (c d:Int),g e [.int .i64 c,.int .i64 d] i->(
fI (c != d) (
fI (decide (c > d)) (
fG (IntKind.i64.wrap (m-c)) fun j=>
C iY #[.slice data datan datac,.int .i64 j,.int .i64 m,.int .i64 d,cmp] i (fun w k=>
fG (IntKind.i64.wrap (c-d)) fun l=>
∃ f,f<e/\g f [.int .i64 l,.int .i64 d] k) (Kp))<|
fG (IntKind.i64.wrap (m-c)) fun n=>
fG (IntKind.i64.wrap (m+d)) fun o=>
fG (IntKind.i64.wrap (o-c)) fun p=>
C iY #[.slice data datan datac,.int .i64 n,.int .i64 p,.int .i64 c,cmp] i (fun x q=>
fG (IntKind.i64.wrap (d-c)) fun r=>
∃ f,f<e/\g f [.int .i64 c,.int .i64 r] q) (Kp))<|
fG (IntKind.i64.wrap (m-c)) fun s=>
C iY #[.slice data datan datac,.int .i64 s,.int .i64 m,.int .i64 c,cmp] i (fun y t=>
K (.tuple #[]) t) (Kp))
def mr (C:gl) (s1:Option Addr) (s1n s1c:Nat) (s2:Option Addr) (s2n s2c:Nat) (h:Heap) (K:VK) (Kp:PK):Prop :=
fI ((s1n:Int) != (s2n:Int)) (
K (.bool false) h)<|
∃ d:Nat->List Value->Heap->Prop,(∃ c,d c [.int .i64 0] h)/\∀ (c:Nat) (b:Heap) (l:Nat->Value) (a:Int),d c [.int .i64 a] b->(
fI (decide (a<(s1n:Int))) (
fW (0<=a/\a<(s1n:Int))<|
ptr s1 fun i=>
fW (0<=a/\a<(s2n:Int))<|
ptr s2 fun j=>
ldI b (i.add (a.toNat*1)) .u64 fun k=>
ldI b (j.add (a.toNat*1)) .u64 fun f=>
fI (k != f) (
K (.bool false) b)<|
fG (IntKind.i64.wrap (a+(1:Int))) fun g=>
∃ e,e<c/\d e [.int .i64 g] b)<|
K (.bool true) b)
def kE (C:gl) (data:Option Addr) (datan datac:Nat) (a b n:Int) (cmp:Value) (h:Heap) (K:VK) (Kp:PK):Prop :=
∃ p:Nat->List Value->Heap->Prop,(∃ o,p o [.int .i64 0] h)/\∀ (o:Nat) (c:Heap) (aa:Nat->Value) (m:Int),p o [.int .i64 m] c->(
fI (decide (m<n)) (
fG (IntKind.i64.wrap (a+m)) fun j=>
fG (IntKind.i64.wrap (b+m)) fun k=>
fG (IntKind.i64.wrap (b+m)) fun l=>
fW (0<=l/\l<(datan:Int))<|
ptr data fun e=>
fG (IntKind.i64.wrap (a+m)) fun d=>
fW (0<=d/\d<(datan:Int))<|
ptr data fun f=>
ldI c ((e.add (l.toNat*7)).add 0) .i64 fun v=>
ldI c ((e.add (l.toNat*7)).add 1) .i64 fun w=>
ldI c ((e.add (l.toNat*7)).add 2) .i64 fun x=>
ldB c ((e.add (l.toNat*7)).add 3) fun y=>
ldI c ((e.add (l.toNat*7)).add 4) .i64 fun z=>
ldI c ((e.add (l.toNat*7)).add 5) .i64 fun A=>
ldS c ((e.add (l.toNat*7)).add 6) fun B q r=>
ldI c ((f.add (d.toNat*7)).add 0) .i64 fun D=>
ldI c ((f.add (d.toNat*7)).add 1) .i64 fun E=>
ldI c ((f.add (d.toNat*7)).add 2) .i64 fun F=>
ldB c ((f.add (d.toNat*7)).add 3) fun G=>
ldI c ((f.add (d.toNat*7)).add 4) .i64 fun H=>
ldI c ((f.add (d.toNat*7)).add 5) .i64 fun I=>
ldS c ((f.add (d.toNat*7)).add 6) fun J s t=>
fW (0<=j/\j<(datan:Int))<|
ptr data fun g=>
stV c ((g.add (j.toNat*7)).add 0) (.int .i64 v) fun L=>
stV L ((g.add (j.toNat*7)).add 1) (.int .i64 w) fun M=>
stV M ((g.add (j.toNat*7)).add 2) (.int .i64 x) fun N=>
stV N ((g.add (j.toNat*7)).add 3) (.bool y) fun O=>
stV O ((g.add (j.toNat*7)).add 4) (.int .i64 z) fun P=>
stV P ((g.add (j.toNat*7)).add 5) (.int .i64 A) fun Q=>
stV Q ((g.add (j.toNat*7)).add 6) (.slice B q r) fun R=>
fW (0<=k/\k<(datan:Int))<|
ptr data fun i=>
stV R ((i.add (k.toNat*7)).add 0) (.int .i64 D) fun S=>
stV S ((i.add (k.toNat*7)).add 1) (.int .i64 E) fun T=>
stV T ((i.add (k.toNat*7)).add 2) (.int .i64 F) fun U=>
stV U ((i.add (k.toNat*7)).add 3) (.bool G) fun V=>
stV V ((i.add (k.toNat*7)).add 4) (.int .i64 H) fun W=>
stV W ((i.add (k.toNat*7)).add 5) (.int .i64 I) fun X=>
stV X ((i.add (k.toNat*7)).add 6) (.slice J s t) fun Y=>
fG (IntKind.i64.wrap (m+(1:Int))) fun Z=>
∃ u,u<o/\p u [.int .i64 Z] Y)<|
K (.tuple #[]) c)
theorem nk {s:Option Addr} {sn sc:Nat} {h:Heap} {K:VK} {Kp:PK} (H:ke QP s sn sc h K Kp):QP j2 #[.slice s sn sc] h K Kp :=
 fJ (Hints.mk (fun i=>none) (fun i=>none) (fun i=>none) []) (by kernel_rfl) Go.Proofs.Tryz.func64 (by kernel_rfl) (fun C=>ke C s sn sc h K Kp) (fun C=>by kernel_rfl) H
theorem mZ {s:Option Addr} {sn sc:Nat} {h:Heap} {K:VK} {Kp:PK} (H:lr QP s sn sc h K Kp):QP jv #[.slice s sn sc] h K Kp :=
 fJ (Hints.mk (fun i=>none) (fun i=>none) (fun i=>none) []) (by kernel_rfl) Go.Proofs.Tryz.func65 (by kernel_rfl) (fun C=>lr C s sn sc h K Kp) (fun C=>by kernel_rfl) H
theorem j4 {x:Option Addr} {xn xc:Nat} {cmp:Value} {h:Heap} {K:VK} {Kp:PK} (H:iV QP x xn xc cmp h K Kp):QP iQ #[.slice x xn xc,cmp] h K Kp :=
 fJ (Hints.mk (fun i=>none) (fun i=>none) (fun i=>none) []) (by kernel_rfl) Go.Proofs.Tryz.func66 (by kernel_rfl) (fun C=>iV C x xn xc cmp h K Kp) (fun C=>by kernel_rfl) H
theorem mV {s:Option Addr} {sn sc:Nat} {f:Value} {h:Heap} {K:VK} {Kp:PK} (H:jS QP s sn sc f h K Kp):QP jd #[.slice s sn sc,f] h K Kp :=
 fJ (Hints.mk (fun i=>none) (fun i=>none) (fun i=>none) []) (by kernel_rfl) Go.Proofs.Tryz.func74 (by kernel_rfl) (fun C=>jS C s sn sc f h K Kp) (fun C=>by kernel_rfl) H
theorem lV {data:Option Addr} {datan datac:Nat} {n:Int} {cmp:Value} {h:Heap} {K:VK} {Kp:PK} (H:j0 QP data datan datac n cmp h K Kp):QP kO #[.slice data datan datac,.int .i64 n,cmp] h K Kp :=
 fJ (Hints.mk (fun i=>none) (fun i=>bif Nat.beq i 2 then some ([(7,.int .i64),(8,.int .i64)],8386944) else (bif Nat.beq i 7 then some ([(6,.int .i64)],9223372036586341312) else (bif Nat.beq i 9 then some ([(7,.int .i64),(8,.int .i64)],562941363487104) else (none)))) (fun i=>none) []) (by kernel_rfl) Go.Proofs.Tryz.func116 (by kernel_rfl) (fun C=>j0 C data datan datac n cmp h K Kp) (fun C=>by kernel_rfl) H
theorem nj {s:Option Addr} {sn sc:Nat} {f:Value} {h:Heap} {K:VK} {Kp:PK} (H:ka QP s sn sc f h K Kp):QP lK #[.slice s sn sc,f] h K Kp :=
 fJ (Hints.mk (fun i=>none) (fun i=>bif Nat.beq i 2 then some ([(8,.int .i64)],524080) else (none)) (fun i=>none) []) (by kernel_rfl) Go.Proofs.Tryz.func118 (by kernel_rfl) (fun C=>ka C s sn sc f h K Kp) (fun C=>by kernel_rfl) H
theorem my {s:Option Addr} {sn sc:Nat} {f:Value} {h:Heap} {K:VK} {Kp:PK} (H:jE QP s sn sc f h K Kp):QP iB #[.slice s sn sc,f] h K Kp :=
 fJ (Hints.mk (fun i=>none) (fun i=>none) (fun i=>none) []) (by kernel_rfl) Go.Proofs.Tryz.func137 (by kernel_rfl) (fun C=>jE C s sn sc f h K Kp) (fun C=>by kernel_rfl) H
theorem kX {data:Option Addr} {datan datac:Nat} {a b:Int} {cmp:Value} {h:Heap} {K:VK} {Kp:PK} (H:jn QP data datan datac a b cmp h K Kp):QP je #[.slice data datan datac,.int .i64 a,.int .i64 b,cmp] h K Kp :=
 fJ (Hints.mk (fun i=>bif Nat.beq i 4 then some ([14],.take 0 <| .take 1 <| .take 2 <| .take 3 <| .take 4 <| .take 5 <| .take 6 <| .take 7 <| .take 9 <| .take 10 <| .take 11 <| .take 12 <| .take 8 <| .take 13 <| .bar 14 [] <| .take 15 <| .take 16 <| .done) else (bif Nat.beq i 6 then some ([15,17],.take 0 <| .take 1 <| .take 2 <| .take 3 <| .take 4 <| .take 5 <| .take 6 <| .take 7 <| .take 8 <| .take 10 <| .take 11 <| .take 12 <| .take 9 <| .take 13 <| .take 14 <| .bar 15 [17] <| .take 16 <| .bar 17 [] <| .done) else (none))) (fun i=>bif Nat.beq i 1 then some ([(8,.int .i64)],9007199254737664) else (bif Nat.beq i 4 then some ([(9,.int .i64)],9007199254479360) else (none))) (fun i=>none) []) (by kernel_rfl) Go.Proofs.Tryz.func163 (by kernel_rfl) (fun C=>jn C data datan datac a b cmp h K Kp) (fun C=>by kernel_rfl) H
theorem nZ {data:Option Addr} {datan datac:Nat} {a m b:Int} {cmp:Value} {h:Heap} {K:VK} {Kp:PK} (H:kN QP data datan datac a m b cmp h K Kp):QP iN #[.slice data datan datac,.int .i64 a,.int .i64 m,.int .i64 b,cmp] h K Kp :=
 fJ (Hints.mk (fun i=>bif Nat.beq i 5 then some ([9],.take 0 <| .take 1 <| .take 2 <| .take 3 <| .take 5 <| .take 6 <| .take 7 <| .take 4 <| .take 8 <| .bar 9 [] <| .take 10 <| .done) else (bif Nat.beq i 11 then some ([15,17],.take 0 <| .take 1 <| .take 2 <| .take 3 <| .take 4 <| .take 5 <| .take 6 <| .take 7 <| .take 8 <| .take 10 <| .take 11 <| .take 12 <| .take 9 <| .take 13 <| .take 14 <| .bar 15 [17] <| .take 16 <| .bar 17 [] <| .done) else (bif Nat.beq i 17 then some ([9],.take 0 <| .take 1 <| .take 2 <| .take 3 <| .take 5 <| .take 6 <| .take 7 <| .take 4 <| .take 8 <| .bar 9 [] <| .take 10 <| .take 11 <| .done) else (bif Nat.beq i 23 then some ([15,17],.take 0 <| .take 1 <| .take 2 <| .take 3 <| .take 4 <| .take 5 <| .take 6 <| .take 7 <| .take 8 <| .take 10 <| .take 11 <| .take 12 <| .take 9 <| .take 13 <| .take 14 <| .bar 15 [17] <| .take 16 <| .bar 17 [] <| .done) else (bif Nat.beq i 35 then some ([11],.take 0 <| .take 1 <| .take 2 <| .take 3 <| .take 4 <| .take 5 <| .take 7 <| .take 8 <| .take 9 <| .take 6 <| .take 10 <| .bar 11 [] <| .take 12 <| .take 13 <| .done) else (none)))))) (fun i=>bif Nat.beq i 3 then some ([(10,.int .i64),(11,.int .i64)],18014396362005504) else (bif Nat.beq i 9 then some ([(13,.int .i64)],151115691423031627882496) else (bif Nat.beq i 15 then some ([(14,.int .i64),(15,.int .i64)],162259267157806806474544612753408) else (bif Nat.beq i 21 then some ([(17,.int .i64)],680564409323323268500022431707515977728) else (bif Nat.beq i 33 then some ([(20,.int .i64),(21,.int .i64)],47890484938435180470718404069304177263338029388398592) else (none)))))) (fun i=>bif Nat.beq i 32 then some ([(20,.int .i64),(21,.int .i64)],178057512444517944145699250583176761402458112) else (bif Nat.beq i 41 then some ([],6276718611501464291621199836450878838806450759683488612352) else (bif Nat.beq i 43 then some ([],102837757730839990953921738120411198895004889246654277424775168) else (none)))) []) (by kernel_rfl) Go.Proofs.Tryz.func164 (by kernel_rfl) (fun C=>kN C data datan datac a m b cmp h K Kp) (fun C=>by kernel_rfl) H
theorem mN {s:Option Addr} {sn sc:Nat} {f:Value} {h:Heap} {K:VK} {Kp:PK} (H:jQ QP s sn sc f h K Kp):QP k9 #[.slice s sn sc,f] h K Kp :=
 fJ (Hints.mk (fun i=>none) (fun i=>bif Nat.beq i 2 then some ([(8,.int .i64)],524080) else (none)) (fun i=>none) []) (by kernel_rfl) Go.Proofs.Tryz.func178 (by kernel_rfl) (fun C=>jQ C s sn sc f h K Kp) (fun C=>by kernel_rfl) H
theorem ox {data:Option Addr} {datan datac:Nat} {a m b:Int} {cmp:Value} {h:Heap} {K:VK} {Kp:PK} (H:lg QP data datan datac a m b cmp h K Kp):QP kP #[.slice data datan datac,.int .i64 a,.int .i64 m,.int .i64 b,cmp] h K Kp :=
 fJ (Hints.mk (fun i=>none) (fun i=>bif Nat.beq i 2 then some ([(10,.int .i64),(11,.int .i64)],1125899906583552) else (none)) (fun i=>none) []) (by kernel_rfl) Go.Proofs.Tryz.func191 (by kernel_rfl) (fun C=>lg C data datan datac a m b cmp h K Kp) (fun C=>by kernel_rfl) H
theorem rM {s1:Option Addr} {s1n s1c:Nat} {s2:Option Addr} {s2n s2c:Nat} {h:Heap} {K:VK} {Kp:PK} (H:mr QP s1 s1n s1c s2 s2n s2c h K Kp):QP l6 #[.slice s1 s1n s1c,.slice s2 s2n s2c] h K Kp :=
 fJ (Hints.mk (fun i=>bif Nat.beq i 6 then some ([],.take 0 <| .take 1 <| .take 2 <| .take 4 <| .take 5 <| .take 6 <| .take 3 <| .take 7 <| .take 8 <| .done) else (none)) (fun i=>bif Nat.beq i 4 then some ([(13,.int .i64)],67100720) else (none)) (fun i=>none) []) (by kernel_rfl) Go.Proofs.Tryz.func197 (by kernel_rfl) (fun C=>mr C s1 s1n s1c s2 s2n s2c h K Kp) (fun C=>by kernel_rfl) H
theorem nN {data:Option Addr} {datan datac:Nat} {a b n:Int} {cmp:Value} {h:Heap} {K:VK} {Kp:PK} (H:kE QP data datan datac a b n cmp h K Kp):QP iY #[.slice data datan datac,.int .i64 a,.int .i64 b,.int .i64 n,cmp] h K Kp :=
 fJ (Hints.mk (fun i=>bif Nat.beq i 3 then some ([21,23],.take 0 <| .take 1 <| .take 2 <| .take 3 <| .take 4 <| .take 5 <| .take 6 <| .take 7 <| .take 8 <| .take 9 <| .take 10 <| .take 11 <| .take 12 <| .take 14 <| .take 15 <| .take 16 <| .take 17 <| .take 18 <| .take 13 <| .take 19 <| .take 20 <| .bar 21 [23] <| .take 22 <| .bar 23 [] <| .done) else (none)) (fun i=>bif Nat.beq i 1 then some ([(10,.int .i64)],274877905920) else (none)) (fun i=>none) []) (by kernel_rfl) Go.Proofs.Tryz.func206 (by kernel_rfl) (fun C=>kE C data datan datac a b n cmp h K Kp) (fun C=>by kernel_rfl) H
end Go.Den.YtbknfejmdekhpaaGreat
namespace Go.Bm
open Go Go.Den Go.Den.YtbknfejmdekhpaaGreat
abbrev CP:gl:=kW Go.Proofs.Tryz.prog
abbrev at0 (p:Nat):Option Addr:=some ⟨p,0,none⟩
theorem fL {p:Prop} [Decidable p] {X Y:Prop} (ht:p->X) (hf:¬ p->Y):fI (decide p) X Y :=
 gP (fun h=>ht (of_decide_eq_true h)) fun h=>hf (of_decide_eq_false h)
theorem iA {a b:Int} {X Y:Prop} (ht:a=b->X) (hf:a≠b->Y):fI (a == b) X Y :=
 gP (fun h=>ht (by simpa using h)) fun h=>hf (by simpa using h)
theorem jg {a b:Int} {X Y:Prop} (ht:a≠b->X) (hf:a=b->Y):fI (a != b) X Y :=
 gP (fun h=>ht (by simpa using h)) fun h=>hf (by simpa using h)
theorem iM {b:Bool} {X Y:Prop} (ht:b=false->X) (hf:b=true->Y):fI (!b) X Y :=
 gP (fun h=>ht (by simpa using h)) fun h=>hf (by simpa using h)
theorem add_zero' (a:Addr):a.add 0=a:=by unfold Addr.add; rw [if_pos rfl]
theorem m9 {h:Heap} {a:Option Addr} {n:Nat} {cs:List Value} (hr:rdO h a n cs) {i:Nat} {v:Value} (hi:cs[i]? = some v):∃ ad,a=some ad/\ic h (ad.add i)=some v:=by
 cases a with
 | none=>unfold rdO at hr; rw [hr] at hi; simp at hi
 | some ad=>exact ⟨ad,rfl,hr.2 i v hi⟩
def jX (w h:Int):Prop:=1<=w/\1<=h/\w<=1048576/\h<=1048576/\w*h<=1048576
theorem Qo {w h:Int} (h1:1<=w) (h2:1<=h) (h3:w<=1048576) (h4:h<=1048576):1<=w*h/\w*h<=1099511627776:=by
 constructor
 ·have:=Int.mul_le_mul h1 h2 (by omega) (by omega)
  omega
 ·have:=Int.mul_le_mul h3 h4 (by omega) (by omega)
  omega
theorem Jj {h:Heap} {w h':Int} {K:VK} {Kp:PK} (hk:∀ b:Bool,(b=true↔jX w h')->K (.bool b) h):CP rE #[.int .i64 w,.int .i64 h'] h K Kp:=by
 refine CV ?_
 unfold yo
 refine fL (fun h1=>?_) fun h1=>hk false (by simp [jX]; omega)
 refine fL (fun h2=>?_) fun h2=>hk false (by simp [jX]; omega)
 refine fL (fun h3=>?_) fun h3=>hk false (by simp [jX]; omega)
 refine fL (fun h4=>?_) fun h4=>hk false (by simp [jX]; omega)
 obtain ⟨g1,g2⟩:=Qo h1 h2 h3 h4
 refine fw ((w*h')) (by exact i64_in _ (by omega) (by omega)) ?_
 exact hk _ (by simp [jX]; omega)
theorem Fu {h:Heap} {w h':Int} {K:VK} {Kp:PK} (hk:∀ b:Bool,(b=true↔jX w h')->K (.bool b) h):CP nc #[.int .i64 w,.int .i64 h'] h K Kp:=by
 refine AX ?_
 unfold vb
 refine fL (fun h1=>?_) fun h1=>hk false (by simp [jX]; omega)
 refine fL (fun h2=>?_) fun h2=>hk false (by simp [jX]; omega)
 refine fL (fun h3=>?_) fun h3=>hk false (by simp [jX]; omega)
 refine fH (by first | exact ⟨rfl,by omega⟩ | exact ⟨trivial,by omega⟩) ?_
 obtain ⟨W,rfl⟩:∃ W:Nat,w=(W:Nat):=⟨w.toNat,by omega⟩
 obtain ⟨X,rfl⟩:∃ X:Nat,h'=(X:Nat):=⟨h'.toNat,by omega⟩
 have hW:1<=W:=by omega
 have hq:=kz 1048576 W
 obtain ⟨Q,hQ⟩:∃ Q,Q=1048576 / W:=⟨_,rfl⟩
 refine fw (((Q:Nat):Int)) (by exact fO _ _ (by rw [hQ]; exact mL 1048576 W) (by omega) (by omega)) ?_
 refine hk _ ?_
 rw [decide_eq_true_iff]
 have hm:=Nat.le_div_iff_mul_le (k:=W) (x:=X) (y:=1048576) (by omega)
 unfold jX
 constructor
 ·intro h5
  have h6:X<=1048576 / W:=by omega
  have h7:=hm.1 h6
  rw [gS] at h7
  refine ⟨h1,h2,h3,by omega,?_⟩
  rw [<- nT]
  omega
 ·rintro ⟨_,_,_,_,h7⟩
  rw [<- nT] at h7
  have h8:W*X<=1048576:=by omega
  rw [gS] at h8
  have:=hm.2 h8
  omega
theorem y4 {h:Heap} {w:Nat} (hw:w<=1048576) {K:VK} {Kp:PK} (hk:K (.int .i64 (wds w:Nat)) h):CP ly #[.int .i64 (w:Nat)] h K Kp:=by
 refine zR ?_
 unfold tI
 refine fw (((w+63:Nat):Int)) (by exact fO _ _ (by omega) (by omega) (by omega)) ?_
 refine fw (((wds w:Nat):Int)) (by exact fO _ _ (mL (w+63) 64) (by unfold wds; omega) (by unfold wds; omega)) ?_
 exact hk
def wq (w:Nat):Nat:=(64-w % 64) % 64
theorem QC {h:Heap} {w:Nat} {K:VK} {Kp:PK} (hk:∀ L:Nat,L<M64->(∀ j,j<64->L.testBit j=decide (wq w<=j))->K (.int .u64 (L:Nat)) h):CP wR #[.int .i64 (w:Nat)] h K Kp:=by
 refine DW ?_
 unfold Ae
 have h64:=iP w (show 64 > 0 by decide)
 refine fw (((w % 64:Nat):Int)) (by exact kM w 64) ?_
 refine fw (((64-w % 64:Nat):Int)) (by exact fO _ _ (by omega) (by omega) (by omega)) ?_
 refine fw (((wq w:Nat):Int)) (by exact kM (64-w % 64) 64) ?_
 have hp:wq w<64:=iP _ (by decide)
 refine fH (by omega) ?_
 have hlt:18446744073709551615*2 ^ wq w % M64<M64:=iP _ (by decide)
 refine fw (((18446744073709551615*2 ^ wq w % M64:Nat):Int)) (by exact lP (x:=18446744073709551615) (i:=wq w) (by show wq w<=64; omega) (by simp [IntKind.wrap,IntKind.bits,IntKind.signed])) ?_
 refine hk _ hlt fun j hj=>?_
 rw [C5,xE,decide_eq_true hj,jm,show 18446744073709551615=2 ^ 64-1 from rfl,Nat.testBit_mul_two_pow,tq]
 by_cases h1:wq w<=j
 ·simp [h1]; omega
 ·simp [h1]
def sE (w h:Int) (ws:List Nat):Prop:=jX w h/\ws.length=h.toNat*wds w.toNat/\∀ y,y<h.toNat->ws.getD (y*wds w.toNat+(wds w.toNat-1)) 0 % 2 ^ wq w.toNat=0
theorem Bg {v s:Nat}:v % 2 ^ s=0↔∀ j,j<s->v.testBit j=false:=by
 constructor
 ·intro h j hj
  have:=xE v s j
  rw [h,decide_eq_true hj,jm,m3] at this
  exact this.symm
 ·intro h
  apply Bl
  intro j
  rw [xE,m3]
  by_cases hj:j<s
  ·rw [h j hj]; simp
  ·simp [hj]
theorem Oz {v L w:Nat} (hv:v<M64) (hL:L<M64) (h:∀ j,j<64->L.testBit j=decide (wq w<=j)):v &&& y5 L=0↔v % 2 ^ wq w=0:=by
 have hp:wq w<64:=iP _ (by decide)
 rw [Bg]
 constructor
 ·intro h1 j hj
  have:(v &&& y5 L).testBit j=false:=by rw [h1]; exact m3 j
  rw [mU,s6 hL (by omega),h j (by omega)] at this
  simpa [show ¬ wq w<=j by omega] using this
 ·intro h1
  apply Bl
  intro j
  rw [m3,mU]
  rcases gI j 64 with hj | hj
  ·rw [s6 hL hj,h j hj]
   by_cases h2:wq w<=j
   ·simp [h2]
   ·rw [h1 j (by omega)]; simp
  ·rw [C1 hv hj]; simp
theorem jf {w h:Int} (hs:jX w h):∃ W H:Nat,w=(W:Nat)/\h=(H:Nat)/\1<=W/\W<=1048576/\1<=H/\H<=1048576/\W*H<=1048576:=by
 obtain ⟨h1,h2,h3,h4,h5⟩:=hs
 refine ⟨w.toNat,h.toNat,by omega,by omega,by omega,by omega,by omega,by omega,?_⟩
 have e1:((w.toNat:Nat):Int)=w:=by omega
 have e2:((h.toNat:Nat):Int)=h:=by omega
 have:((w.toNat*h.toNat:Nat):Int)<=1048576:=by rw [nT,e1,e2]; exact h5
 omega
theorem Ap {w:Nat} (h:1<=w):1<=wds w:=by unfold wds; omega
theorem vY {w:Nat} (h:1<=w):wds w<=w:=by unfold wds; omega
theorem rR {W H:Nat} (h1:1<=W) (h:W*H<=1048576):H*wds W<=1048576 :=
 iL (Nat.mul_le_mul_left H (vY h1)) (by rw [gS]; exact h)
theorem w9 {hB:Heap} {w h':Int} {q:Option Addr} {c:Nat} {ws:List Nat} (hr:rdO hB q (ws.length*1) (il ws)) (hw:W64 ws) (hl:ws.length<140737488351300) {K:VK} {Kp:PK}
  (hk:∀ (b:Bool) h,(b=true↔sE w h' ws)->gi hB h->K (.bool b) h):CP lX #[.agg #[.int .i64 w,.int .i64 h',.slice q ws.length c]] hB K Kp:=by
 refine CX ?_
 unfold yq
 have H:=Hp.nil hB []
 refine fV H fun r h H=>?_
 try simp only [ga,gC,fN,gr]
 refine fz (H.cell 0 rfl rfl) ?_
 refine fz (H.cell 0 rfl rfl) ?_
 refine Jj fun b hb=>?_
 refine ⟨_,rfl,?_⟩
 refine iM (fun h1=>?_) fun h1=>?_
 ·refine hk false _ ⟨(fun h=>Bool.noConfusion h),fun hm=>?_⟩ H.gi
  have:=hb.2 hm.1
  rw [h1] at this; cases this
 obtain ⟨W,X,rfl,rfl,hW1,hW2,hX1,hX2,hWX⟩:=jf (hb.1 h1)
 have hwd:=Ap hW1
 have hwl:=vY hW1
 have hhw:=rR hW1 hWX
 refine fz (H.cell 0 rfl rfl) ?_
 refine fw (((W+63:Nat):Int)) (by exact fO _ _ (by omega) (by omega) (by omega)) ?_
 refine fw (((wds W:Nat):Int)) (by exact fO _ _ (mL (W+63) 64) (by unfold wds; omega) (by unfold wds; omega)) ?_
 refine fU (H.cell 0 rfl rfl) ?_
 refine fz (H.cell 0 rfl rfl) ?_
 refine fw (((X*wds W:Nat):Int)) (by exact fO _ _ (by rw [nT]) (by omega) (by omega)) ?_
 refine jg (fun h2=>?_) fun h2=>?_
 ·exact hk false _ ⟨(fun h=>Bool.noConfusion h),fun hm=>absurd (by exact_mod_cast hm.2.1) h2⟩ H.gi
 have h2:ws.length=X*wds W:=by exact_mod_cast h2
 refine fz (H.cell 0 rfl rfl) ?_
 refine ⟨fun n vs h=>∃ y:Nat,y+n=X/\vs=[.int .i64 (y:Int)]/\Hp hB [] h [⟨r,true,fK,[.int .i64 (W:Nat),.int .i64 (X:Nat),.slice q ws.length c]⟩]/\∀ y',y'<y->ws.getD (y'*wds W+(wds W-1)) 0 % 2 ^ wq W=0,⟨X,0,by omega,rfl,H,fun y' h=>by omega⟩,?_⟩
 clear H
 rintro n h u x ⟨y,hyn,hx,H,hz⟩
 injection hx with hx
 injection hx with _ hx
 subst hx
 refine fL (fun h3=>?_) fun h3=>?_
 ·have h3:y<X:=by omega
  have hil:=rZ (c:=wds W-1) (wd:=wds W) (y:=y) (h:=X) (by omega) h3
  refine fw (((y*wds W:Nat):Int)) (by exact fO _ _ (by rw [nT]) (by omega) (by omega)) ?_
  refine fw (((y*wds W+wds W:Nat):Int)) (by exact fO _ _ (by omega) (by omega) (by omega)) ?_
  refine fw (((y*wds W+(wds W-1):Nat):Int)) (by exact fO _ _ (by omega) (by omega) (by omega)) ?_
  refine fU (H.cell 0 rfl rfl) ?_
  refine fH (by omega) ?_
  obtain ⟨a,ha,hc⟩:=m9 (H.rdO hr) (lp (lU (l:=ws) (i:=y*wds W+(wds W-1)) (by omega)))
  subst ha
  simp only [ga,fD,gu]
  refine fz hc ?_
  refine fz (H.cell 0 rfl rfl) ?_
  refine QC fun L hL hLb=>?_
  refine ⟨_,rfl,gi.refl _,?_⟩
  have hv:=hw.get (y*wds W+(wds W-1))
  have hnl:=Oz hv hL hLb
  refine fw _ (xv _ _ hv hL) ?_
  refine jg (fun h4=>?_) fun h4=>?_
  ·exact hk false _ ⟨(fun h=>Bool.noConfusion h),fun hm=>absurd (by exact_mod_cast hnl.2 (hm.2.2 y (by simpa using h3))) h4⟩ H.gi
  ·refine fw (((y+1:Nat):Int)) (by exact fO _ _ (by omega) (by omega) (by omega)) ?_
   refine ⟨n-1,by omega,y+1,by omega,rfl,H,fun y' hy'=>?_⟩
   rcases gI y' y with h5 | h5
   ·exact hz y' h5
   ·have:y'=y:=by omega
    subst this
    exact hnl.1 (by exact_mod_cast h4)
 ·have h3:y=X:=by omega
  subst h3
  exact hk true _ ⟨fun _=>⟨hb.1 h1,by simpa using h2,fun y' hy'=>by simpa using hz y' (by simpa using hy')⟩,fun _=>rfl⟩ H.gi
theorem N3 {v s:Nat} (hs:s<=64):v*2 ^ s % M64=0↔v % 2 ^ (64-s)=0:=by
 have e:M64=2 ^ (64-s)*2 ^ s:=by rw [<- jq,show 64-s+s=64 by omega]
 rw [e,Nat.mul_mod_mul_right]
 constructor
 ·intro h
  rcases Nat.mul_eq_zero.1 h with h1 | h1
  ·exact h1
  ·have:=iI s; omega
 ·intro h; rw [h,kK]
theorem KZ {hB:Heap} {w h':Int} {q:Option Addr} {c:Nat} {ws:List Nat} (hr:rdO hB q (ws.length*1) (il ws)) (hw:W64 ws) (hl:ws.length<140737488351300) {K:VK} {Kp:PK}
  (hk:∀ (b:Bool) h,(b=true↔sE w h' ws)->gi hB h->K (.bool b) h):CP nQ #[.agg #[.int .i64 w,.int .i64 h',.slice q ws.length c]] hB K Kp:=by
 refine B6 ?_
 unfold wI
 have H:=Hp.nil hB []
 refine fV H fun r h H=>?_
 try simp only [ga,gC,fN,gr]
 refine fz (H.cell 0 rfl rfl) ?_
 refine fz (H.cell 0 rfl rfl) ?_
 refine Fu fun b hb=>?_
 refine ⟨_,rfl,?_⟩
 refine iM (fun h1=>?_) fun h1=>?_
 ·refine ⟨gi.refl _,hk false _ ⟨(fun h=>Bool.noConfusion h),fun hm=>?_⟩ H.gi⟩
  have:=hb.2 hm.1
  rw [h1] at this; cases this
 obtain ⟨W,X,rfl,rfl,hW1,hW2,hX1,hX2,hWX⟩:=jf (hb.1 h1)
 have hwd:=Ap hW1
 have hwl:=vY hW1
 have hhw:=rR hW1 hWX
 refine fU (H.cell 0 rfl rfl) ?_
 refine fz (H.cell 0 rfl rfl) ?_
 refine fz (H.cell 0 rfl rfl) ?_
 refine y4 (by omega) ?_
 refine ⟨_,rfl,gi.refl _,?_⟩
 refine fw (((X*wds W:Nat):Int)) (by exact fO _ _ (by rw [nT]) (by omega) (by omega)) ?_
 refine jg (fun h2=>?_) fun h2=>?_
 ·exact hk false _ ⟨(fun h=>Bool.noConfusion h),fun hm=>absurd (by exact_mod_cast hm.2.1) h2⟩ H.gi
 have h2:ws.length=X*wds W:=by exact_mod_cast h2
 refine fz (H.cell 0 rfl rfl) ?_
 have h64:=iP W (show 64 > 0 by decide)
 refine fw (((W % 64:Nat):Int)) (by exact kM W 64) ?_
 refine iA (fun h3=>?_) fun h3=>?_
 ·have h3:W % 64=0:=by omega
  refine hk true _ ⟨fun _=>⟨hb.1 h1,by simpa using h2,fun y' hy'=>?_⟩,fun _=>rfl⟩ H.gi
  have:wq W=0:=by unfold wq; rw [h3]
  simp [this,Nat.mod_one]
 have h3:W % 64≠0:=by omega
 have hpad:wq W=64-W % 64:=by unfold wq; omega
 refine ⟨fun n vs h=>∃ y:Nat,y+n=X/\vs=[.int .i64 (y:Int)]/\Hp hB [] h [⟨r,true,fK,[.int .i64 (W:Nat),.int .i64 (X:Nat),.slice q ws.length c]⟩]/\∀ y',y'<y->ws.getD (y'*wds W+(wds W-1)) 0 % 2 ^ wq W=0,⟨X,0,by omega,rfl,H,fun y' h=>by omega⟩,?_⟩
 clear H
 rintro n h u x ⟨y,hyn,hx,H,hz⟩
 injection hx with hx
 injection hx with _ hx
 subst hx
 refine fz (H.cell 0 rfl rfl) ?_
 refine fL (fun h4=>?_) fun h4=>?_
 ·have h4:y<X:=by omega
  have hil:=rZ (c:=wds W-1) (wd:=wds W) (y:=y) (h:=X) (by omega) h4
  refine fw (((y+1:Nat):Int)) (by exact fO _ _ (by omega) (by omega) (by omega)) ?_
  refine fU (H.cell 0 rfl rfl) ?_
  refine fz (H.cell 0 rfl rfl) ?_
  refine fz (H.cell 0 rfl rfl) ?_
  refine fw (((W % 64:Nat):Int)) (by exact kM W 64) ?_
  refine fw (((W % 64:Nat):Int)) (by exact u64_in _ (by omega) (by omega)) ?_
  refine y4 (by omega) ?_
  refine ⟨_,rfl,gi.refl _,?_⟩
  have hyw:(y+1)*wds W=y*wds W+wds W:=by rw [gZ,kn]
  refine fw (((y*wds W+wds W:Nat):Int)) (by exact fO _ _ (by rw [<- nT,hyw]) (by omega) (by omega)) ?_
  refine fw (((y*wds W+(wds W-1):Nat):Int)) (by exact fO _ _ (by omega) (by omega) (by omega)) ?_
  refine fH (by omega) ?_
  obtain ⟨a,ha,hc⟩:=m9 (H.rdO hr) (lp (lU (l:=ws) (i:=y*wds W+(wds W-1)) (by omega)))
  subst ha
  simp only [ga,fD,gu]
  refine fz hc ?_
  refine fH (by omega) ?_
  have hv:=hw.get (y*wds W+(wds W-1))
  generalize hvv:ws.getD (y*wds W+(wds W-1)) 0=v at hv ⊢
  refine fw (((v*2 ^ (W % 64) % M64:Nat):Int)) (by exact lP (i:=W % 64) (by show W % 64<=64; omega) (by simp [IntKind.wrap,IntKind.bits,IntKind.signed])) ?_
  have hnl:=N3 (v:=v) (s:=W % 64) (by omega)
  rw [<- hpad] at hnl
  refine jg (fun h5=>?_) fun h5=>?_
  ·refine hk false _ ⟨(fun h=>Bool.noConfusion h),fun hm=>absurd (by exact_mod_cast hnl.2 (by rw [<- hvv]; exact hm.2.2 y (by simpa using h4))) h5⟩ H.gi
  ·refine fw (((y+1:Nat):Int)) (by exact fO _ _ (by omega) (by omega) (by omega)) ?_
   refine ⟨n-1,by omega,y+1,by omega,rfl,H,fun y' hy'=>?_⟩
   rcases gI y' y with h6 | h6
   ·exact hz y' h6
   ·have:y'=y:=by omega
    subst this
    rw [hvv]
    exact hnl.1 (by exact_mod_cast h5)
 ·have h4:y=X:=by omega
  subst h4
  exact hk true _ ⟨fun _=>⟨hb.1 h1,by simpa using h2,fun y' hy'=>by simpa using hz y' (by simpa using hy')⟩,fun _=>rfl⟩ H.gi
def InI (x:Int):Prop:=-9223372036854775808<=x/\x<9223372036854775808
theorem KX {a b:Int} {K:Int->Prop} (h:∀ m,(m=a/\a<=b\/m=b/\b<=a)->K m):fG (JD a b) K:=by
 refine nU fun m e=>h m ?_
 unfold JD at e
 split at e <;> omega
theorem RO {a b:Int} {K:Int->Prop} (h:∀ m,(m=a/\b<=a\/m=b/\a<=b)->K m):fG (Qy a b) K:=by
 refine nU fun m e=>h m ?_
 unfold Qy at e
 split at e <;> omega
theorem IU {h:Heap} {off n size:Int} (ho:InI off) (hn:InI n) (hs:1<=size/\size<=1048576) {K:VK} {Kp:PK}
  (hk:∀ skip left:Int,(left=0/\skip=0/\(n<=0\/size<=off\/off+n<=0)\/1<=left/\0<=skip/\0<=off+skip/\off+skip+left<=size/\skip+left<=n/\(skip=0\/off+skip=0)/\(off+skip+left=size\/skip+left=n))->K (.tuple #[.int .i64 skip,.int .i64 left]) h) :
  CP o3 #[.int .i64 off,.int .i64 n,.int .i64 size] h K Kp:=by
 refine EK ?_
 unfold B9
 unfold InI at ho hn
 refine ⟨fun vs h'=>h'=h/\vs=[.bool (decide (n<=0\/size<=off\/off+n<=0))],?_,?_⟩
 ·refine fL (fun h1=>⟨rfl,?_⟩) fun h1=>?_
  ·simp [h1]
  refine fL (fun h2=>⟨rfl,?_⟩) fun h2=>?_
  ·have:size<=off:=by omega
   simp [this]
  refine fw ((-n)) (by exact fO _ _ (by omega) (by omega) (by omega)) ?_
  refine ⟨by first | rfl | trivial,?_⟩
  congr 2
  rw [decide_eq_decide]
  omega
 ·rintro h' u x ⟨rfl,hx⟩
  injection hx with hx
  injection hx with hx
  subst hx
  refine fL (fun h1=>?_) fun h1=>?_
  ·exact hk 0 0 (.inl ⟨rfl,rfl,h1⟩)
  refine fL (fun h2=>?_) fun h2=>?_
  ·refine fw ((size-off)) (by exact i64_in _ (by omega) (by omega)) ?_
   refine KX fun m hm=>?_
   exact hk 0 m (.inr (by omega))
  ·refine fw ((-off)) (by exact fO _ _ (by omega) (by omega) (by omega)) ?_
   refine fw ((n+off)) (by exact i64_in _ (by omega) (by omega)) ?_
   refine KX fun m hm=>?_
   exact hk (-off) m (.inr (by omega))
theorem Mt {h:Heap} {a asz b bs n:Int} (ha:InI a) (hb:InI b) (hn:InI n) (h1:1<=asz/\asz<=1048576) (h2:1<=bs/\bs<=1048576) {K:VK} {Kp:PK}
  (hk:∀ f t l:Int,((l=0/\∀ k,0<=k->k<n->0<=a+k->a+k<asz->0<=b+k->b+k<bs->False) \/
    1<=l/\t-b=f-a/\0<=f/\f+l<=asz/\0<=t/\t+l<=bs/\a<=f/\f+l<=a+n/\∀ k,0<=k->k<n->0<=a+k->a+k<asz->0<=b+k->b+k<bs->t<=b+k/\b+k<t+l)->K (.tuple #[.int .i64 f,.int .i64 t,.int .i64 l]) h) :
  CP s5 #[.int .i64 a,.int .i64 asz,.int .i64 b,.int .i64 bs,.int .i64 n] h K Kp:=by
 refine DX ?_
 unfold Af
 refine IU ha hn h1 fun s1 l1 c1=>?_
 refine ⟨_,_,rfl,?_⟩
 unfold InI at ha hb hn
 refine iA (fun h3=>?_) fun h3=>?_
 ·exact hk 0 0 0 (.inl ⟨rfl,fun k _ _ _ _ _ _=>by omega⟩)
 have c1:=c1.resolve_left (by omega)
 refine fw ((9223372036854775807-s1)) (by exact i64_in _ (by omega) (by omega)) ?_
 refine fL (fun h4=>?_) fun h4=>?_
 ·exact hk 0 0 0 (.inl ⟨rfl,fun k _ _ _ _ _ _=>by omega⟩)
 refine fw ((a+s1)) (by exact i64_in _ (by omega) (by omega)) ?_
 refine fw ((b+s1)) (by exact i64_in _ (by omega) (by omega)) ?_
 refine IU ⟨by omega,by omega⟩ ⟨by omega,by omega⟩ h2 fun s2 l2 c2=>?_
 refine ⟨_,_,rfl,?_⟩
 rcases c2 with ⟨e1,e2,e3⟩ | c2
 ·subst e1 e2
  refine fw ((a+s1)) (by exact fO _ _ (by omega) (by omega) (by omega)) ?_
  refine fw ((b+s1)) (by exact fO _ _ (by omega) (by omega) (by omega)) ?_
  exact hk _ _ 0 (.inl ⟨rfl,fun k _ _ _ _ _ _=>by omega⟩)
 ·refine fw ((a+s1+s2)) (by exact i64_in _ (by omega) (by omega)) ?_
  refine fw ((b+s1+s2)) (by exact i64_in _ (by omega) (by omega)) ?_
  refine hk _ _ l2 (.inr ⟨by omega,by omega,by omega,by omega,by omega,by omega,by omega,by omega,fun k _ _ _ _ _ _=>by omega⟩)
theorem IC {h:Heap} {i x n:Nat} (hi:64*i<x+n) (hb:x+n<=4194304) {K:VK} {Kp:PK}
  (hk:∀ M:Nat,M<M64->(∀ j,j<64->M.testBit j=decide (x<=64*i+(63-j)/\64*i+(63-j)<x+n))->K (.int .u64 (M:Nat)) h) :
  CP pM #[.int .i64 (i:Nat),.int .i64 (x:Nat),.int .i64 (n:Nat)] h K Kp:=by
 refine DV ?_
 unfold Ad
 refine fw (((64*i:Nat):Int)) (by exact fO _ _ (by omega) (by omega) (by omega)) ?_
 refine fw ((((x:Nat):Int)-((64*i:Nat):Int))) (by exact i64_in _ (by omega) (by omega)) ?_
 refine RO fun m1 hm1=>?_
 obtain ⟨p,rfl⟩:∃ p:Nat,m1=(p:Nat):=⟨m1.toNat,by omega⟩
 refine fw (((x+n:Nat):Int)) (by exact fO _ _ (by omega) (by omega) (by omega)) ?_
 refine fw (((64*i:Nat):Int)) (by exact fO _ _ (by omega) (by omega) (by omega)) ?_
 refine fw (((x+n-64*i:Nat):Int)) (by exact fO _ _ (by omega) (by omega) (by omega)) ?_
 refine KX fun m2 hm2=>?_
 obtain ⟨q,rfl⟩:∃ q:Nat,m2=(q:Nat):=⟨m2.toNat,by omega⟩
 have hq64:q<=64:=by omega
 have hsh:∀ p:Nat,l8 .u64 (18446744073709551615:Int) (p:Int)=((18446744073709551615 / 2 ^ min p 64:Nat):Int):=by
  intro p
  rcases gI 64 p with h1 | h1
  ·have e:min p 64=64:=by omega
   rw [e]
   have e2:l8 .u64 (18446744073709551615:Int) (p:Int)=l8 .u64 (18446744073709551615:Int) ((64:Nat):Int):=by
    unfold l8
    rw [fD,fD]
    have:Nat.min p IntKind.u64.bits=Nat.min 64 IntKind.u64.bits:=by
     show min p 64=min 64 64
     omega
    first | rw [this] | (simp only [Nat.min_def] at this ⊢; rw [this])
   rw [e2]
   exact lG (k := .u64) (x:=18446744073709551615) (i:=64) (by decide)
  ·have e:min p 64=p:=by omega
   rw [e]
   exact lG (k := .u64) (x:=18446744073709551615) (i:=p) h1
 have hlt:∀ p:Nat,18446744073709551615 / 2 ^ p<M64:=fun p=>ir (kz _ _) (by decide)
 refine fH (by omega) ?_
 refine fw _ (hsh p) ?_
 refine fH (by omega) ?_
 refine fw _ (hsh q) ?_
 refine fw _ (xv _ _ (hlt _) (hlt _)) ?_
 refine hk _ (ri (hlt _)) fun j hj=>?_
 rw [mU,s6 (hlt _) hj,JA (by omega),JA (by omega)]
 rw [<- decide_not,<- Bool.decide_and,decide_eq_decide]
 omega
theorem LP {v s j:Nat}:(v / 2 ^ s).testBit j=v.testBit (j+s):=Nat.testBit_div_two_pow v j
theorem LQ {v s j:Nat} (hj:j<64):(v*2 ^ s % M64).testBit j=(decide (s<=j) && v.testBit (j-s)):=by
 rw [C5,xE,decide_eq_true hj,jm,Nat.testBit_mul_two_pow]
theorem Cn (x:Nat):IntKind.u64.wrap (x:Int)=((x % M64:Nat):Int):=by simp [IntKind.wrap,IntKind.bits,IntKind.signed]
theorem I4 {h:Heap} {q:Option Addr} {c:Nat} {ws:List Nat} (hr:rdO h q (ws.length*1) (il ws)) (hw:W64 ws) (hl:ws.length<1048577) {x:Nat} (hx:x<1000000000) {K:VK} {Kp:PK}
  (hk:∀ V:Nat,V<M64->(∀ j,j<64->V.testBit j=KL ws ((x:Int)+(63-(j:Int))))->K (.int .u64 (V:Nat)) h) :
  CP pL #[.slice q ws.length c,.int .i64 (x:Nat)] h K Kp:=by
 refine xo ?_
 unfold vP
 simp only [decide_eq_false (show ¬ ((x:Nat):Int)<0 by omega)]
 refine fZ rfl ?_
 refine fw (((x / 64:Nat):Int)) (by exact fO _ _ (mL x 64) (by omega) (by omega)) ?_
 have hrow:∀ j:Nat,j<64->KL ws ((x:Int)+(63-(j:Int)))=(ws.getD ((x+(63-j)) / 64) 0).testBit (63-(x+(63-j)) % 64):=fun j hj=>by
  unfold KL
  have:((x:Int)+(63-(j:Int))).toNat=x+(63-j):=by omega
  rw [this,decide_eq_true (by omega),jm]
 have hout:∀ i,ws.length<=i->ws.getD i 0=0:=fun i hi=>by rw [fY,iq hi]; rfl
 refine fL (fun h1=>?_) fun h1=>?_
 ·refine hk 0 (by decide) fun j hj=>?_
  rw [hrow j hj,hout _ (by omega),m3,m3]
 have h1:x / 64<ws.length:=by omega
 refine fH (by omega) ?_
 obtain ⟨a,ha,hc⟩:=m9 hr (lp (lU (l:=ws) (i:=x / 64) h1))
 subst ha
 simp only [ga,fD,gu]
 refine fz hc ?_
 have hx64:=iP x (show 64 > 0 by decide)
 refine fw (((x % 64:Nat):Int)) (by exact kM x 64) ?_
 refine fH (by omega) ?_
 have hv:=hw.get (x / 64)
 refine fw (((ws.getD (x / 64) 0*2 ^ (x % 64) % M64:Nat):Int)) (by exact lP (i:=x % 64) (by show x % 64<=64; omega) (Cn _)) ?_
 have hv2:ws.getD (x / 64) 0*2 ^ (x % 64) % M64<M64:=iP _ (by decide)
 refine ⟨fun vs h'=>h'=h/\vs=[.bool (decide (0<x % 64/\x / 64+1<ws.length))],?_,?_⟩
 ·refine fw (((x % 64:Nat):Int)) (by exact kM x 64) ?_
  refine fL (fun h2=>?_) fun h2=>?_
  ·refine fw (((x / 64+1:Nat):Int)) (by exact fO _ _ (by omega) (by omega) (by omega)) ?_
   refine ⟨by first | rfl | trivial,?_⟩
   congr 2
   rw [decide_eq_decide]
   omega
  ·refine ⟨by first | rfl | trivial,?_⟩
   congr 2
   rw [eq_comm,decide_eq_false_iff_not]
   omega
 ·rintro h' u y ⟨rfl,hy⟩
  injection hy with hy
  injection hy with hy
  subst hy
  refine fL (fun h2=>?_) fun h2=>?_
  ·refine fw (((x / 64+1:Nat):Int)) (by exact fO _ _ (by omega) (by omega) (by omega)) ?_
   refine fH (by omega) ?_
   obtain ⟨a',ha',hc'⟩:=m9 hr (lp (lU (l:=ws) (i:=x / 64+1) h2.2))
   injection ha' with ha'
   subst ha'
   refine fz hc' ?_
   refine fw (((x % 64:Nat):Int)) (by exact kM x 64) ?_
   refine fw (((64-x % 64:Nat):Int)) (by exact fO _ _ (by omega) (by omega) (by omega)) ?_
   refine fH (by omega) ?_
   have hv3:ws.getD (x / 64+1) 0 / 2 ^ (64-x % 64)<M64:=ir (kz _ _) (hw.get _)
   refine fw (((ws.getD (x / 64+1) 0 / 2 ^ (64-x % 64):Nat):Int)) (by exact lG (by show 64-x % 64<=64; omega)) ?_
   refine fw _ (Jz _ _ hv2 hv3) ?_
   refine hk _ (Hg hv2 hv3) fun j hj=>?_
   rw [hrow j hj,o8,LQ hj,LP]
   by_cases h3:x % 64<=j
   ·rw [decide_eq_true h3,jm,C1 (hw.get _) (show 64<=j+(64-x % 64) by omega),Bool.or_false]
    congr 1
    ·rw [show (x+(63-j)) / 64=x / 64 by omega]
    ·omega
   ·rw [decide_eq_false h3,nv,Bool.false_or]
    congr 1
    ·rw [show (x+(63-j)) / 64=x / 64+1 by omega]
    ·omega
  ·refine hk _ hv2 fun j hj=>?_
   rw [hrow j hj,LQ hj]
   by_cases h3:x % 64<=j
   ·rw [decide_eq_true h3,jm]
    congr 1
    ·rw [show (x+(63-j)) / 64=x / 64 by omega]
    ·omega
   ·rw [decide_eq_false h3,nv,hout ((x+(63-j)) / 64) (by omega),m3]
theorem PY {h:Heap} {q:Option Addr} {c:Nat} {ws:List Nat} (hr:rdO h q (ws.length*1) (il ws)) (hw:W64 ws) (hl:ws.length<1048577) {x:Int} (hx:-1000000000<=x/\x<1000000000) {K:VK} {Kp:PK}
  (hk:∀ V:Nat,V<M64->(∀ j,j<64->V.testBit j=KL ws (x+(63-(j:Int))))->K (.int .u64 (V:Nat)) h) :
  CP pL #[.slice q ws.length c,.int .i64 x] h K Kp:=by
 rcases Int.lt_or_le x 0 with h1 | h1
 ·refine xo ?_
  unfold vP
  simp only [decide_eq_true h1]
  refine gN rfl ?_
  refine I4 (x:=0) hr hw hl (by omega) fun V hV hb=>?_
  refine ⟨_,rfl,?_⟩
  obtain ⟨p,hp⟩:∃ p:Nat,x = -(p:Int):=⟨(-x).toNat,by omega⟩
  subst hp
  refine fw (((p:Nat):Int)) (by exact fO _ _ (by omega) (by omega) (by omega)) ?_
  refine fH (by omega) ?_
  have hs:l8 .u64 (V:Int) (p:Int)=((V / 2 ^ min p 64:Nat):Int):=by
   rcases gI 64 p with h1 | h1
   ·have e:min p 64=64:=by omega
    rw [e]
    have e2:l8 .u64 (V:Int) (p:Int)=l8 .u64 (V:Int) ((64:Nat):Int):=by
     unfold l8
     rw [fD,fD]
     have:Nat.min p IntKind.u64.bits=Nat.min 64 IntKind.u64.bits:=by
      show min p 64=min 64 64
      omega
     first | rw [this] | (simp only [Nat.min_def] at this ⊢; rw [this])
    rw [e2]
    exact lG (k := .u64) (i:=64) (by decide)
   ·have e:min p 64=p:=by omega
    rw [e]
    exact lG (k := .u64) (i:=p) h1
  refine fw _ hs ?_
  refine hk _ (ir (kz _ _) hV) fun j hj=>?_
  rw [LP]
  by_cases h2:j+min p 64<64
  ·rw [hb _ h2]
   congr 1
   omega
  ·rw [C1 hV (by omega)]
   unfold KL
   rw [decide_eq_false (by omega),nv]
 ·obtain ⟨X,rfl⟩:∃ X:Nat,x=(X:Nat):=⟨x.toNat,by omega⟩
  exact I4 hr hw hl (by omega) hk
end Go.Bm
