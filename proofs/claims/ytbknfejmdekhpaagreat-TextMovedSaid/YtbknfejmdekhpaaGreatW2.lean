/- W2: put together by wip/tools/bundle.py: BmA Nums. -/
import Derived.Test.YtbknfejmdekhpaaGreatW1
set_option linter.unusedVariables false
set_option linter.unusedSimpArgs false
set_option maxRecDepth 100000
namespace Go.Bm
open Go Go.Den
def u64s (l:List Nat):List Value:=l.map fun x:Nat => .int .u64 (x:Int)
theorem u64s_length (l:List Nat):(u64s l).length=l.length:=by simp [u64s]
theorem u64s_get {l:List Nat} {i x:Nat} (h:l[i]? = some x):(u64s l)[i]? = some (.int .u64 (x:Int)):=by
 unfold u64s; rw [List.getElem?_map,h]; rfl
theorem u64s_set (l:List Nat) (i x:Nat):u64s (l.set i x)=(u64s l).set i (.int .u64 (x:Int)):=by simp [u64s,List.map_set]
theorem u64s_cells (l:List Nat):∀ v∈u64s l,v.oneCell'=true:=fun v hv=>by
 obtain ⟨x,_,rfl⟩:=List.mem_map.1 hv; rfl
theorem u64s_zero (n:Nat):repZ [.int .u64 0] n=u64s (List.replicate n 0):=by rw [repZ_one]; simp [u64s]
theorem getD_get {l:List Nat} {i:Nat} (h:i<l.length):l[i]? = some (l.getD i 0):=by
 rw [List.getD_eq_getElem?_getD,List.getElem?_eq_getElem h]; rfl
abbrev M64:Nat:=18446744073709551616
def W64 (l:List Nat):Prop:=∀ v∈l,v<M64
theorem W64.get {l:List Nat} (h:W64 l) (i:Nat):l.getD i 0<M64:=by
 rw [List.getD_eq_getElem?_getD]
 cases hk:l[i]? with
 | none=>decide
 | some x=>exact h x (List.mem_of_getElem? hk)
theorem W64.set {l:List Nat} (h:W64 l) {i v:Nat} (hv:v<M64):W64 (l.set i v):=fun x hx=>by
 rcases List.mem_or_eq_of_mem_set hx with h1 | h1
 ·exact h x h1
 ·rw [h1]; exact hv
theorem W64.zero (n:Nat):W64 (List.replicate n 0):=fun v hv=>by rw [(List.mem_replicate.1 hv).2]; decide
theorem M64_pow:M64=2 ^ 64:=rfl
theorem bits_lt {v:Nat} (h:v<M64) {j:Nat} (hj:64<=j):v.testBit j=false :=
 Nat.testBit_lt_two_pow (Nat.lt_of_lt_of_le h (by rw [M64_pow]; exact Nat.pow_le_pow_right (by decide) hj))
theorem word_ext {a b:Nat} (ha:a<M64) (hb:b<M64) (h:∀ j,j<64->a.testBit j=b.testBit j):a=b:=by
 apply Nat.eq_of_testBit_eq
 intro j
 rcases Nat.lt_or_ge j 64 with h1 | h1
 ·exact h j h1
 ·rw [bits_lt ha h1,bits_lt hb h1]
def wds (w:Nat):Nat:=(w+63) / 64
def pix (ws:List Nat) (wd x y:Nat):Bool:=(ws.getD (y*wd+x / 64) 0).testBit (63-x % 64)
theorem idx_inj {wd c c' y y':Nat} (hc:c<wd) (hc':c'<wd) (h:y*wd+c=y'*wd+c'):y=y'/\c=c':=by
 have h1:(y*wd+c) / wd=y:=by rw [Nat.mul_comm,Nat.mul_add_div (by omega),Nat.div_eq_of_lt hc,Nat.add_zero]
 have h2:(y'*wd+c') / wd=y':=by rw [Nat.mul_comm,Nat.mul_add_div (by omega),Nat.div_eq_of_lt hc',Nat.add_zero]
 rw [h,h2] at h1
 subst h1
 exact ⟨rfl,by omega⟩
theorem idx_lt {wd c y h:Nat} (hc:c<wd) (hy:y<h):y*wd+c<h*wd:=by
 have:(y+1)*wd<=h*wd:=Nat.mul_le_mul_right _ hy
 rw [Nat.add_mul,Nat.one_mul] at this
 omega
theorem pix_ext {a b:List Nat} {wd h:Nat} (ha:a.length=h*wd) (hb:b.length=h*wd) (wa:W64 a) (wb:W64 b) (hp:∀ y,y<h->∀ x,x<64*wd->pix a wd x y=pix b wd x y):a=b:=by
 apply List.ext_getElem?
 intro i
 rcases Nat.lt_or_ge i (h*wd) with hi | hi
 ·have hw:0<wd:=by
   rcases Nat.eq_zero_or_pos wd with h0 | h0
   ·subst h0; simp at hi
   ·exact h0
  rw [getD_get (by omega),getD_get (by omega)]
  congr 1
  refine word_ext (wa.get i) (wb.get i) fun j hj=>?_
  have hy:i / wd<h:=(Nat.div_lt_iff_lt_mul hw).2 hi
  have hc:i % wd<wd:=Nat.mod_lt _ hw
  have:=hp (i / wd) hy (64*(i % wd)+(63-j)) (by omega)
  unfold pix at this
  rw [show (64*(i % wd)+(63-j)) / 64=i % wd by omega,show 63-(64*(i % wd)+(63-j)) % 64=j by omega,show i / wd*wd+i % wd=i by rw [Nat.mul_comm]; exact Nat.div_add_mod i wd] at this
  exact this
 ·rw [List.getElem?_eq_none (by omega),List.getElem?_eq_none (by omega)]
theorem pix_set {ws:List Nat} {wd c y v h:Nat} (hl:ws.length=h*wd) (hc:c<wd) (hy:y<h) {x' y':Nat} (hx':x'<64*wd) :
  pix (ws.set (y*wd+c) v) wd x' y'=if y'=y/\x' / 64=c then v.testBit (63-x' % 64) else pix ws wd x' y':=by
 have hi:=idx_lt hc hy
 unfold pix
 split
 ·rename_i h1
  rw [h1.1,h1.2,List.getD_eq_getElem?_getD,List.getElem?_set_self (by omega)]
  rfl
 ·rename_i h1
  rw [List.getD_eq_getElem?_getD,List.getElem?_set_ne,<- List.getD_eq_getElem?_getD]
  intro e
  obtain ⟨e1,e2⟩:=idx_inj hc (show x' / 64<wd by omega) e
  exact h1 ⟨e1.symm,e2.symm⟩
def wnot (b:Nat):Nat:=2 ^ 64-(b+1)
theorem wnot_bit {b:Nat} (h:b<M64) {j:Nat} (hj:j<64):(wnot b).testBit j = !b.testBit j:=by
 unfold wnot
 rw [Nat.testBit_two_pow_sub_succ h,decide_eq_true hj,Bool.true_and]
theorem andNot64 (a b:Nat) (ha:a<M64) (hb:b<M64):bitI .andNot .u64 a b=((a &&& wnot b:Nat):Int):=by
 have ha':a % 2 ^ 64=a:=Nat.mod_eq_of_lt ha
 have hb':b % 2 ^ 64=b:=Nat.mod_eq_of_lt hb
 have h1:(BitVec.ofInt 64 (a:Int) &&& ~~~ BitVec.ofInt 64 (b:Int)).toNat=a &&& wnot b:=by
  rw [BitVec.toNat_and,BitVec.toNat_not,BitVec.ofInt_natCast,BitVec.ofInt_natCast,BitVec.toNat_ofNat,BitVec.toNat_ofNat,ha',hb']
  unfold wnot
  congr 1
  omega
 have e:bitI .andNot .u64 (a:Int) (b:Int)=IntKind.u64.wrap (((BitVec.ofInt 64 (a:Int) &&& ~~~ BitVec.ofInt 64 (b:Int)).toNat:Nat):Int):=rfl
 rw [e,h1]
 exact u64_in _ (by omega) (by
  have:a &&& wnot b<=a:=Nat.and_le_left
  omega)
theorem xor64 (a b:Nat) (ha:a<M64) (hb:b<M64):bitI .xor .u64 a b=((a ^^^ b:Nat):Int):=bits_nat3 .u64 64 (by decide) wr64 a b ha hb
theorem and_lt {a b:Nat} (ha:a<M64):a &&& b<M64:=Nat.lt_of_le_of_lt Nat.and_le_left ha
theorem or_lt {a b:Nat} (ha:a<M64) (hb:b<M64):a ||| b<M64:=Nat.or_lt_two_pow (n:=64) ha hb
theorem xor_lt {a b:Nat} (ha:a<M64) (hb:b<M64):a ^^^ b<M64:=Nat.xor_lt_two_pow (n:=64) ha hb
theorem ones_shr {p j:Nat} (hp:p<=64):(18446744073709551615 / 2 ^ p).testBit j=decide (j+p<64):=by
 rw [Nat.testBit_div_two_pow,show 18446744073709551615=2 ^ 64-1 from rfl,Nat.testBit_two_pow_sub_one]
def opB (op:Nat) (d s:Bool):Bool:=match op with
 | 0=>d || s
 | 1=>d && s
 | 2=>d != s
 | 3=>!(d != s)
 | _=>s
def rowB (ws:List Nat) (X:Int):Bool:=decide (0<=X) && (ws.getD (X.toNat / 64) 0).testBit (63-X.toNat % 64)
end Go.Bm
namespace Go.Den.YtbknfejmdekhpaaGreat
open Go Go.Den
abbrev T_int:TypeId:=3
abbrev T_bool:TypeId:=4
abbrev T_uint8:TypeId:=5
abbrev T_s_api_Instance:TypeId:=24
abbrev T_api_Text:TypeId:=26
abbrev T_s_api_Bitmap:TypeId:=27
abbrev T_burinlaw14_Ask:TypeId:=29
abbrev T_s_uint8:TypeId:=32
abbrev T_api_Errno:TypeId:=33
abbrev T_s_uint64:TypeId:=36
abbrev T_api_Bitmap:TypeId:=38
abbrev T_api_Instance:TypeId:=47
abbrev T_uint64:TypeId:=70
abbrev T_p_arith_Coder:TypeId:=73
abbrev T_text_coder:TypeId:=79
abbrev T_api_Whole:TypeId:=87
abbrev T_p_bitmap_Map:TypeId:=90
abbrev T_p_text_reader:TypeId:=104
abbrev T_p_arith_Decoder:TypeId:=105
abbrev T_text_reader:TypeId:=107
abbrev T_p_bits_Reader:TypeId:=110
abbrev T_text_fault:TypeId:=132
abbrev T_arith_row:TypeId:=136
abbrev T_47_arith_row:TypeId:=137
abbrev T_arith_table:TypeId:=139
abbrev T_arith_Coder:TypeId:=143
abbrev T_bitmap_Map:TypeId:=165
abbrev T_func_uint64_uint64_uint64:TypeId:=171
abbrev T_bits_Reader:TypeId:=182
abbrev T_arith_Decoder:TypeId:=187
abbrev T_bits_Writer:TypeId:=206
abbrev T_refine_fault:TypeId:=233
abbrev T_whole_size:TypeId:=238
abbrev T_whole_getter:TypeId:=245
abbrev F_burinlaw14_TextMoved:FuncId:=9
abbrev F_burinlaw14_light:FuncId:=12
abbrev F_burinref0_CopyText:FuncId:=13
abbrev F_text_Encode:FuncId:=15
abbrev F_text_Draw:FuncId:=17
abbrev F_text_Sorted:FuncId:=19
abbrev F_burinref0_EqBitmap:FuncId:=21
abbrev F_burinlaw14_wakes:FuncId:=27
abbrev F_text_Decode:FuncId:=30
abbrev F_burinref14_Bad:FuncId:=35
abbrev F_burinref0_May:FuncId:=36
abbrev F_burinref0_Get:FuncId:=37
abbrev F_burinref0_CopyBitmap:FuncId:=38
abbrev F_burinkit_Within:FuncId:=41
abbrev F_burinref0_Size:FuncId:=42
abbrev F_text_checked:FuncId:=43
abbrev F_text_caught:FuncId:=44
abbrev F_text_Encode_c1:FuncId:=45
abbrev F_arith_New:FuncId:=46
abbrev F_text_need:FuncId:=47
abbrev F_text_coder_all:FuncId:=48
abbrev F_arith_Coder_Flush:FuncId:=49
abbrev F_text_head:FuncId:=50
abbrev F_bitmap_New:FuncId:=58
abbrev F_bitmap_Map_Fill:FuncId:=59
abbrev F_bitmap_From:FuncId:=60
abbrev F_bitmap_Map_Blit:FuncId:=61
abbrev F_bitmap_Map_Plain:FuncId:=62
abbrev F_slices_Clone_api_Instance_api_Instance:FuncId:=64
abbrev F_slices_Clone_uint64_uint64:FuncId:=65
abbrev F_slices_SortStableFunc_api_Instance_api_Instance:FuncId:=66
abbrev F_text_Sorted_c1:FuncId:=67
abbrev F_cmp_Or_int:FuncId:=68
abbrev F_cmp_Compare_int:FuncId:=69
abbrev F_burinref0_EqWords:FuncId:=70
abbrev F_text_Decode_c1:FuncId:=72
abbrev F_text_wrong:FuncId:=73
abbrev F_slices_ContainsFunc_api_Bitmap_api_Bitmap:FuncId:=74
abbrev F_text_Decode_c1_c1:FuncId:=75
abbrev F_bitmap_Check:FuncId:=76
abbrev F_text_big:FuncId:=77
abbrev F_bits_NewReader:FuncId:=78
abbrev F_text_opened:FuncId:=79
abbrev F_arith_NewDecoder:FuncId:=80
abbrev F_bits_Reader_Left:FuncId:=81
abbrev F_text_reader_all:FuncId:=82
abbrev F_burinref14_mayAll:FuncId:=83
abbrev F_burinref14_mayInstance:FuncId:=88
abbrev F_burinref0_words:FuncId:=89
abbrev F_text_may:FuncId:=90
abbrev F_text_caught_c1:FuncId:=91
abbrev F_arith_made:FuncId:=92
abbrev F_text_coder_put:FuncId:=93
abbrev F_text_coder_one:FuncId:=94
abbrev F_whole_Put:FuncId:=95
abbrev F_arith_Coder_out:FuncId:=96
abbrev F_bits_NewWriter:FuncId:=97
abbrev F_bits_Writer_Var:FuncId:=98
abbrev F_bits_Writer_Put:FuncId:=99
abbrev F_bits_Writer_Bytes:FuncId:=100
abbrev F_bitmap_sized:FuncId:=109
abbrev F_bitmap_cut:FuncId:=110
abbrev F_bitmap_mask:FuncId:=111
abbrev F_bitmap_both:FuncId:=112
abbrev F_bitmap_operations:FuncId:=113
abbrev F_bitmap_word:FuncId:=114
abbrev F_slices_stableCmpFunc_api_Instance:FuncId:=116
abbrev F_cmp_isNaN_int:FuncId:=117
abbrev F_slices_IndexFunc_api_Bitmap_api_Bitmap:FuncId:=118
abbrev F_bitmap_last:FuncId:=119
abbrev F_text_variable:FuncId:=120
abbrev F_bits_Reader_Take:FuncId:=121
abbrev F_arith_Decoder_byte:FuncId:=122
abbrev F_arith_Decoder_in:FuncId:=123
abbrev F_text_reader_number:FuncId:=124
abbrev F_text_reader_one:FuncId:=125
abbrev F_burinref14_near:FuncId:=134
abbrev F_text_may_c1:FuncId:=135
abbrev F_text_within:FuncId:=136
abbrev F_slices_ContainsFunc_api_Instance_api_Instance:FuncId:=137
abbrev F_text_may_c2:FuncId:=138
abbrev F_text_instance:FuncId:=139
abbrev F_arith_rows:FuncId:=140
abbrev F_whole_PutID:FuncId:=141
abbrev F_text_width:FuncId:=142
abbrev F_arith_Coder_Put:FuncId:=143
abbrev F_refine_Put:FuncId:=144
abbrev F_whole_fits:FuncId:=145
abbrev F_arith_table_Contexts:FuncId:=146
abbrev F_whole_right:FuncId:=147
abbrev F_whole_bits:FuncId:=148
abbrev F_whole_next:FuncId:=149
abbrev F_bits_lay_uint8:FuncId:=150
abbrev F_bits_lay_uint64:FuncId:=151
abbrev F_bitmap_operations_c1:FuncId:=158
abbrev F_bitmap_operations_c2:FuncId:=159
abbrev F_bitmap_operations_c3:FuncId:=160
abbrev F_bitmap_operations_c4:FuncId:=161
abbrev F_bitmap_operations_c5:FuncId:=162
abbrev F_slices_insertionSortCmpFunc_api_Instance:FuncId:=163
abbrev F_slices_symMergeCmpFunc_api_Instance:FuncId:=164
abbrev F_bits_Reader_Var:FuncId:=165
abbrev F_bits_told_uint64:FuncId:=166
abbrev F_whole_Get:FuncId:=167
abbrev F_whole_GetID:FuncId:=168
abbrev F_arith_Decoder_Get:FuncId:=169
abbrev F_refine_Get:FuncId:=170
abbrev F_bitmap_Equal:FuncId:=171
abbrev F_slices_IndexFunc_api_Instance_api_Instance:FuncId:=178
abbrev F_whole_ids:FuncId:=179
abbrev F_arith_table_at:FuncId:=180
abbrev F_arith_likely:FuncId:=181
abbrev F_arith_unlikely:FuncId:=182
abbrev F_arith_Coder_renew:FuncId:=183
abbrev F_refine_shifts:FuncId:=184
abbrev F_refine_fits:FuncId:=185
abbrev F_refine_run:FuncId:=186
abbrev F_refine_Put_c1:FuncId:=187
abbrev F_whole_bits_c1:FuncId:=188
abbrev F_whole_sizes:FuncId:=189
abbrev F_slices_rotateCmpFunc_api_Instance:FuncId:=191
abbrev F_bits_Reader_Var_c1:FuncId:=192
abbrev F_bits_Reader_group:FuncId:=193
abbrev F_whole_getter_bit:FuncId:=194
abbrev F_arith_Decoder_renew:FuncId:=195
abbrev F_refine_Get_c1:FuncId:=196
abbrev F_slices_Equal_uint64_uint64:FuncId:=197
abbrev F_refine_run_c1:FuncId:=200
abbrev F_bitmap_Map_Size:FuncId:=201
abbrev F_refine_run_c2:FuncId:=202
abbrev F_bitmap_Map_Get:FuncId:=203
abbrev F_refine_run_c3:FuncId:=204
abbrev F_bitmap_Map_Set:FuncId:=205
abbrev F_slices_swapRangeCmpFunc_api_Instance:FuncId:=206
abbrev F_bits_told_uint8:FuncId:=207
abbrev F_bitmap_Map_inside:FuncId:=208
abbrev F_bitmap_Map_put:FuncId:=209
def Z_47_arith_row:List Value:=[.int .u32 0, .int .u8 0, .int .u8 0, .int .u8 0, .int .u32 0, .int .u8 0, .int .u8 0, .int .u8 0, .int .u32 0, .int .u8 0, .int .u8 0, .int .u8 0, .int .u32 0, .int .u8 0, .int .u8 0, .int .u8 0, .int .u32 0, .int .u8 0, .int .u8 0, .int .u8 0, .int .u32 0, .int .u8 0, .int .u8 0, .int .u8 0, .int .u32 0, .int .u8 0, .int .u8 0, .int .u8 0, .int .u32 0, .int .u8 0, .int .u8 0, .int .u8 0, .int .u32 0, .int .u8 0, .int .u8 0, .int .u8 0, .int .u32 0, .int .u8 0, .int .u8 0, .int .u8 0, .int .u32 0, .int .u8 0, .int .u8 0, .int .u8 0, .int .u32 0, .int .u8 0, .int .u8 0, .int .u8 0, .int .u32 0, .int .u8 0, .int .u8 0, .int .u8 0, .int .u32 0, .int .u8 0, .int .u8 0, .int .u8 0, .int .u32 0, .int .u8 0, .int .u8 0, .int .u8 0, .int .u32 0, .int .u8 0, .int .u8 0, .int .u8 0, .int .u32 0, .int .u8 0, .int .u8 0, .int .u8 0, .int .u32 0, .int .u8 0, .int .u8 0, .int .u8 0, .int .u32 0, .int .u8 0, .int .u8 0, .int .u8 0, .int .u32 0, .int .u8 0, .int .u8 0, .int .u8 0, .int .u32 0, .int .u8 0, .int .u8 0, .int .u8 0, .int .u32 0, .int .u8 0, .int .u8 0, .int .u8 0, .int .u32 0, .int .u8 0, .int .u8 0, .int .u8 0, .int .u32 0, .int .u8 0, .int .u8 0, .int .u8 0, .int .u32 0, .int .u8 0, .int .u8 0, .int .u8 0, .int .u32 0, .int .u8 0, .int .u8 0, .int .u8 0, .int .u32 0, .int .u8 0, .int .u8 0, .int .u8 0, .int .u32 0, .int .u8 0, .int .u8 0, .int .u8 0, .int .u32 0, .int .u8 0, .int .u8 0, .int .u8 0, .int .u32 0, .int .u8 0, .int .u8 0, .int .u8 0, .int .u32 0, .int .u8 0, .int .u8 0, .int .u8 0, .int .u32 0, .int .u8 0, .int .u8 0, .int .u8 0, .int .u32 0, .int .u8 0, .int .u8 0, .int .u8 0, .int .u32 0, .int .u8 0, .int .u8 0, .int .u8 0, .int .u32 0, .int .u8 0, .int .u8 0, .int .u8 0, .int .u32 0, .int .u8 0, .int .u8 0, .int .u8 0, .int .u32 0, .int .u8 0, .int .u8 0, .int .u8 0, .int .u32 0, .int .u8 0, .int .u8 0, .int .u8 0, .int .u32 0, .int .u8 0, .int .u8 0, .int .u8 0, .int .u32 0, .int .u8 0, .int .u8 0, .int .u8 0, .int .u32 0, .int .u8 0, .int .u8 0, .int .u8 0, .int .u32 0, .int .u8 0, .int .u8 0, .int .u8 0, .int .u32 0, .int .u8 0, .int .u8 0, .int .u8 0, .int .u32 0, .int .u8 0, .int .u8 0, .int .u8 0, .int .u32 0, .int .u8 0, .int .u8 0, .int .u8 0, .int .u32 0, .int .u8 0, .int .u8 0, .int .u8 0, .int .u32 0, .int .u8 0, .int .u8 0, .int .u8 0]
def Z_arith_table:List Value:=[.int .u32 0, .int .u8 0, .int .u8 0, .int .u8 0, .int .u32 0, .int .u8 0, .int .u8 0, .int .u8 0, .int .u32 0, .int .u8 0, .int .u8 0, .int .u8 0, .int .u32 0, .int .u8 0, .int .u8 0, .int .u8 0, .int .u32 0, .int .u8 0, .int .u8 0, .int .u8 0, .int .u32 0, .int .u8 0, .int .u8 0, .int .u8 0, .int .u32 0, .int .u8 0, .int .u8 0, .int .u8 0, .int .u32 0, .int .u8 0, .int .u8 0, .int .u8 0, .int .u32 0, .int .u8 0, .int .u8 0, .int .u8 0, .int .u32 0, .int .u8 0, .int .u8 0, .int .u8 0, .int .u32 0, .int .u8 0, .int .u8 0, .int .u8 0, .int .u32 0, .int .u8 0, .int .u8 0, .int .u8 0, .int .u32 0, .int .u8 0, .int .u8 0, .int .u8 0, .int .u32 0, .int .u8 0, .int .u8 0, .int .u8 0, .int .u32 0, .int .u8 0, .int .u8 0, .int .u8 0, .int .u32 0, .int .u8 0, .int .u8 0, .int .u8 0, .int .u32 0, .int .u8 0, .int .u8 0, .int .u8 0, .int .u32 0, .int .u8 0, .int .u8 0, .int .u8 0, .int .u32 0, .int .u8 0, .int .u8 0, .int .u8 0, .int .u32 0, .int .u8 0, .int .u8 0, .int .u8 0, .int .u32 0, .int .u8 0, .int .u8 0, .int .u8 0, .int .u32 0, .int .u8 0, .int .u8 0, .int .u8 0, .int .u32 0, .int .u8 0, .int .u8 0, .int .u8 0, .int .u32 0, .int .u8 0, .int .u8 0, .int .u8 0, .int .u32 0, .int .u8 0, .int .u8 0, .int .u8 0, .int .u32 0, .int .u8 0, .int .u8 0, .int .u8 0, .int .u32 0, .int .u8 0, .int .u8 0, .int .u8 0, .int .u32 0, .int .u8 0, .int .u8 0, .int .u8 0, .int .u32 0, .int .u8 0, .int .u8 0, .int .u8 0, .int .u32 0, .int .u8 0, .int .u8 0, .int .u8 0, .int .u32 0, .int .u8 0, .int .u8 0, .int .u8 0, .int .u32 0, .int .u8 0, .int .u8 0, .int .u8 0, .int .u32 0, .int .u8 0, .int .u8 0, .int .u8 0, .int .u32 0, .int .u8 0, .int .u8 0, .int .u8 0, .int .u32 0, .int .u8 0, .int .u8 0, .int .u8 0, .int .u32 0, .int .u8 0, .int .u8 0, .int .u8 0, .int .u32 0, .int .u8 0, .int .u8 0, .int .u8 0, .int .u32 0, .int .u8 0, .int .u8 0, .int .u8 0, .int .u32 0, .int .u8 0, .int .u8 0, .int .u8 0, .int .u32 0, .int .u8 0, .int .u8 0, .int .u8 0, .int .u32 0, .int .u8 0, .int .u8 0, .int .u8 0, .int .u32 0, .int .u8 0, .int .u8 0, .int .u8 0, .int .u32 0, .int .u8 0, .int .u8 0, .int .u8 0, .int .u32 0, .int .u8 0, .int .u8 0, .int .u8 0, .int .u32 0, .int .u8 0, .int .u8 0, .int .u8 0, .int .u32 0, .int .u8 0, .int .u8 0, .int .u8 0, .int .u32 0, .int .u8 0, .int .u8 0, .int .u8 0, .slice none 0 0, .int .i64 0]
def Z_arith_Coder:List Value:=[.int .u32 0, .int .u8 0, .int .u8 0, .int .u8 0, .int .u32 0, .int .u8 0, .int .u8 0, .int .u8 0, .int .u32 0, .int .u8 0, .int .u8 0, .int .u8 0, .int .u32 0, .int .u8 0, .int .u8 0, .int .u8 0, .int .u32 0, .int .u8 0, .int .u8 0, .int .u8 0, .int .u32 0, .int .u8 0, .int .u8 0, .int .u8 0, .int .u32 0, .int .u8 0, .int .u8 0, .int .u8 0, .int .u32 0, .int .u8 0, .int .u8 0, .int .u8 0, .int .u32 0, .int .u8 0, .int .u8 0, .int .u8 0, .int .u32 0, .int .u8 0, .int .u8 0, .int .u8 0, .int .u32 0, .int .u8 0, .int .u8 0, .int .u8 0, .int .u32 0, .int .u8 0, .int .u8 0, .int .u8 0, .int .u32 0, .int .u8 0, .int .u8 0, .int .u8 0, .int .u32 0, .int .u8 0, .int .u8 0, .int .u8 0, .int .u32 0, .int .u8 0, .int .u8 0, .int .u8 0, .int .u32 0, .int .u8 0, .int .u8 0, .int .u8 0, .int .u32 0, .int .u8 0, .int .u8 0, .int .u8 0, .int .u32 0, .int .u8 0, .int .u8 0, .int .u8 0, .int .u32 0, .int .u8 0, .int .u8 0, .int .u8 0, .int .u32 0, .int .u8 0, .int .u8 0, .int .u8 0, .int .u32 0, .int .u8 0, .int .u8 0, .int .u8 0, .int .u32 0, .int .u8 0, .int .u8 0, .int .u8 0, .int .u32 0, .int .u8 0, .int .u8 0, .int .u8 0, .int .u32 0, .int .u8 0, .int .u8 0, .int .u8 0, .int .u32 0, .int .u8 0, .int .u8 0, .int .u8 0, .int .u32 0, .int .u8 0, .int .u8 0, .int .u8 0, .int .u32 0, .int .u8 0, .int .u8 0, .int .u8 0, .int .u32 0, .int .u8 0, .int .u8 0, .int .u8 0, .int .u32 0, .int .u8 0, .int .u8 0, .int .u8 0, .int .u32 0, .int .u8 0, .int .u8 0, .int .u8 0, .int .u32 0, .int .u8 0, .int .u8 0, .int .u8 0, .int .u32 0, .int .u8 0, .int .u8 0, .int .u8 0, .int .u32 0, .int .u8 0, .int .u8 0, .int .u8 0, .int .u32 0, .int .u8 0, .int .u8 0, .int .u8 0, .int .u32 0, .int .u8 0, .int .u8 0, .int .u8 0, .int .u32 0, .int .u8 0, .int .u8 0, .int .u8 0, .int .u32 0, .int .u8 0, .int .u8 0, .int .u8 0, .int .u32 0, .int .u8 0, .int .u8 0, .int .u8 0, .int .u32 0, .int .u8 0, .int .u8 0, .int .u8 0, .int .u32 0, .int .u8 0, .int .u8 0, .int .u8 0, .int .u32 0, .int .u8 0, .int .u8 0, .int .u8 0, .int .u32 0, .int .u8 0, .int .u8 0, .int .u8 0, .int .u32 0, .int .u8 0, .int .u8 0, .int .u8 0, .int .u32 0, .int .u8 0, .int .u8 0, .int .u8 0, .int .u32 0, .int .u8 0, .int .u8 0, .int .u8 0, .int .u32 0, .int .u8 0, .int .u8 0, .int .u8 0, .int .u32 0, .int .u8 0, .int .u8 0, .int .u8 0, .slice none 0 0, .int .i64 0, .int .u32 0, .int .u32 0, .int .i64 0, .slice none 0 0, .bool false]
def Z_arith_Decoder:List Value:=[.int .u32 0, .int .u8 0, .int .u8 0, .int .u8 0, .int .u32 0, .int .u8 0, .int .u8 0, .int .u8 0, .int .u32 0, .int .u8 0, .int .u8 0, .int .u8 0, .int .u32 0, .int .u8 0, .int .u8 0, .int .u8 0, .int .u32 0, .int .u8 0, .int .u8 0, .int .u8 0, .int .u32 0, .int .u8 0, .int .u8 0, .int .u8 0, .int .u32 0, .int .u8 0, .int .u8 0, .int .u8 0, .int .u32 0, .int .u8 0, .int .u8 0, .int .u8 0, .int .u32 0, .int .u8 0, .int .u8 0, .int .u8 0, .int .u32 0, .int .u8 0, .int .u8 0, .int .u8 0, .int .u32 0, .int .u8 0, .int .u8 0, .int .u8 0, .int .u32 0, .int .u8 0, .int .u8 0, .int .u8 0, .int .u32 0, .int .u8 0, .int .u8 0, .int .u8 0, .int .u32 0, .int .u8 0, .int .u8 0, .int .u8 0, .int .u32 0, .int .u8 0, .int .u8 0, .int .u8 0, .int .u32 0, .int .u8 0, .int .u8 0, .int .u8 0, .int .u32 0, .int .u8 0, .int .u8 0, .int .u8 0, .int .u32 0, .int .u8 0, .int .u8 0, .int .u8 0, .int .u32 0, .int .u8 0, .int .u8 0, .int .u8 0, .int .u32 0, .int .u8 0, .int .u8 0, .int .u8 0, .int .u32 0, .int .u8 0, .int .u8 0, .int .u8 0, .int .u32 0, .int .u8 0, .int .u8 0, .int .u8 0, .int .u32 0, .int .u8 0, .int .u8 0, .int .u8 0, .int .u32 0, .int .u8 0, .int .u8 0, .int .u8 0, .int .u32 0, .int .u8 0, .int .u8 0, .int .u8 0, .int .u32 0, .int .u8 0, .int .u8 0, .int .u8 0, .int .u32 0, .int .u8 0, .int .u8 0, .int .u8 0, .int .u32 0, .int .u8 0, .int .u8 0, .int .u8 0, .int .u32 0, .int .u8 0, .int .u8 0, .int .u8 0, .int .u32 0, .int .u8 0, .int .u8 0, .int .u8 0, .int .u32 0, .int .u8 0, .int .u8 0, .int .u8 0, .int .u32 0, .int .u8 0, .int .u8 0, .int .u8 0, .int .u32 0, .int .u8 0, .int .u8 0, .int .u8 0, .int .u32 0, .int .u8 0, .int .u8 0, .int .u8 0, .int .u32 0, .int .u8 0, .int .u8 0, .int .u8 0, .int .u32 0, .int .u8 0, .int .u8 0, .int .u8 0, .int .u32 0, .int .u8 0, .int .u8 0, .int .u8 0, .int .u32 0, .int .u8 0, .int .u8 0, .int .u8 0, .int .u32 0, .int .u8 0, .int .u8 0, .int .u8 0, .int .u32 0, .int .u8 0, .int .u8 0, .int .u8 0, .int .u32 0, .int .u8 0, .int .u8 0, .int .u8 0, .int .u32 0, .int .u8 0, .int .u8 0, .int .u8 0, .int .u32 0, .int .u8 0, .int .u8 0, .int .u8 0, .int .u32 0, .int .u8 0, .int .u8 0, .int .u8 0, .int .u32 0, .int .u8 0, .int .u8 0, .int .u8 0, .int .u32 0, .int .u8 0, .int .u8 0, .int .u8 0, .int .u32 0, .int .u8 0, .int .u8 0, .int .u8 0, .slice none 0 0, .int .i64 0, .int .u32 0, .int .u32 0, .int .i64 0, .slice none 0 0, .int .i64 0]
end Go.Den.YtbknfejmdekhpaaGreat
