/- W2: put together by wip/tools/bundle.py: BmA Nums Mbitmap Bbitmap Mburinref0 Bburinref0 Mslices Bslices BmB BmC BmD BmE RfA RfB RfC RfD ArA Marith Barith. -/
import Derived.Test.YtfaclehehhgpcaaGreatW1
import Derived.Test.YtfaclehehhgpcaaGreatProg
set_option linter.unusedVariables false
set_option linter.unusedSimpArgs false
set_option maxRecDepth 100000
namespace Go.Bm
open Go Go.Den
def u64s (l:List Nat):List Value:=l.map fun x:Nat => .int .u64 (x:Int)
theorem u64s_length (l:List Nat):(u64s l).length=l.length:=by simp [u64s]
theorem u64s_get {l:List Nat} {i x:Nat} (h:l[i]? = some x):(u64s l)[i]? = some (.int .u64 (x:Int)):=by
 unfold u64s; rw [List.getElem?_map,h]; rfl
theorem u64s_set (l:List Nat) (i x:Nat):u64s (l.set i x)=(u64s l).set i (.int .u64 (x:Int)):=by simp [u64s,List.map_set]
theorem u64s_cells (l:List Nat):∀ v∈u64s l,v.oneCell'=true:=fun v hv=>by
 obtain ⟨x,_,rfl⟩:=List.mem_map.1 hv; rfl
theorem u64s_zero (n:Nat):repZ [.int .u64 0] n=u64s (List.replicate n 0):=by rw [repZ_one]; simp [u64s]
theorem getD_get {l:List Nat} {i:Nat} (h:i<l.length):l[i]? = some (l.getD i 0):=by
 rw [List.getD_eq_getElem?_getD,List.getElem?_eq_getElem h]; rfl
abbrev M64:Nat:=18446744073709551616
def W64 (l:List Nat):Prop:=∀ v∈l,v<M64
theorem W64.get {l:List Nat} (h:W64 l) (i:Nat):l.getD i 0<M64:=by
 rw [List.getD_eq_getElem?_getD]
 cases hk:l[i]? with
 | none=>decide
 | some x=>exact h x (List.mem_of_getElem? hk)
theorem W64.set {l:List Nat} (h:W64 l) {i v:Nat} (hv:v<M64):W64 (l.set i v):=fun x hx=>by
 rcases List.mem_or_eq_of_mem_set hx with h1 | h1
 ·exact h x h1
 ·rw [h1]; exact hv
theorem W64.zero (n:Nat):W64 (List.replicate n 0):=fun v hv=>by rw [(List.mem_replicate.1 hv).2]; decide
theorem M64_pow:M64=2 ^ 64:=rfl
theorem bits_lt {v:Nat} (h:v<M64) {j:Nat} (hj:64<=j):v.testBit j=false :=
 Nat.testBit_lt_two_pow (Nat.lt_of_lt_of_le h (by rw [M64_pow]; exact Nat.pow_le_pow_right (by decide) hj))
theorem word_ext {a b:Nat} (ha:a<M64) (hb:b<M64) (h:∀ j,j<64->a.testBit j=b.testBit j):a=b:=by
 apply Nat.eq_of_testBit_eq
 intro j
 rcases Nat.lt_or_ge j 64 with h1 | h1
 ·exact h j h1
 ·rw [bits_lt ha h1,bits_lt hb h1]
def wds (w:Nat):Nat:=(w+63) / 64
def pix (ws:List Nat) (wd x y:Nat):Bool:=(ws.getD (y*wd+x / 64) 0).testBit (63-x % 64)
theorem idx_inj {wd c c' y y':Nat} (hc:c<wd) (hc':c'<wd) (h:y*wd+c=y'*wd+c'):y=y'/\c=c':=by
 have h1:(y*wd+c) / wd=y:=by rw [Nat.mul_comm,Nat.mul_add_div (by omega),Nat.div_eq_of_lt hc,Nat.add_zero]
 have h2:(y'*wd+c') / wd=y':=by rw [Nat.mul_comm,Nat.mul_add_div (by omega),Nat.div_eq_of_lt hc',Nat.add_zero]
 rw [h,h2] at h1
 subst h1
 exact ⟨rfl,by omega⟩
theorem idx_lt {wd c y h:Nat} (hc:c<wd) (hy:y<h):y*wd+c<h*wd:=by
 have:(y+1)*wd<=h*wd:=Nat.mul_le_mul_right _ hy
 rw [Nat.add_mul,Nat.one_mul] at this
 omega
theorem pix_ext {a b:List Nat} {wd h:Nat} (ha:a.length=h*wd) (hb:b.length=h*wd) (wa:W64 a) (wb:W64 b) (hp:∀ y,y<h->∀ x,x<64*wd->pix a wd x y=pix b wd x y):a=b:=by
 apply List.ext_getElem?
 intro i
 rcases Nat.lt_or_ge i (h*wd) with hi | hi
 ·have hw:0<wd:=by
   rcases Nat.eq_zero_or_pos wd with h0 | h0
   ·subst h0; simp at hi
   ·exact h0
  rw [getD_get (by omega),getD_get (by omega)]
  congr 1
  refine word_ext (wa.get i) (wb.get i) fun j hj=>?_
  have hy:i / wd<h:=(Nat.div_lt_iff_lt_mul hw).2 hi
  have hc:i % wd<wd:=Nat.mod_lt _ hw
  have:=hp (i / wd) hy (64*(i % wd)+(63-j)) (by omega)
  unfold pix at this
  rw [show (64*(i % wd)+(63-j)) / 64=i % wd by omega,show 63-(64*(i % wd)+(63-j)) % 64=j by omega,show i / wd*wd+i % wd=i by rw [Nat.mul_comm]; exact Nat.div_add_mod i wd] at this
  exact this
 ·rw [List.getElem?_eq_none (by omega),List.getElem?_eq_none (by omega)]
theorem pix_set {ws:List Nat} {wd c y v h:Nat} (hl:ws.length=h*wd) (hc:c<wd) (hy:y<h) {x' y':Nat} (hx':x'<64*wd) :
  pix (ws.set (y*wd+c) v) wd x' y'=if y'=y/\x' / 64=c then v.testBit (63-x' % 64) else pix ws wd x' y':=by
 have hi:=idx_lt hc hy
 unfold pix
 split
 ·rename_i h1
  rw [h1.1,h1.2,List.getD_eq_getElem?_getD,List.getElem?_set_self (by omega)]
  rfl
 ·rename_i h1
  rw [List.getD_eq_getElem?_getD,List.getElem?_set_ne,<- List.getD_eq_getElem?_getD]
  intro e
  obtain ⟨e1,e2⟩:=idx_inj hc (show x' / 64<wd by omega) e
  exact h1 ⟨e1.symm,e2.symm⟩
def wnot (b:Nat):Nat:=2 ^ 64-(b+1)
theorem wnot_bit {b:Nat} (h:b<M64) {j:Nat} (hj:j<64):(wnot b).testBit j = !b.testBit j:=by
 unfold wnot
 rw [Nat.testBit_two_pow_sub_succ h,decide_eq_true hj,Bool.true_and]
theorem andNot64 (a b:Nat) (ha:a<M64) (hb:b<M64):bitI .andNot .u64 a b=((a &&& wnot b:Nat):Int):=by
 have ha':a % 2 ^ 64=a:=Nat.mod_eq_of_lt ha
 have hb':b % 2 ^ 64=b:=Nat.mod_eq_of_lt hb
 have h1:(BitVec.ofInt 64 (a:Int) &&& ~~~ BitVec.ofInt 64 (b:Int)).toNat=a &&& wnot b:=by
  rw [BitVec.toNat_and,BitVec.toNat_not,BitVec.ofInt_natCast,BitVec.ofInt_natCast,BitVec.toNat_ofNat,BitVec.toNat_ofNat,ha',hb']
  unfold wnot
  congr 1
  omega
 have e:bitI .andNot .u64 (a:Int) (b:Int)=IntKind.u64.wrap (((BitVec.ofInt 64 (a:Int) &&& ~~~ BitVec.ofInt 64 (b:Int)).toNat:Nat):Int):=rfl
 rw [e,h1]
 exact u64_in _ (by omega) (by
  have:a &&& wnot b<=a:=Nat.and_le_left
  omega)
theorem xor64 (a b:Nat) (ha:a<M64) (hb:b<M64):bitI .xor .u64 a b=((a ^^^ b:Nat):Int):=bits_nat3 .u64 64 (by decide) wr64 a b ha hb
theorem and_lt {a b:Nat} (ha:a<M64):a &&& b<M64:=Nat.lt_of_le_of_lt Nat.and_le_left ha
theorem or_lt {a b:Nat} (ha:a<M64) (hb:b<M64):a ||| b<M64:=Nat.or_lt_two_pow (n:=64) ha hb
theorem xor_lt {a b:Nat} (ha:a<M64) (hb:b<M64):a ^^^ b<M64:=Nat.xor_lt_two_pow (n:=64) ha hb
theorem ones_shr {p j:Nat} (hp:p<=64):(18446744073709551615 / 2 ^ p).testBit j=decide (j+p<64):=by
 rw [Nat.testBit_div_two_pow,show 18446744073709551615=2 ^ 64-1 from rfl,Nat.testBit_two_pow_sub_one]
def opB (op:Nat) (d s:Bool):Bool:=match op with
 | 0=>d || s
 | 1=>d && s
 | 2=>d != s
 | 3=>!(d != s)
 | _=>s
def rowB (ws:List Nat) (X:Int):Bool:=decide (0<=X) && (ws.getD (X.toNat / 64) 0).testBit (63-X.toNat % 64)
end Go.Bm
namespace Go.Den.YtfaclehehhgpcaaGreat
open Go Go.Den
abbrev T_int:TypeId:=3
abbrev T_bool:TypeId:=4
abbrev T_uint8:TypeId:=5
abbrev T_string:TypeId:=9
abbrev T_s_uint8:TypeId:=27
abbrev T_api_Errno:TypeId:=28
abbrev T_api_Bitmap:TypeId:=36
abbrev T_s_api_Bitmap:TypeId:=54
abbrev T_api_Dict:TypeId:=57
abbrev T_uint64:TypeId:=85
abbrev T_p_bits_Reader:TypeId:=101
abbrev T_p_arith_Coder:TypeId:=128
abbrev T_api_Whole:TypeId:=139
abbrev T_p_dict_reader:TypeId:=145
abbrev T_p_arith_Decoder:TypeId:=146
abbrev T_dict_reader:TypeId:=148
abbrev T_bits_Reader:TypeId:=176
abbrev T_dict_fault:TypeId:=180
abbrev T_bits_Writer:TypeId:=183
abbrev T_context_span:TypeId:=189
abbrev T_arith_row:TypeId:=192
abbrev T_47_arith_row:TypeId:=193
abbrev T_arith_table:TypeId:=195
abbrev T_arith_Coder:TypeId:=199
abbrev T_arith_Decoder:TypeId:=223
abbrev T_p_generic_procedure:TypeId:=230
abbrev T_generic_coding:TypeId:=232
abbrev T_generic_procedure:TypeId:=236
abbrev T_bitmap_Map:TypeId:=238
abbrev T_func_uint64_uint64_uint64:TypeId:=243
abbrev T_generic_decoding:TypeId:=249
abbrev T_whole_getter:TypeId:=265
abbrev T_whole_size:TypeId:=269
abbrev T_generic_fault:TypeId:=273
abbrev T_generic_span:TypeId:=288
abbrev T_generic_window:TypeId:=290
abbrev F_burinlaw13_DictMost:FuncId:=11
abbrev F_dict_Encode:FuncId:=33
abbrev F_dict_Exported:FuncId:=35
abbrev F_burinref0_EqBitmaps:FuncId:=37
abbrev F_burinref0_EqDict:FuncId:=39
abbrev F_burinlaw13_wakes:FuncId:=40
abbrev F_dict_Decode:FuncId:=42
abbrev F_burinref0_White:FuncId:=44
abbrev F_burinref0_EqBitmap:FuncId:=45
abbrev F_burinref0_words:FuncId:=53
abbrev F_bitmap_Check:FuncId:=56
abbrev F_bits_Reader_Left:FuncId:=71
abbrev F_dict_checked:FuncId:=81
abbrev F_dict_caught:FuncId:=82
abbrev F_dict_Encode_c1:FuncId:=83
abbrev F_bits_NewWriter:FuncId:=84
abbrev F_dict_need:FuncId:=85
abbrev F_bits_Writer_Put:FuncId:=86
abbrev F_bits_Writer_Var:FuncId:=87
abbrev F_context_Size:FuncId:=88
abbrev F_arith_New:FuncId:=89
abbrev F_dict_symbols:FuncId:=90
abbrev F_dict_flags:FuncId:=91
abbrev F_arith_Coder_Flush:FuncId:=92
abbrev F_bits_Writer_Bytes:FuncId:=93
abbrev F_slices_Concat_api_Bitmap_api_Bitmap:FuncId:=100
abbrev F_slices_Clone_uint64_uint64:FuncId:=101
abbrev F_burinref0_EqFlags:FuncId:=102
abbrev F_dict_Decode_c1:FuncId:=103
abbrev F_dict_wrong:FuncId:=104
abbrev F_dict_right:FuncId:=105
abbrev F_dict_big:FuncId:=106
abbrev F_bits_NewReader:FuncId:=107
abbrev F_bits_Reader_Take:FuncId:=108
abbrev F_bits_Reader_Var:FuncId:=109
abbrev F_arith_NewDecoder:FuncId:=110
abbrev F_dict_reader_number:FuncId:=111
abbrev F_dict_reader_class:FuncId:=112
abbrev F_dict_reader_flags:FuncId:=113
abbrev F_burinref0_EqWords:FuncId:=119
abbrev F_bitmap_sized:FuncId:=121
abbrev F_bitmap_last:FuncId:=122
abbrev F_generic_Put:FuncId:=123
abbrev F_bitmap_New:FuncId:=126
abbrev F_bitmap_From:FuncId:=128
abbrev F_bitmap_Map_Blit:FuncId:=129
abbrev F_bitmap_Map_Plain:FuncId:=130
abbrev F_generic_Get:FuncId:=135
abbrev F_dict_caught_c1:FuncId:=137
abbrev F_bits_lay_uint64:FuncId:=138
abbrev F_bits_lay_uint8:FuncId:=139
abbrev F_context_spans:FuncId:=140
abbrev F_arith_made:FuncId:=141
abbrev F_dict_classes:FuncId:=142
abbrev F_whole_Put:FuncId:=143
abbrev F_dict_number:FuncId:=144
abbrev F_arith_Coder_out:FuncId:=145
abbrev F_slices_Grow_api_Bitmap_api_Bitmap:FuncId:=156
abbrev F_slices_ContainsFunc_api_Bitmap_api_Bitmap:FuncId:=157
abbrev F_dict_right_c1:FuncId:=158
abbrev F_bits_told_uint64:FuncId:=159
abbrev F_bits_Reader_Var_c1:FuncId:=160
abbrev F_bits_Reader_group:FuncId:=161
abbrev F_arith_Decoder_byte:FuncId:=162
abbrev F_arith_Decoder_in:FuncId:=163
abbrev F_whole_Get:FuncId:=164
abbrev F_generic_fits:FuncId:=169
abbrev F_arith_table_Contexts:FuncId:=170
abbrev F_generic_caught:FuncId:=171
abbrev F_generic_Put_c1:FuncId:=172
abbrev F_generic_procedure_run:FuncId:=173
abbrev F_bitmap_cut:FuncId:=174
abbrev F_bitmap_mask:FuncId:=175
abbrev F_bitmap_both:FuncId:=176
abbrev F_bitmap_operations:FuncId:=177
abbrev F_bitmap_word:FuncId:=178
abbrev F_generic_Get_c1:FuncId:=179
abbrev F_arith_rows:FuncId:=182
abbrev F_dict_classes_c1:FuncId:=183
abbrev F_whole_fits:FuncId:=184
abbrev F_whole_right:FuncId:=185
abbrev F_whole_bits:FuncId:=186
abbrev F_arith_Coder_Put:FuncId:=187
abbrev F_whole_next:FuncId:=188
abbrev F_slices_IndexFunc_api_Bitmap_api_Bitmap:FuncId:=194
abbrev F_bits_told_uint8:FuncId:=195
abbrev F_whole_getter_bit:FuncId:=196
abbrev F_whole_sizes:FuncId:=197
abbrev F_generic_caught_c1:FuncId:=199
abbrev F_bitmap_Map_Size:FuncId:=200
abbrev F_generic_procedure_same:FuncId:=201
abbrev F_generic_procedure_row:FuncId:=202
abbrev F_bitmap_operations_c1:FuncId:=203
abbrev F_bitmap_operations_c2:FuncId:=204
abbrev F_bitmap_operations_c3:FuncId:=205
abbrev F_bitmap_operations_c4:FuncId:=206
abbrev F_bitmap_operations_c5:FuncId:=207
abbrev F_whole_bits_c1:FuncId:=209
abbrev F_arith_table_at:FuncId:=210
abbrev F_arith_likely:FuncId:=211
abbrev F_arith_unlikely:FuncId:=212
abbrev F_arith_Coder_renew:FuncId:=213
abbrev F_arith_Decoder_Get:FuncId:=215
abbrev F_bitmap_Map_Get:FuncId:=217
abbrev F_generic_spans:FuncId:=218
abbrev F_bitmap_Map_Set:FuncId:=219
abbrev F_arith_Decoder_renew:FuncId:=220
abbrev F_bitmap_Map_inside:FuncId:=221
abbrev F_bitmap_Map_put:FuncId:=222
abbrev F_generic_coding_decide:FuncId:=240
abbrev F_generic_decoding_decide:FuncId:=241
def Z_47_arith_row:List Value:=[.int .u32 0, .int .u8 0, .int .u8 0, .int .u8 0, .int .u32 0, .int .u8 0, .int .u8 0, .int .u8 0, .int .u32 0, .int .u8 0, .int .u8 0, .int .u8 0, .int .u32 0, .int .u8 0, .int .u8 0, .int .u8 0, .int .u32 0, .int .u8 0, .int .u8 0, .int .u8 0, .int .u32 0, .int .u8 0, .int .u8 0, .int .u8 0, .int .u32 0, .int .u8 0, .int .u8 0, .int .u8 0, .int .u32 0, .int .u8 0, .int .u8 0, .int .u8 0, .int .u32 0, .int .u8 0, .int .u8 0, .int .u8 0, .int .u32 0, .int .u8 0, .int .u8 0, .int .u8 0, .int .u32 0, .int .u8 0, .int .u8 0, .int .u8 0, .int .u32 0, .int .u8 0, .int .u8 0, .int .u8 0, .int .u32 0, .int .u8 0, .int .u8 0, .int .u8 0, .int .u32 0, .int .u8 0, .int .u8 0, .int .u8 0, .int .u32 0, .int .u8 0, .int .u8 0, .int .u8 0, .int .u32 0, .int .u8 0, .int .u8 0, .int .u8 0, .int .u32 0, .int .u8 0, .int .u8 0, .int .u8 0, .int .u32 0, .int .u8 0, .int .u8 0, .int .u8 0, .int .u32 0, .int .u8 0, .int .u8 0, .int .u8 0, .int .u32 0, .int .u8 0, .int .u8 0, .int .u8 0, .int .u32 0, .int .u8 0, .int .u8 0, .int .u8 0, .int .u32 0, .int .u8 0, .int .u8 0, .int .u8 0, .int .u32 0, .int .u8 0, .int .u8 0, .int .u8 0, .int .u32 0, .int .u8 0, .int .u8 0, .int .u8 0, .int .u32 0, .int .u8 0, .int .u8 0, .int .u8 0, .int .u32 0, .int .u8 0, .int .u8 0, .int .u8 0, .int .u32 0, .int .u8 0, .int .u8 0, .int .u8 0, .int .u32 0, .int .u8 0, .int .u8 0, .int .u8 0, .int .u32 0, .int .u8 0, .int .u8 0, .int .u8 0, .int .u32 0, .int .u8 0, .int .u8 0, .int .u8 0, .int .u32 0, .int .u8 0, .int .u8 0, .int .u8 0, .int .u32 0, .int .u8 0, .int .u8 0, .int .u8 0, .int .u32 0, .int .u8 0, .int .u8 0, .int .u8 0, .int .u32 0, .int .u8 0, .int .u8 0, .int .u8 0, .int .u32 0, .int .u8 0, .int .u8 0, .int .u8 0, .int .u32 0, .int .u8 0, .int .u8 0, .int .u8 0, .int .u32 0, .int .u8 0, .int .u8 0, .int .u8 0, .int .u32 0, .int .u8 0, .int .u8 0, .int .u8 0, .int .u32 0, .int .u8 0, .int .u8 0, .int .u8 0, .int .u32 0, .int .u8 0, .int .u8 0, .int .u8 0, .int .u32 0, .int .u8 0, .int .u8 0, .int .u8 0, .int .u32 0, .int .u8 0, .int .u8 0, .int .u8 0, .int .u32 0, .int .u8 0, .int .u8 0, .int .u8 0, .int .u32 0, .int .u8 0, .int .u8 0, .int .u8 0, .int .u32 0, .int .u8 0, .int .u8 0, .int .u8 0, .int .u32 0, .int .u8 0, .int .u8 0, .int .u8 0, .int .u32 0, .int .u8 0, .int .u8 0, .int .u8 0]
def Z_arith_table:List Value:=[.int .u32 0, .int .u8 0, .int .u8 0, .int .u8 0, .int .u32 0, .int .u8 0, .int .u8 0, .int .u8 0, .int .u32 0, .int .u8 0, .int .u8 0, .int .u8 0, .int .u32 0, .int .u8 0, .int .u8 0, .int .u8 0, .int .u32 0, .int .u8 0, .int .u8 0, .int .u8 0, .int .u32 0, .int .u8 0, .int .u8 0, .int .u8 0, .int .u32 0, .int .u8 0, .int .u8 0, .int .u8 0, .int .u32 0, .int .u8 0, .int .u8 0, .int .u8 0, .int .u32 0, .int .u8 0, .int .u8 0, .int .u8 0, .int .u32 0, .int .u8 0, .int .u8 0, .int .u8 0, .int .u32 0, .int .u8 0, .int .u8 0, .int .u8 0, .int .u32 0, .int .u8 0, .int .u8 0, .int .u8 0, .int .u32 0, .int .u8 0, .int .u8 0, .int .u8 0, .int .u32 0, .int .u8 0, .int .u8 0, .int .u8 0, .int .u32 0, .int .u8 0, .int .u8 0, .int .u8 0, .int .u32 0, .int .u8 0, .int .u8 0, .int .u8 0, .int .u32 0, .int .u8 0, .int .u8 0, .int .u8 0, .int .u32 0, .int .u8 0, .int .u8 0, .int .u8 0, .int .u32 0, .int .u8 0, .int .u8 0, .int .u8 0, .int .u32 0, .int .u8 0, .int .u8 0, .int .u8 0, .int .u32 0, .int .u8 0, .int .u8 0, .int .u8 0, .int .u32 0, .int .u8 0, .int .u8 0, .int .u8 0, .int .u32 0, .int .u8 0, .int .u8 0, .int .u8 0, .int .u32 0, .int .u8 0, .int .u8 0, .int .u8 0, .int .u32 0, .int .u8 0, .int .u8 0, .int .u8 0, .int .u32 0, .int .u8 0, .int .u8 0, .int .u8 0, .int .u32 0, .int .u8 0, .int .u8 0, .int .u8 0, .int .u32 0, .int .u8 0, .int .u8 0, .int .u8 0, .int .u32 0, .int .u8 0, .int .u8 0, .int .u8 0, .int .u32 0, .int .u8 0, .int .u8 0, .int .u8 0, .int .u32 0, .int .u8 0, .int .u8 0, .int .u8 0, .int .u32 0, .int .u8 0, .int .u8 0, .int .u8 0, .int .u32 0, .int .u8 0, .int .u8 0, .int .u8 0, .int .u32 0, .int .u8 0, .int .u8 0, .int .u8 0, .int .u32 0, .int .u8 0, .int .u8 0, .int .u8 0, .int .u32 0, .int .u8 0, .int .u8 0, .int .u8 0, .int .u32 0, .int .u8 0, .int .u8 0, .int .u8 0, .int .u32 0, .int .u8 0, .int .u8 0, .int .u8 0, .int .u32 0, .int .u8 0, .int .u8 0, .int .u8 0, .int .u32 0, .int .u8 0, .int .u8 0, .int .u8 0, .int .u32 0, .int .u8 0, .int .u8 0, .int .u8 0, .int .u32 0, .int .u8 0, .int .u8 0, .int .u8 0, .int .u32 0, .int .u8 0, .int .u8 0, .int .u8 0, .int .u32 0, .int .u8 0, .int .u8 0, .int .u8 0, .int .u32 0, .int .u8 0, .int .u8 0, .int .u8 0, .int .u32 0, .int .u8 0, .int .u8 0, .int .u8 0, .int .u32 0, .int .u8 0, .int .u8 0, .int .u8 0, .slice none 0 0, .int .i64 0]
def Z_arith_Coder:List Value:=[.int .u32 0, .int .u8 0, .int .u8 0, .int .u8 0, .int .u32 0, .int .u8 0, .int .u8 0, .int .u8 0, .int .u32 0, .int .u8 0, .int .u8 0, .int .u8 0, .int .u32 0, .int .u8 0, .int .u8 0, .int .u8 0, .int .u32 0, .int .u8 0, .int .u8 0, .int .u8 0, .int .u32 0, .int .u8 0, .int .u8 0, .int .u8 0, .int .u32 0, .int .u8 0, .int .u8 0, .int .u8 0, .int .u32 0, .int .u8 0, .int .u8 0, .int .u8 0, .int .u32 0, .int .u8 0, .int .u8 0, .int .u8 0, .int .u32 0, .int .u8 0, .int .u8 0, .int .u8 0, .int .u32 0, .int .u8 0, .int .u8 0, .int .u8 0, .int .u32 0, .int .u8 0, .int .u8 0, .int .u8 0, .int .u32 0, .int .u8 0, .int .u8 0, .int .u8 0, .int .u32 0, .int .u8 0, .int .u8 0, .int .u8 0, .int .u32 0, .int .u8 0, .int .u8 0, .int .u8 0, .int .u32 0, .int .u8 0, .int .u8 0, .int .u8 0, .int .u32 0, .int .u8 0, .int .u8 0, .int .u8 0, .int .u32 0, .int .u8 0, .int .u8 0, .int .u8 0, .int .u32 0, .int .u8 0, .int .u8 0, .int .u8 0, .int .u32 0, .int .u8 0, .int .u8 0, .int .u8 0, .int .u32 0, .int .u8 0, .int .u8 0, .int .u8 0, .int .u32 0, .int .u8 0, .int .u8 0, .int .u8 0, .int .u32 0, .int .u8 0, .int .u8 0, .int .u8 0, .int .u32 0, .int .u8 0, .int .u8 0, .int .u8 0, .int .u32 0, .int .u8 0, .int .u8 0, .int .u8 0, .int .u32 0, .int .u8 0, .int .u8 0, .int .u8 0, .int .u32 0, .int .u8 0, .int .u8 0, .int .u8 0, .int .u32 0, .int .u8 0, .int .u8 0, .int .u8 0, .int .u32 0, .int .u8 0, .int .u8 0, .int .u8 0, .int .u32 0, .int .u8 0, .int .u8 0, .int .u8 0, .int .u32 0, .int .u8 0, .int .u8 0, .int .u8 0, .int .u32 0, .int .u8 0, .int .u8 0, .int .u8 0, .int .u32 0, .int .u8 0, .int .u8 0, .int .u8 0, .int .u32 0, .int .u8 0, .int .u8 0, .int .u8 0, .int .u32 0, .int .u8 0, .int .u8 0, .int .u8 0, .int .u32 0, .int .u8 0, .int .u8 0, .int .u8 0, .int .u32 0, .int .u8 0, .int .u8 0, .int .u8 0, .int .u32 0, .int .u8 0, .int .u8 0, .int .u8 0, .int .u32 0, .int .u8 0, .int .u8 0, .int .u8 0, .int .u32 0, .int .u8 0, .int .u8 0, .int .u8 0, .int .u32 0, .int .u8 0, .int .u8 0, .int .u8 0, .int .u32 0, .int .u8 0, .int .u8 0, .int .u8 0, .int .u32 0, .int .u8 0, .int .u8 0, .int .u8 0, .int .u32 0, .int .u8 0, .int .u8 0, .int .u8 0, .int .u32 0, .int .u8 0, .int .u8 0, .int .u8 0, .int .u32 0, .int .u8 0, .int .u8 0, .int .u8 0, .int .u32 0, .int .u8 0, .int .u8 0, .int .u8 0, .slice none 0 0, .int .i64 0, .int .u32 0, .int .u32 0, .int .i64 0, .slice none 0 0, .bool false]
def Z_arith_Decoder:List Value:=[.int .u32 0, .int .u8 0, .int .u8 0, .int .u8 0, .int .u32 0, .int .u8 0, .int .u8 0, .int .u8 0, .int .u32 0, .int .u8 0, .int .u8 0, .int .u8 0, .int .u32 0, .int .u8 0, .int .u8 0, .int .u8 0, .int .u32 0, .int .u8 0, .int .u8 0, .int .u8 0, .int .u32 0, .int .u8 0, .int .u8 0, .int .u8 0, .int .u32 0, .int .u8 0, .int .u8 0, .int .u8 0, .int .u32 0, .int .u8 0, .int .u8 0, .int .u8 0, .int .u32 0, .int .u8 0, .int .u8 0, .int .u8 0, .int .u32 0, .int .u8 0, .int .u8 0, .int .u8 0, .int .u32 0, .int .u8 0, .int .u8 0, .int .u8 0, .int .u32 0, .int .u8 0, .int .u8 0, .int .u8 0, .int .u32 0, .int .u8 0, .int .u8 0, .int .u8 0, .int .u32 0, .int .u8 0, .int .u8 0, .int .u8 0, .int .u32 0, .int .u8 0, .int .u8 0, .int .u8 0, .int .u32 0, .int .u8 0, .int .u8 0, .int .u8 0, .int .u32 0, .int .u8 0, .int .u8 0, .int .u8 0, .int .u32 0, .int .u8 0, .int .u8 0, .int .u8 0, .int .u32 0, .int .u8 0, .int .u8 0, .int .u8 0, .int .u32 0, .int .u8 0, .int .u8 0, .int .u8 0, .int .u32 0, .int .u8 0, .int .u8 0, .int .u8 0, .int .u32 0, .int .u8 0, .int .u8 0, .int .u8 0, .int .u32 0, .int .u8 0, .int .u8 0, .int .u8 0, .int .u32 0, .int .u8 0, .int .u8 0, .int .u8 0, .int .u32 0, .int .u8 0, .int .u8 0, .int .u8 0, .int .u32 0, .int .u8 0, .int .u8 0, .int .u8 0, .int .u32 0, .int .u8 0, .int .u8 0, .int .u8 0, .int .u32 0, .int .u8 0, .int .u8 0, .int .u8 0, .int .u32 0, .int .u8 0, .int .u8 0, .int .u8 0, .int .u32 0, .int .u8 0, .int .u8 0, .int .u8 0, .int .u32 0, .int .u8 0, .int .u8 0, .int .u8 0, .int .u32 0, .int .u8 0, .int .u8 0, .int .u8 0, .int .u32 0, .int .u8 0, .int .u8 0, .int .u8 0, .int .u32 0, .int .u8 0, .int .u8 0, .int .u8 0, .int .u32 0, .int .u8 0, .int .u8 0, .int .u8 0, .int .u32 0, .int .u8 0, .int .u8 0, .int .u8 0, .int .u32 0, .int .u8 0, .int .u8 0, .int .u8 0, .int .u32 0, .int .u8 0, .int .u8 0, .int .u8 0, .int .u32 0, .int .u8 0, .int .u8 0, .int .u8 0, .int .u32 0, .int .u8 0, .int .u8 0, .int .u8 0, .int .u32 0, .int .u8 0, .int .u8 0, .int .u8 0, .int .u32 0, .int .u8 0, .int .u8 0, .int .u8 0, .int .u32 0, .int .u8 0, .int .u8 0, .int .u8 0, .int .u32 0, .int .u8 0, .int .u8 0, .int .u8 0, .int .u32 0, .int .u8 0, .int .u8 0, .int .u8 0, .int .u32 0, .int .u8 0, .int .u8 0, .int .u8 0, .int .u32 0, .int .u8 0, .int .u8 0, .int .u8 0, .slice none 0 0, .int .i64 0, .int .u32 0, .int .u32 0, .int .i64 0, .slice none 0 0, .int .i64 0]
end Go.Den.YtfaclehehhgpcaaGreat
namespace Go.Den.YtfaclehehhgpcaaGreat
open Go Go.Den
def bitmap_Check (C:CallP) (b_1:Int) (b_2:Int) (b_3:Option Addr) (b_3n:Nat) (b_3c:Nat) (h:Heap) (K:VK) (Kp:PK):Prop :=
newC h [.int .i64 b_1, .int .i64 b_2, .slice b_3 b_3n b_3c] T_api_Bitmap fun r_4 h_5 =>
ldI h_5 ((⟨r_4,0,none⟩:Addr).add 0) .i64 fun x_6 =>
ldI h_5 ((⟨r_4,0,none⟩:Addr).add 1) .i64 fun x_7 =>
C F_bitmap_sized #[.int .i64 x_6, .int .i64 x_7] h_5 (fun v_8 h_9 =>
∃ (r_10:Bool),v_8 = .bool r_10/\(
bcase (!r_10) (
K (.bool false) h_9) <|
ldI h_9 ((⟨r_4,0,none⟩:Addr).add 0) .i64 fun x_11 =>
bindI (IntKind.i64.wrap (x_11+(63:Int))) fun z_12 =>
bindI (IntKind.i64.wrap (z_12.tdiv (64:Int))) fun z_13 =>
ldS h_9 ((⟨r_4,0,none⟩:Addr).add 2) fun x_14 x_14n x_14c =>
ldI h_9 ((⟨r_4,0,none⟩:Addr).add 1) .i64 fun x_15 =>
bindI (IntKind.i64.wrap (x_15*z_13)) fun z_16 =>
bcase ((x_14n:Int) != z_16) (
K (.bool false) h_9) <|
ldI h_9 ((⟨r_4,0,none⟩:Addr).add 1) .i64 fun x_17 =>
∃ J_18:Nat->List Value->Heap->Prop,(∃ n_20,J_18 n_20 [.int .i64 0] h_9)/\∀ (n_20:Nat) (h_21:Heap) (u_22:Nat->Value) (x_23:Int),J_18 n_20 [.int .i64 x_23] h_21->(
bcase (decide (x_23<x_17)) (
bindI (IntKind.i64.wrap (x_23*z_13)) fun z_24 =>
bindI (IntKind.i64.wrap (z_24+z_13)) fun z_25 =>
bindI (IntKind.i64.wrap (z_25-(1:Int))) fun z_26 =>
ldS h_21 ((⟨r_4,0,none⟩:Addr).add 2) fun x_27 x_27n x_27c =>
needs (0<=z_26/\z_26<(x_27n:Int)) <|
ptr x_27 fun a_28 =>
ldI h_21 (a_28.add (z_26.toNat*1)) .u64 fun x_29 =>
ldI h_21 ((⟨r_4,0,none⟩:Addr).add 0) .i64 fun x_30 =>
C F_bitmap_last #[.int .i64 x_30] h_21 (fun v_31 h_32 =>
∃ (r_33:Int),v_31 = .int .u64 r_33/\(
hext h_21 h_32/\(
bindI (bitI .andNot .u64 x_29 r_33) fun z_34 =>
bcase (z_34 != (0:Int)) (
K (.bool false) h_32) <|
bindI (IntKind.i64.wrap (x_23+(1:Int))) fun z_35 =>
∃ m_19,m_19<n_20/\J_18 m_19 [.int .i64 z_35] h_32))) (Kp)) <|
K (.bool true) h_21))) (Kp)
def bitmap_sized (C:CallP) (w:Int) (h':Int) (h:Heap) (K:VK) (Kp:PK):Prop :=
bcase (decide (w≥(1:Int))) (
bcase (decide (h'≥(1:Int))) (
bcase (decide (w<=(1048576:Int))) (
bcase (decide (h'<=(1048576:Int))) (
bindI (IntKind.i64.wrap (w*h')) fun z_1 =>
K (.bool (decide (z_1<=(1048576:Int)))) h) <|
K (.bool false) h) <|
K (.bool false) h) <|
K (.bool false) h) <|
K (.bool false) h
def bitmap_last (C:CallP) (w:Int) (h:Heap) (K:VK) (Kp:PK):Prop :=
bindI (w.tmod (64:Int)) fun z_1 =>
bindI (IntKind.i64.wrap ((64:Int)-z_1)) fun z_2 =>
bindI (z_2.tmod (64:Int)) fun z_3 =>
needs (0<=z_3) <|
bindI (shlI .u64 (18446744073709551615:Int) z_3) fun z_4 =>
K (.int .u64 z_4) h
def bitmap_New (C:CallP) (w:Int) (h':Int) (h:Heap) (K:VK) (Kp:PK):Prop :=
C F_bitmap_sized #[.int .i64 w, .int .i64 h'] h (fun v_1 h_2 =>
∃ (r_3:Bool),v_1 = .bool r_3/\(
bcase (!r_3) (
K (.tuple #[.pointer none, .int .i64 20]) h_2) <|
bindI (IntKind.i64.wrap (w+(63:Int))) fun z_4 =>
bindI (IntKind.i64.wrap (z_4.tdiv (64:Int))) fun z_5 =>
bindI (IntKind.i64.wrap (h'*z_5)) fun z_6 =>
needs (0<=z_6/\z_6<=z_6/\z_6<=9223372036854775807/\((8:Nat):Int)*z_6<=281474976710656) <|
newC h_2 (repZ [.int .u64 0] z_6.toNat) T_uint64 fun r_7 h_8 =>
newC h_8 [.int .i64 w, .int .i64 h', .int .i64 z_5, .slice (some ⟨r_7,0,none⟩) z_6.toNat z_6.toNat] T_bitmap_Map fun r_9 h_10 =>
K (.tuple #[.pointer (some ⟨r_9,0,none⟩), .int .i64 0]) h_10)) (Kp)
def bitmap_From (C:CallP) (b_1:Int) (b_2:Int) (b_3:Option Addr) (b_3n:Nat) (b_3c:Nat) (h:Heap) (K:VK) (Kp:PK):Prop :=
newC h [.int .i64 b_1, .int .i64 b_2, .slice b_3 b_3n b_3c] T_api_Bitmap fun r_4 h_5 =>
ldI h_5 ((⟨r_4,0,none⟩:Addr).add 0) .i64 fun x_6 =>
ldI h_5 ((⟨r_4,0,none⟩:Addr).add 1) .i64 fun x_7 =>
ldS h_5 ((⟨r_4,0,none⟩:Addr).add 2) fun x_8 x_8n x_8c =>
C F_bitmap_Check #[.agg #[.int .i64 x_6, .int .i64 x_7, .slice x_8 x_8n x_8c]] h_5 (fun v_9 h_10 =>
∃ (r_11:Bool),v_9 = .bool r_11/\(
bcase (!r_11) (
K (.tuple #[.pointer none, .int .i64 21]) h_10) <|
ldI h_10 ((⟨r_4,0,none⟩:Addr).add 0) .i64 fun x_12 =>
ldI h_10 ((⟨r_4,0,none⟩:Addr).add 1) .i64 fun x_13 =>
ldI h_10 ((⟨r_4,0,none⟩:Addr).add 0) .i64 fun x_14 =>
bindI (IntKind.i64.wrap (x_14+(63:Int))) fun z_15 =>
bindI (IntKind.i64.wrap (z_15.tdiv (64:Int))) fun z_16 =>
ldS h_10 ((⟨r_4,0,none⟩:Addr).add 2) fun x_17 x_17n x_17c =>
C F_slices_Clone_uint64_uint64 #[.slice x_17 x_17n x_17c] h_10 (fun v_18 h_19 =>
∃ (r_20:Option Addr) (r_20n:Nat) (r_20c:Nat),v_18 = .slice r_20 r_20n r_20c/\(
hext h_10 h_19/\(
newC h_19 [.int .i64 x_12, .int .i64 x_13, .int .i64 z_16, .slice r_20 r_20n r_20c] T_bitmap_Map fun r_21 h_22 =>
K (.tuple #[.pointer (some ⟨r_21,0,none⟩), .int .i64 0]) h_22))) (Kp))) (Kp)
def bitmap_Map_Blit (C:CallP) (a0:Option Addr) (a1:Option Addr) (a2:Int) (a3:Int) (a4:Int) (a5:Int) (a6:Int) (a7:Int) (a8:Int) (h:Heap) (K:VK) (Kp:PK):Prop :=
bcase a1.isNone (
K (.int .i64 26) h) <|
bcase (decide (a4<(0:Int))) (
K (.int .i64 24) h) <|
bcase (decide (a5<(0:Int))) (
K (.int .i64 24) h) <|
bcase (decide (a8<(0:Int))) (
K (.int .i64 25) h) <|
bcase (decide (a8 > (4:Int))) (
K (.int .i64 25) h) <|
ptr a1 fun a_1 =>
ptr a0 fun a_2 =>
ldI h (a_1.add 0) .i64 fun x_3 =>
ldI h (a_2.add 0) .i64 fun x_4 =>
C F_bitmap_both #[.int .i64 a2, .int .i64 x_3, .int .i64 a6, .int .i64 x_4, .int .i64 a4] h (fun v_5 h_6 =>
∃ (r_7:Int),∃ (r_8:Int),∃ (r_9:Int),v_5 = .tuple #[.int .i64 r_7, .int .i64 r_8, .int .i64 r_9]/\(
ptr a1 fun a_10 =>
ptr a0 fun a_11 =>
ldI h_6 (a_10.add 1) .i64 fun x_12 =>
ldI h_6 (a_11.add 1) .i64 fun x_13 =>
C F_bitmap_both #[.int .i64 a3, .int .i64 x_12, .int .i64 a7, .int .i64 x_13, .int .i64 a5] h_6 (fun v_14 h_15 =>
∃ (r_16:Int),∃ (r_17:Int),∃ (r_18:Int),v_14 = .tuple #[.int .i64 r_16, .int .i64 r_17, .int .i64 r_18]/\(
bcase (r_9 == (0:Int)) (
K (.int .i64 0) h_15) <|
bcase (r_18 == (0:Int)) (
K (.int .i64 0) h_15) <|
C F_bitmap_operations #[] h_15 (fun v_19 h_20 =>
∃ (r_21:Option Addr) (r_21n:Nat) (r_21c:Nat),v_19 = .slice r_21 r_21n r_21c/\(
needs (0<=a8/\a8<(r_21n:Int)) <|
ptr r_21 fun a_22 =>
ldV h_20 (a_22.add (a8.toNat*1)) fun x_23 =>
ptr a1 fun a_24 =>
ldI h_20 (a_24.add 2) .i64 fun x_25 =>
needs (0<=x_25/\x_25<=x_25/\x_25<=9223372036854775807/\((8:Nat):Int)*x_25<=281474976710656) <|
newC h_20 (repZ [.int .u64 0] x_25.toNat) T_uint64 fun r_26 h_27 =>
∃ J_28:Nat->List Value->Heap->Prop,(∃ n_30,J_28 n_30 [.int .i64 0] h_27)/\∀ (n_30:Nat) (h_31:Heap) (u_32:Nat->Value) (x_33:Int),J_28 n_30 [.int .i64 x_33] h_31->(
bcase (decide (x_33<r_18)) (
∃ K_34:List Value->Heap->Prop,(
bcase (decide (r_17 > r_16)) (
bindI (IntKind.i64.wrap (r_18-(1:Int))) fun z_37 =>
bindI (IntKind.i64.wrap (z_37-x_33)) fun z_38 =>
K_34 [.int .i64 z_38] h_31) <|
K_34 [.int .i64 x_33] h_31)/\∀ (h_35:Heap) (u_36:Nat->Value) (x_39:Int),K_34 [.int .i64 x_39] h_35->(
bindI (IntKind.i64.wrap (r_16+x_39)) fun z_40 =>
ptr a1 fun a_41 =>
ldI h_35 (a_41.add 2) .i64 fun x_42 =>
bindI (IntKind.i64.wrap (z_40*x_42)) fun z_43 =>
ptr a1 fun a_44 =>
ptr a1 fun a_45 =>
ptr a1 fun a_46 =>
ldS h_35 (a_44.add 3) fun x_47 x_47n x_47c =>
ldI h_35 (a_45.add 2) .i64 fun x_48 =>
bindI (IntKind.i64.wrap (z_43+x_48)) fun z_49 =>
ldI h_35 (a_46.add 2) .i64 fun x_50 =>
bindI (IntKind.i64.wrap (z_43+x_50)) fun z_51 =>
needs (0<=z_51/\z_51<=((x_47c:Nat):Int)) <|
needs (0<=z_49/\z_49<=((z_51.toNat:Nat):Int)) <|
needs (0<=z_43/\z_43<=((z_49.toNat:Nat):Int)) <|
copC h_35 1 (some ⟨r_26,0,none⟩) (x_25.toNat) (subA x_47 (z_51.toNat) (z_43.toNat) 1) ((z_49.toNat-z_43.toNat)) fun n_52 h_53 =>
bindI (IntKind.i64.wrap (r_8.tdiv (64:Int))) fun z_54 =>
∃ J_55:Nat->List Value->Heap->Prop,(∃ n_57,J_55 n_57 [.int .i64 z_54] h_53)/\∀ (n_57:Nat) (h_58:Heap) (u_59:Nat->Value) (x_60:Int),J_55 n_57 [.int .i64 x_60] h_58->(
bindI (IntKind.i64.wrap (r_8+r_9)) fun z_61 =>
bindI (IntKind.i64.wrap (z_61-(1:Int))) fun z_62 =>
bindI (IntKind.i64.wrap (z_62.tdiv (64:Int))) fun z_63 =>
bcase (decide (x_60<=z_63)) (
ptr a0 fun a_64 =>
bindI (IntKind.i64.wrap (r_17+x_39)) fun z_65 =>
ptr a0 fun a_66 =>
ldS h_58 (a_64.add 3) fun x_67 x_67n x_67c =>
ldI h_58 (a_66.add 2) .i64 fun x_68 =>
bindI (IntKind.i64.wrap (z_65*x_68)) fun z_69 =>
bindI (IntKind.i64.wrap (z_69+x_60)) fun z_70 =>
needs (0<=z_70/\z_70<(x_67n:Int)) <|
ptr x_67 fun a_71 =>
C F_bitmap_mask #[.int .i64 x_60, .int .i64 r_8, .int .i64 r_9] h_58 (fun v_72 h_73 =>
∃ (r_74:Int),v_72 = .int .u64 r_74/\(
bindI (IntKind.i64.wrap ((64:Int)*x_60)) fun z_75 =>
bindI (IntKind.i64.wrap (r_7+z_75)) fun z_76 =>
bindI (IntKind.i64.wrap (z_76-r_8)) fun z_77 =>
ldI h_73 (a_71.add (z_70.toNat*1)) .u64 fun x_78 =>
bindI (bitI .andNot .u64 x_78 r_74) fun z_79 =>
ldI h_73 (a_71.add (z_70.toNat*1)) .u64 fun x_80 =>
C F_bitmap_word #[.slice (some ⟨r_26,0,none⟩) x_25.toNat x_25.toNat, .int .i64 z_77] h_73 (fun v_81 h_82 =>
∃ (r_83:Int),v_81 = .int .u64 r_83/\(
hext h_73 h_82/\(
callD C (Kp) x_23 [.int .u64 x_80, .int .u64 r_83] h_82 fun v_84 h_85 =>
∃ (r_86:Int),v_84 = .int .u64 r_86/\(
hext h_82 h_85/\(
bindI (bitI .and .u64 r_86 r_74) fun z_87 =>
bindI (bitI .or .u64 z_79 z_87) fun z_88 =>
stV h_85 (a_71.add (z_70.toNat*1)) (.int .u64 z_88) fun h_89 =>
bindI (IntKind.i64.wrap (x_60+(1:Int))) fun z_90 =>
∃ m_56,m_56<n_57/\J_55 m_56 [.int .i64 z_90] h_89))))) (Kp))) (Kp)) <|
bindI (IntKind.i64.wrap (x_33+(1:Int))) fun z_91 =>
∃ m_29,m_29<n_30/\J_28 m_29 [.int .i64 z_91] h_58))) <|
K (.int .i64 0) h_31))) (Kp))) (Kp))) (Kp)
def bitmap_Map_Plain (C:CallP) (m:Option Addr) (h:Heap) (K:VK) (Kp:PK):Prop :=
newC h [.int .i64 0, .int .i64 0, .slice none 0 0] T_api_Bitmap fun r_1 h_2 =>
ptr m fun a_3 =>
ptr m fun a_4 =>
ptr m fun a_5 =>
ldI h_2 (a_3.add 0) .i64 fun x_6 =>
ldI h_2 (a_4.add 1) .i64 fun x_7 =>
ldS h_2 (a_5.add 3) fun x_8 x_8n x_8c =>
C F_slices_Clone_uint64_uint64 #[.slice x_8 x_8n x_8c] h_2 (fun v_9 h_10 =>
∃ (r_11:Option Addr) (r_11n:Nat) (r_11c:Nat),v_9 = .slice r_11 r_11n r_11c/\(
hext h_2 h_10/\(
stV h_10 ((⟨r_1,0,none⟩:Addr).add 0) (.int .i64 x_6) fun h_12 =>
stV h_12 ((⟨r_1,0,none⟩:Addr).add 1) (.int .i64 x_7) fun h_13 =>
stV h_13 ((⟨r_1,0,none⟩:Addr).add 2) (.slice r_11 r_11n r_11c) fun h_14 =>
ldI h_14 ((⟨r_1,0,none⟩:Addr).add 0) .i64 fun r_15 =>
ldI h_14 ((⟨r_1,0,none⟩:Addr).add 1) .i64 fun r_16 =>
ldS h_14 ((⟨r_1,0,none⟩:Addr).add 2) fun r_17 r_17n r_17c =>
K (.agg #[.int .i64 r_15, .int .i64 r_16, .slice r_17 r_17n r_17c]) h_14))) (Kp)
def bitmap_cut (C:CallP) (off:Int) (n:Int) (size:Int) (h:Heap) (K:VK) (Kp:PK):Prop :=
∃ K_1:List Value->Heap->Prop,(
bcase (decide (n<=(0:Int))) (
K_1 [.bool (decide (n<=(0:Int)))] h) <|
bcase (decide (off≥size)) (
K_1 [.bool (decide (off≥size))] h) <|
bindI (IntKind.i64.wrap (0-n)) fun z_4 =>
K_1 [.bool (decide (off<=z_4))] h)/\∀ (h_2:Heap) (u_3:Nat->Value) (x_5:Bool),K_1 [.bool x_5] h_2->(
bcase x_5 (
K (.tuple #[.int .i64 0, .int .i64 0]) h_2) <|
bcase (decide (off≥(0:Int))) (
bindI (IntKind.i64.wrap (size-off)) fun z_6 =>
bindI (minI n z_6) fun z_7 =>
K (.tuple #[.int .i64 0, .int .i64 z_7]) h_2) <|
bindI (IntKind.i64.wrap (0-off)) fun z_8 =>
bindI (IntKind.i64.wrap (n+off)) fun z_9 =>
bindI (minI z_9 size) fun z_10 =>
K (.tuple #[.int .i64 z_8, .int .i64 z_10]) h_2)
def bitmap_mask (C:CallP) (i:Int) (x:Int) (n:Int) (h:Heap) (K:VK) (Kp:PK):Prop :=
bindI (IntKind.i64.wrap ((64:Int)*i)) fun z_1 =>
bindI (IntKind.i64.wrap (x-z_1)) fun z_2 =>
bindI (maxI z_2 (0:Int)) fun z_3 =>
bindI (IntKind.i64.wrap (x+n)) fun z_4 =>
bindI (IntKind.i64.wrap ((64:Int)*i)) fun z_5 =>
bindI (IntKind.i64.wrap (z_4-z_5)) fun z_6 =>
bindI (minI z_6 (64:Int)) fun z_7 =>
needs (0<=z_3) <|
bindI (shrI .u64 (18446744073709551615:Int) z_3) fun z_8 =>
needs (0<=z_7) <|
bindI (shrI .u64 (18446744073709551615:Int) z_7) fun z_9 =>
bindI (bitI .andNot .u64 z_8 z_9) fun z_10 =>
K (.int .u64 z_10) h
def bitmap_both (C:CallP) (a:Int) (asv:Int) (b:Int) (bs:Int) (n:Int) (h:Heap) (K:VK) (Kp:PK):Prop :=
C F_bitmap_cut #[.int .i64 a, .int .i64 n, .int .i64 asv] h (fun v_1 h_2 =>
∃ (r_3:Int),∃ (r_4:Int),v_1 = .tuple #[.int .i64 r_3, .int .i64 r_4]/\(
bcase (r_4 == (0:Int)) (
K (.tuple #[.int .i64 0, .int .i64 0, .int .i64 0]) h_2) <|
bindI (IntKind.i64.wrap ((9223372036854775807:Int)-r_3)) fun z_5 =>
bcase (decide (b > z_5)) (
K (.tuple #[.int .i64 0, .int .i64 0, .int .i64 0]) h_2) <|
bindI (IntKind.i64.wrap (a+r_3)) fun z_6 =>
bindI (IntKind.i64.wrap (b+r_3)) fun z_7 =>
C F_bitmap_cut #[.int .i64 z_7, .int .i64 r_4, .int .i64 bs] h_2 (fun v_8 h_9 =>
∃ (r_10:Int),∃ (r_11:Int),v_8 = .tuple #[.int .i64 r_10, .int .i64 r_11]/\(
bindI (IntKind.i64.wrap (z_6+r_10)) fun z_12 =>
bindI (IntKind.i64.wrap (z_7+r_10)) fun z_13 =>
K (.tuple #[.int .i64 z_12, .int .i64 z_13, .int .i64 r_11]) h_9)) (Kp))) (Kp)
def bitmap_operations (C:CallP)  (h:Heap) (K:VK) (Kp:PK):Prop :=
newC h [.func (.func F_bitmap_operations_c1) #[] #[], .func (.func F_bitmap_operations_c2) #[] #[], .func (.func F_bitmap_operations_c3) #[] #[], .func (.func F_bitmap_operations_c4) #[] #[], .func (.func F_bitmap_operations_c5) #[] #[]] T_func_uint64_uint64_uint64 fun r_1 h_2 =>
K (.slice (some ⟨r_1,0,none⟩) 5 5) h_2
def bitmap_word (C:CallP) (row:Option Addr) (rown:Nat) (rowc:Nat) (x:Int) (h:Heap) (K:VK) (Kp:PK):Prop :=
bcase (decide (x<(0:Int))) (
C F_bitmap_word #[.slice row rown rowc, .int .i64 0] h (fun v_1 h_2 =>
∃ (r_3:Int),v_1 = .int .u64 r_3/\(
bindI (IntKind.i64.wrap (0-x)) fun z_4 =>
needs (0<=z_4) <|
bindI (shrI .u64 r_3 z_4) fun z_5 =>
K (.int .u64 z_5) h_2)) (Kp)) <|
bindI (IntKind.i64.wrap (x.tdiv (64:Int))) fun z_6 =>
bcase (decide (z_6≥(rown:Int))) (
K (.int .u64 0) h) <|
needs (0<=z_6/\z_6<(rown:Int)) <|
ptr row fun a_7 =>
ldI h (a_7.add (z_6.toNat*1)) .u64 fun x_8 =>
bindI (x.tmod (64:Int)) fun z_9 =>
needs (0<=z_9) <|
bindI (shlI .u64 x_8 z_9) fun z_10 =>
∃ K_11:List Value->Heap->Prop,(
bindI (x.tmod (64:Int)) fun z_14 =>
bcase (decide (z_14 > (0:Int))) (
bindI (IntKind.i64.wrap (z_6+(1:Int))) fun z_15 =>
K_11 [.bool (decide (z_15<(rown:Int)))] h) <|
K_11 [.bool false] h)/\∀ (h_12:Heap) (u_13:Nat->Value) (x_16:Bool),K_11 [.bool x_16] h_12->(
bcase x_16 (
bindI (IntKind.i64.wrap (z_6+(1:Int))) fun z_17 =>
needs (0<=z_17/\z_17<(rown:Int)) <|
ptr row fun a_18 =>
ldI h_12 (a_18.add (z_17.toNat*1)) .u64 fun x_19 =>
bindI (x.tmod (64:Int)) fun z_20 =>
bindI (IntKind.i64.wrap ((64:Int)-z_20)) fun z_21 =>
needs (0<=z_21) <|
bindI (shrI .u64 x_19 z_21) fun z_22 =>
bindI (bitI .or .u64 z_10 z_22) fun z_23 =>
K (.int .u64 z_23) h_12) <|
K (.int .u64 z_10) h_12)
def bitmap_Map_Size (C:CallP) (m:Option Addr) (h:Heap) (K:VK) (Kp:PK):Prop :=
ptr m fun a_1 =>
ptr m fun a_2 =>
ldI h (a_1.add 0) .i64 fun x_3 =>
ldI h (a_2.add 1) .i64 fun x_4 =>
K (.tuple #[.int .i64 x_3, .int .i64 x_4]) h
def bitmap_operations_c1 (C:CallP) (d:Int) (s:Int) (h:Heap) (K:VK) (Kp:PK):Prop :=
bindI (bitI .or .u64 d s) fun z_1 =>
K (.int .u64 z_1) h
def bitmap_operations_c2 (C:CallP) (d:Int) (s:Int) (h:Heap) (K:VK) (Kp:PK):Prop :=
bindI (bitI .and .u64 d s) fun z_1 =>
K (.int .u64 z_1) h
def bitmap_operations_c3 (C:CallP) (d:Int) (s:Int) (h:Heap) (K:VK) (Kp:PK):Prop :=
bindI (bitI .xor .u64 d s) fun z_1 =>
K (.int .u64 z_1) h
def bitmap_operations_c4 (C:CallP) (d:Int) (s:Int) (h:Heap) (K:VK) (Kp:PK):Prop :=
bindI (bitI .xor .u64 d s) fun z_1 =>
bindI (bitI .xor .u64 IntKind.u64.max z_1) fun z_2 =>
K (.int .u64 z_2) h
def bitmap_operations_c5 (C:CallP) (d:Int) (s:Int) (h:Heap) (K:VK) (Kp:PK):Prop :=
K (.int .u64 s) h
def bitmap_Map_Get (C:CallP) (m:Option Addr) (x:Int) (y:Int) (h:Heap) (K:VK) (Kp:PK):Prop :=
C F_bitmap_Map_inside #[.pointer m, .int .i64 x, .int .i64 y] h (fun v_1 h_2 =>
∃ (r_3:Bool),v_1 = .bool r_3/\(
bcase (!r_3) (
K (.int .i64 0) h_2) <|
ptr m fun a_4 =>
ptr m fun a_5 =>
bindI (IntKind.i64.wrap (x.tdiv (64:Int))) fun z_6 =>
bindI (x.tmod (64:Int)) fun z_7 =>
bindI (IntKind.i64.wrap ((63:Int)-z_7)) fun z_8 =>
ldS h_2 (a_4.add 3) fun x_9 x_9n x_9c =>
ldI h_2 (a_5.add 2) .i64 fun x_10 =>
bindI (IntKind.i64.wrap (y*x_10)) fun z_11 =>
bindI (IntKind.i64.wrap (z_11+z_6)) fun z_12 =>
needs (0<=z_12/\z_12<(x_9n:Int)) <|
ptr x_9 fun a_13 =>
ldI h_2 (a_13.add (z_12.toNat*1)) .u64 fun x_14 =>
needs (0<=z_8) <|
bindI (shrI .u64 x_14 z_8) fun z_15 =>
bindI (bitI .and .u64 z_15 (1:Int)) fun z_16 =>
bindI (IntKind.i64.wrap z_16) fun z_17 =>
K (.int .i64 z_17) h_2)) (Kp)
def bitmap_Map_Set (C:CallP) (m:Option Addr) (x:Int) (y:Int) (bit:Int) (h:Heap) (K:VK) (Kp:PK):Prop :=
C F_bitmap_Map_inside #[.pointer m, .int .i64 x, .int .i64 y] h (fun v_1 h_2 =>
∃ (r_3:Bool),v_1 = .bool r_3/\(
bcase (!r_3) (
K (.int .i64 22) h_2) <|
bcase (bit != (0:Int)) (
bcase (bit != (1:Int)) (
K (.int .i64 23) h_2) <|
C F_bitmap_Map_put #[.pointer m, .int .i64 x, .int .i64 y, .int .i64 bit] h_2 (fun v_4 h_5 =>
K (.int .i64 0) h_5) (Kp)) <|
C F_bitmap_Map_put #[.pointer m, .int .i64 x, .int .i64 y, .int .i64 bit] h_2 (fun v_6 h_7 =>
K (.int .i64 0) h_7) (Kp))) (Kp)
def bitmap_Map_inside (C:CallP) (m:Option Addr) (x:Int) (y:Int) (h:Heap) (K:VK) (Kp:PK):Prop :=
bcase (decide (x≥(0:Int))) (
ptr m fun a_1 =>
ldI h (a_1.add 0) .i64 fun x_2 =>
bcase (decide (x<x_2)) (
bcase (decide (y≥(0:Int))) (
ptr m fun a_3 =>
ldI h (a_3.add 1) .i64 fun x_4 =>
K (.bool (decide (y<x_4))) h) <|
K (.bool false) h) <|
K (.bool false) h) <|
K (.bool false) h
def bitmap_Map_put (C:CallP) (m:Option Addr) (x:Int) (y:Int) (bit:Int) (h:Heap) (K:VK) (Kp:PK):Prop :=
ptr m fun a_1 =>
ptr m fun a_2 =>
bindI (IntKind.i64.wrap (x.tdiv (64:Int))) fun z_3 =>
ldS h (a_1.add 3) fun x_4 x_4n x_4c =>
ldI h (a_2.add 2) .i64 fun x_5 =>
bindI (IntKind.i64.wrap (y*x_5)) fun z_6 =>
bindI (IntKind.i64.wrap (z_6+z_3)) fun z_7 =>
needs (0<=z_7/\z_7<(x_4n:Int)) <|
ptr x_4 fun a_8 =>
bindI (x.tmod (64:Int)) fun z_9 =>
bindI (IntKind.i64.wrap ((63:Int)-z_9)) fun z_10 =>
needs (0<=z_10) <|
bindI (shlI .u64 (1:Int) z_10) fun z_11 =>
bindI (IntKind.u64.wrap bit) fun z_12 =>
bindI (x.tmod (64:Int)) fun z_13 =>
bindI (IntKind.i64.wrap ((63:Int)-z_13)) fun z_14 =>
needs (0<=z_14) <|
bindI (shlI .u64 z_12 z_14) fun z_15 =>
ldI h (a_8.add (z_7.toNat*1)) .u64 fun x_16 =>
bindI (bitI .andNot .u64 x_16 z_11) fun z_17 =>
bindI (bitI .or .u64 z_17 z_15) fun z_18 =>
stV h (a_8.add (z_7.toNat*1)) (.int .u64 z_18) fun h_19 =>
K (.tuple #[]) h_19
end Go.Den.YtfaclehehhgpcaaGreat
namespace Go.Den.YtfaclehehhgpcaaGreat
open Go Go.Den
theorem call_bitmap_Check {b_1:Int} {b_2:Int} {b_3:Option Addr} {b_3n:Nat} {b_3c:Nat} {h:Heap} {K:VK} {Kp:PK} (H:bitmap_Check (CallsHP Go.Proofs.Tryz.prog) b_1 b_2 b_3 b_3n b_3c h K Kp):CallsHP Go.Proofs.Tryz.prog F_bitmap_Check #[.agg #[.int .i64 b_1, .int .i64 b_2, .slice b_3 b_3n b_3c]] h K Kp :=
 callsHP_ofE (Hints.mk (fun i=>bif Nat.beq i 9 then some ([], .take 0 <| .take 2 <| .take 3 <| .take 4 <| .take 5 <| .take 6 <| .take 7 <| .take 10 <| .take 1 <| .take 8 <| .take 9 <| .take 11 <| .go 12 <| .take 13 <| .take 14 <| .done) else (none)) (fun i=>bif Nat.beq i 7 then some ([(25, .int .i64)],17592152490004) else (none)) (fun i=>none) []) (by kernel_rfl) Go.Proofs.Tryz.func56 (by kernel_rfl) (fun C=>bitmap_Check C b_1 b_2 b_3 b_3n b_3c h K Kp) (fun C=>by kernel_rfl) H
theorem call_bitmap_sized {w:Int} {h':Int} {h:Heap} {K:VK} {Kp:PK} (H:bitmap_sized (CallsHP Go.Proofs.Tryz.prog) w h' h K Kp):CallsHP Go.Proofs.Tryz.prog F_bitmap_sized #[.int .i64 w, .int .i64 h'] h K Kp :=
 callsHP_ofE (Hints.mk (fun i=>none) (fun i=>none) (fun i=>none) []) (by kernel_rfl) Go.Proofs.Tryz.func121 (by kernel_rfl) (fun C=>bitmap_sized C w h' h K Kp) (fun C=>by kernel_rfl) H
theorem call_bitmap_last {w:Int} {h:Heap} {K:VK} {Kp:PK} (H:bitmap_last (CallsHP Go.Proofs.Tryz.prog) w h K Kp):CallsHP Go.Proofs.Tryz.prog F_bitmap_last #[.int .i64 w] h K Kp :=
 callsHP_ofE (Hints.mk (fun i=>none) (fun i=>none) (fun i=>none) []) (by kernel_rfl) Go.Proofs.Tryz.func122 (by kernel_rfl) (fun C=>bitmap_last C w h K Kp) (fun C=>by kernel_rfl) H
theorem call_bitmap_New {w:Int} {h':Int} {h:Heap} {K:VK} {Kp:PK} (H:bitmap_New (CallsHP Go.Proofs.Tryz.prog) w h' h K Kp):CallsHP Go.Proofs.Tryz.prog F_bitmap_New #[.int .i64 w, .int .i64 h'] h K Kp :=
 callsHP_ofE (Hints.mk (fun i=>none) (fun i=>none) (fun i=>none) []) (by kernel_rfl) Go.Proofs.Tryz.func126 (by kernel_rfl) (fun C=>bitmap_New C w h' h K Kp) (fun C=>by kernel_rfl) H
theorem call_bitmap_From {b_1:Int} {b_2:Int} {b_3:Option Addr} {b_3n:Nat} {b_3c:Nat} {h:Heap} {K:VK} {Kp:PK} (H:bitmap_From (CallsHP Go.Proofs.Tryz.prog) b_1 b_2 b_3 b_3n b_3c h K Kp):CallsHP Go.Proofs.Tryz.prog F_bitmap_From #[.agg #[.int .i64 b_1, .int .i64 b_2, .slice b_3 b_3n b_3c]] h K Kp :=
 callsHP_ofE (Hints.mk (fun i=>bif Nat.beq i 3 then some ([12], .take 0 <| .take 2 <| .take 4 <| .take 8 <| .take 1 <| .take 3 <| .take 5 <| .take 6 <| .take 7 <| .take 9 <| .go 10 <| .take 11 <| .bar 12 [] <| .take 13 <| .take 14 <| .done) else (none)) (fun i=>none) (fun i=>none) []) (by kernel_rfl) Go.Proofs.Tryz.func128 (by kernel_rfl) (fun C=>bitmap_From C b_1 b_2 b_3 b_3n b_3c h K Kp) (fun C=>by kernel_rfl) H
theorem call_bitmap_Map_Blit {a0:Option Addr} {a1:Option Addr} {a2:Int} {a3:Int} {a4:Int} {a5:Int} {a6:Int} {a7:Int} {a8:Int} {h:Heap} {K:VK} {Kp:PK} (H:bitmap_Map_Blit (CallsHP Go.Proofs.Tryz.prog) a0 a1 a2 a3 a4 a5 a6 a7 a8 h K Kp):CallsHP Go.Proofs.Tryz.prog F_bitmap_Map_Blit #[.pointer a0, .pointer a1, .int .i64 a2, .int .i64 a3, .int .i64 a4, .int .i64 a5, .int .i64 a6, .int .i64 a7, .int .i64 a8] h K Kp :=
 callsHP_ofE (Hints.mk (fun i=>bif Nat.beq i 7 then some ([11], .take 0 <| .take 1 <| .take 2 <| .take 3 <| .take 5 <| .take 6 <| .take 7 <| .take 8 <| .take 10 <| .take 4 <| .take 9 <| .bar 11 [] <| .take 12 <| .take 13 <| .take 14 <| .take 15 <| .take 16 <| .take 17 <| .take 18 <| .done) else (bif Nat.beq i 8 then some ([11], .take 0 <| .take 1 <| .take 2 <| .take 3 <| .take 5 <| .take 6 <| .take 7 <| .take 8 <| .take 10 <| .take 4 <| .take 9 <| .bar 11 [] <| .take 12 <| .take 13 <| .take 14 <| .take 15 <| .take 16 <| .take 17 <| .take 18 <| .done) else (bif Nat.beq i 19 then some ([19], .take 0 <| .take 1 <| .take 2 <| .take 3 <| .take 5 <| .take 6 <| .take 7 <| .take 8 <| .take 9 <| .take 12 <| .take 13 <| .take 14 <| .take 15 <| .take 4 <| .take 10 <| .take 11 <| .take 16 <| .take 17 <| .take 18 <| .bar 19 [] <| .done) else (bif Nat.beq i 23 then some ([], .take 0 <| .take 1 <| .take 2 <| .take 4 <| .take 5 <| .take 6 <| .take 7 <| .take 8 <| .take 9 <| .take 12 <| .take 3 <| .take 10 <| .take 11 <| .take 13 <| .take 14 <| .take 15 <| .done) else (bif Nat.beq i 25 then some ([23], .take 0 <| .take 1 <| .take 2 <| .take 4 <| .take 6 <| .take 7 <| .take 8 <| .take 10 <| .take 11 <| .take 12 <| .take 13 <| .take 14 <| .take 15 <| .take 16 <| .take 19 <| .take 3 <| .take 5 <| .take 9 <| .go 17 <| .go 18 <| .take 20 <| .take 21 <| .take 22 <| .bar 23 [] <| .done) else (none)))))) (fun i=>bif Nat.beq i 14 then some ([(91, .int .i64)],12259964326927110866866776214726593390379152427735580672) else (bif Nat.beq i 21 then some ([(23, .int .i64)],6129982163463552711174452741093529027478097034647437312) else (none))) (fun i=>bif Nat.beq i 18 then some ([(21, .int .i64)],2515494159827892718595022520320) else (none)) []) (by kernel_rfl) Go.Proofs.Tryz.func129 (by kernel_rfl) (fun C=>bitmap_Map_Blit C a0 a1 a2 a3 a4 a5 a6 a7 a8 h K Kp) (fun C=>by kernel_rfl) H
theorem call_bitmap_Map_Plain {m:Option Addr} {h:Heap} {K:VK} {Kp:PK} (H:bitmap_Map_Plain (CallsHP Go.Proofs.Tryz.prog) m h K Kp):CallsHP Go.Proofs.Tryz.prog F_bitmap_Map_Plain #[.pointer m] h K Kp :=
 callsHP_ofE (Hints.mk (fun i=>bif Nat.beq i 1 then some ([14], .take 0 <| .take 1 <| .take 2 <| .take 4 <| .take 5 <| .take 6 <| .take 8 <| .take 9 <| .take 10 <| .take 3 <| .take 7 <| .take 11 <| .go 12 <| .take 13 <| .bar 14 [] <| .done) else (none)) (fun i=>none) (fun i=>none) []) (by kernel_rfl) Go.Proofs.Tryz.func130 (by kernel_rfl) (fun C=>bitmap_Map_Plain C m h K Kp) (fun C=>by kernel_rfl) H
theorem call_bitmap_cut {off:Int} {n:Int} {size:Int} {h:Heap} {K:VK} {Kp:PK} (H:bitmap_cut (CallsHP Go.Proofs.Tryz.prog) off n size h K Kp):CallsHP Go.Proofs.Tryz.prog F_bitmap_cut #[.int .i64 off, .int .i64 n, .int .i64 size] h K Kp :=
 callsHP_ofE (Hints.mk (fun i=>none) (fun i=>none) (fun i=>bif Nat.beq i 4 then some ([(8, .bool)],261888) else (none)) []) (by kernel_rfl) Go.Proofs.Tryz.func174 (by kernel_rfl) (fun C=>bitmap_cut C off n size h K Kp) (fun C=>by kernel_rfl) H
theorem call_bitmap_mask {i:Int} {x:Int} {n:Int} {h:Heap} {K:VK} {Kp:PK} (H:bitmap_mask (CallsHP Go.Proofs.Tryz.prog) i x n h K Kp):CallsHP Go.Proofs.Tryz.prog F_bitmap_mask #[.int .i64 i, .int .i64 x, .int .i64 n] h K Kp :=
 callsHP_ofE (Hints.mk (fun i=>bif Nat.beq i 2 then some ([], .take 0 <| .take 1 <| .take 2 <| .take 3 <| .take 4 <| .take 5 <| .done) else (none)) (fun i=>none) (fun i=>none) []) (by kernel_rfl) Go.Proofs.Tryz.func175 (by kernel_rfl) (fun C=>bitmap_mask C i x n h K Kp) (fun C=>by kernel_rfl) H
theorem call_bitmap_both {a:Int} {asv:Int} {b:Int} {bs:Int} {n:Int} {h:Heap} {K:VK} {Kp:PK} (H:bitmap_both (CallsHP Go.Proofs.Tryz.prog) a asv b bs n h K Kp):CallsHP Go.Proofs.Tryz.prog F_bitmap_both #[.int .i64 a, .int .i64 asv, .int .i64 b, .int .i64 bs, .int .i64 n] h K Kp :=
 callsHP_ofE (Hints.mk (fun i=>none) (fun i=>none) (fun i=>none) []) (by kernel_rfl) Go.Proofs.Tryz.func176 (by kernel_rfl) (fun C=>bitmap_both C a asv b bs n h K Kp) (fun C=>by kernel_rfl) H
theorem call_bitmap_operations  {h:Heap} {K:VK} {Kp:PK} (H:bitmap_operations (CallsHP Go.Proofs.Tryz.prog)  h K Kp):CallsHP Go.Proofs.Tryz.prog F_bitmap_operations #[] h K Kp :=
 callsHP_ofE (Hints.mk (fun i=>none) (fun i=>none) (fun i=>none) []) (by kernel_rfl) Go.Proofs.Tryz.func177 (by kernel_rfl) (fun C=>bitmap_operations C  h K Kp) (fun C=>by kernel_rfl) H
theorem call_bitmap_word {row:Option Addr} {rown:Nat} {rowc:Nat} {x:Int} {h:Heap} {K:VK} {Kp:PK} (H:bitmap_word (CallsHP Go.Proofs.Tryz.prog) row rown rowc x h K Kp):CallsHP Go.Proofs.Tryz.prog F_bitmap_word #[.slice row rown rowc, .int .i64 x] h K Kp :=
 callsHP_ofE (Hints.mk (fun i=>none) (fun i=>none) (fun i=>bif Nat.beq i 8 then some ([(36, .bool)],137304735744) else (none)) []) (by kernel_rfl) Go.Proofs.Tryz.func178 (by kernel_rfl) (fun C=>bitmap_word C row rown rowc x h K Kp) (fun C=>by kernel_rfl) H
theorem call_bitmap_Map_Size {m:Option Addr} {h:Heap} {K:VK} {Kp:PK} (H:bitmap_Map_Size (CallsHP Go.Proofs.Tryz.prog) m h K Kp):CallsHP Go.Proofs.Tryz.prog F_bitmap_Map_Size #[.pointer m] h K Kp :=
 callsHP_ofE (Hints.mk (fun i=>bif Nat.beq i 1 then some ([], .take 0 <| .take 1 <| .take 2 <| .take 4 <| .take 5 <| .take 6 <| .take 3 <| .take 8 <| .take 7 <| .take 9 <| .done) else (none)) (fun i=>none) (fun i=>none) []) (by kernel_rfl) Go.Proofs.Tryz.func200 (by kernel_rfl) (fun C=>bitmap_Map_Size C m h K Kp) (fun C=>by kernel_rfl) H
theorem call_bitmap_operations_c1 {d:Int} {s:Int} {h:Heap} {K:VK} {Kp:PK} (H:bitmap_operations_c1 (CallsHP Go.Proofs.Tryz.prog) d s h K Kp):CallsHP Go.Proofs.Tryz.prog F_bitmap_operations_c1 #[.int .u64 d, .int .u64 s] h K Kp :=
 callsHP_ofE (Hints.mk (fun i=>none) (fun i=>none) (fun i=>none) []) (by kernel_rfl) Go.Proofs.Tryz.func203 (by kernel_rfl) (fun C=>bitmap_operations_c1 C d s h K Kp) (fun C=>by kernel_rfl) H
theorem call_bitmap_operations_c2 {d:Int} {s:Int} {h:Heap} {K:VK} {Kp:PK} (H:bitmap_operations_c2 (CallsHP Go.Proofs.Tryz.prog) d s h K Kp):CallsHP Go.Proofs.Tryz.prog F_bitmap_operations_c2 #[.int .u64 d, .int .u64 s] h K Kp :=
 callsHP_ofE (Hints.mk (fun i=>none) (fun i=>none) (fun i=>none) []) (by kernel_rfl) Go.Proofs.Tryz.func204 (by kernel_rfl) (fun C=>bitmap_operations_c2 C d s h K Kp) (fun C=>by kernel_rfl) H
theorem call_bitmap_operations_c3 {d:Int} {s:Int} {h:Heap} {K:VK} {Kp:PK} (H:bitmap_operations_c3 (CallsHP Go.Proofs.Tryz.prog) d s h K Kp):CallsHP Go.Proofs.Tryz.prog F_bitmap_operations_c3 #[.int .u64 d, .int .u64 s] h K Kp :=
 callsHP_ofE (Hints.mk (fun i=>none) (fun i=>none) (fun i=>none) []) (by kernel_rfl) Go.Proofs.Tryz.func205 (by kernel_rfl) (fun C=>bitmap_operations_c3 C d s h K Kp) (fun C=>by kernel_rfl) H
theorem call_bitmap_operations_c4 {d:Int} {s:Int} {h:Heap} {K:VK} {Kp:PK} (H:bitmap_operations_c4 (CallsHP Go.Proofs.Tryz.prog) d s h K Kp):CallsHP Go.Proofs.Tryz.prog F_bitmap_operations_c4 #[.int .u64 d, .int .u64 s] h K Kp :=
 callsHP_ofE (Hints.mk (fun i=>none) (fun i=>none) (fun i=>none) []) (by kernel_rfl) Go.Proofs.Tryz.func206 (by kernel_rfl) (fun C=>bitmap_operations_c4 C d s h K Kp) (fun C=>by kernel_rfl) H
theorem call_bitmap_operations_c5 {d:Int} {s:Int} {h:Heap} {K:VK} {Kp:PK} (H:bitmap_operations_c5 (CallsHP Go.Proofs.Tryz.prog) d s h K Kp):CallsHP Go.Proofs.Tryz.prog F_bitmap_operations_c5 #[.int .u64 d, .int .u64 s] h K Kp :=
 callsHP_ofE (Hints.mk (fun i=>none) (fun i=>none) (fun i=>none) []) (by kernel_rfl) Go.Proofs.Tryz.func207 (by kernel_rfl) (fun C=>bitmap_operations_c5 C d s h K Kp) (fun C=>by kernel_rfl) H
theorem call_bitmap_Map_Get {m:Option Addr} {x:Int} {y:Int} {h:Heap} {K:VK} {Kp:PK} (H:bitmap_Map_Get (CallsHP Go.Proofs.Tryz.prog) m x y h K Kp):CallsHP Go.Proofs.Tryz.prog F_bitmap_Map_Get #[.pointer m, .int .i64 x, .int .i64 y] h K Kp :=
 callsHP_ofE (Hints.mk (fun i=>bif Nat.beq i 3 then some ([], .take 0 <| .take 1 <| .take 2 <| .take 4 <| .take 5 <| .take 6 <| .take 7 <| .take 10 <| .take 11 <| .take 15 <| .take 16 <| .take 17 <| .take 3 <| .take 8 <| .take 9 <| .take 12 <| .take 13 <| .take 14 <| .take 18 <| .take 19 <| .take 20 <| .take 21 <| .done) else (none)) (fun i=>none) (fun i=>none) []) (by kernel_rfl) Go.Proofs.Tryz.func217 (by kernel_rfl) (fun C=>bitmap_Map_Get C m x y h K Kp) (fun C=>by kernel_rfl) H
theorem call_bitmap_Map_Set {m:Option Addr} {x:Int} {y:Int} {bit:Int} {h:Heap} {K:VK} {Kp:PK} (H:bitmap_Map_Set (CallsHP Go.Proofs.Tryz.prog) m x y bit h K Kp):CallsHP Go.Proofs.Tryz.prog F_bitmap_Map_Set #[.pointer m, .int .i64 x, .int .i64 y, .int .i64 bit] h K Kp :=
 callsHP_ofE (Hints.mk (fun i=>none) (fun i=>none) (fun i=>none) []) (by kernel_rfl) Go.Proofs.Tryz.func219 (by kernel_rfl) (fun C=>bitmap_Map_Set C m x y bit h K Kp) (fun C=>by kernel_rfl) H
theorem call_bitmap_Map_inside {m:Option Addr} {x:Int} {y:Int} {h:Heap} {K:VK} {Kp:PK} (H:bitmap_Map_inside (CallsHP Go.Proofs.Tryz.prog) m x y h K Kp):CallsHP Go.Proofs.Tryz.prog F_bitmap_Map_inside #[.pointer m, .int .i64 x, .int .i64 y] h K Kp :=
 callsHP_ofE (Hints.mk (fun i=>none) (fun i=>none) (fun i=>none) []) (by kernel_rfl) Go.Proofs.Tryz.func221 (by kernel_rfl) (fun C=>bitmap_Map_inside C m x y h K Kp) (fun C=>by kernel_rfl) H
theorem call_bitmap_Map_put {m:Option Addr} {x:Int} {y:Int} {bit:Int} {h:Heap} {K:VK} {Kp:PK} (H:bitmap_Map_put (CallsHP Go.Proofs.Tryz.prog) m x y bit h K Kp):CallsHP Go.Proofs.Tryz.prog F_bitmap_Map_put #[.pointer m, .int .i64 x, .int .i64 y, .int .i64 bit] h K Kp :=
 callsHP_ofE (Hints.mk (fun i=>bif Nat.beq i 0 then some ([], .take 0 <| .take 1 <| .take 2 <| .take 4 <| .take 5 <| .take 6 <| .take 7 <| .take 10 <| .take 11 <| .take 3 <| .take 8 <| .take 9 <| .take 12 <| .take 13 <| .take 14 <| .done) else (bif Nat.beq i 1 then some ([17], .take 0 <| .take 1 <| .take 2 <| .take 4 <| .take 5 <| .take 6 <| .take 7 <| .take 9 <| .take 10 <| .take 11 <| .take 12 <| .take 13 <| .take 14 <| .take 3 <| .take 8 <| .take 15 <| .take 16 <| .bar 17 [] <| .done) else (none))) (fun i=>none) (fun i=>none) []) (by kernel_rfl) Go.Proofs.Tryz.func222 (by kernel_rfl) (fun C=>bitmap_Map_put C m x y bit h K Kp) (fun C=>by kernel_rfl) H
end Go.Den.YtfaclehehhgpcaaGreat
namespace Go.Den.YtfaclehehhgpcaaGreat
open Go Go.Den
def burinref0_EqBitmaps (C:CallP) (a:Option Addr) (an:Nat) (ac:Nat) (b:Option Addr) (bn:Nat) (bc:Nat) (h:Heap) (K:VK) (Kp:PK):Prop :=
bcase ((an:Int) != (bn:Int)) (
K (.bool false) h) <|
∃ J_1:Nat->List Value->Heap->Prop,(∃ n_3,J_1 n_3 [.int .i64 0] h)/\∀ (n_3:Nat) (h_4:Heap) (u_5:Nat->Value) (i_6:Int),J_1 n_3 [.int .i64 i_6] h_4->(
bcase (decide (i_6<(an:Int))) (
needs (0<=i_6/\i_6<(an:Int)) <|
ptr a fun a_7 =>
needs (0<=i_6/\i_6<(bn:Int)) <|
ptr b fun a_8 =>
ldI h_4 ((a_7.add (i_6.toNat*3)).add 0) .i64 fun x_9 =>
ldI h_4 ((a_7.add (i_6.toNat*3)).add 1) .i64 fun x_10 =>
ldS h_4 ((a_7.add (i_6.toNat*3)).add 2) fun x_11 x_11n x_11c =>
ldI h_4 ((a_8.add (i_6.toNat*3)).add 0) .i64 fun x_12 =>
ldI h_4 ((a_8.add (i_6.toNat*3)).add 1) .i64 fun x_13 =>
ldS h_4 ((a_8.add (i_6.toNat*3)).add 2) fun x_14 x_14n x_14c =>
C F_burinref0_EqBitmap #[.agg #[.int .i64 x_9, .int .i64 x_10, .slice x_11 x_11n x_11c], .agg #[.int .i64 x_12, .int .i64 x_13, .slice x_14 x_14n x_14c]] h_4 (fun v_15 h_16 =>
∃ (r_17:Bool),v_15 = .bool r_17/\(
bcase (!r_17) (
K (.bool false) h_16) <|
bindI (IntKind.i64.wrap (i_6+(1:Int))) fun z_18 =>
∃ m_2,m_2<n_3/\J_1 m_2 [.int .i64 z_18] h_16)) (Kp)) <|
K (.bool true) h_4)
def burinref0_EqDict (C:CallP) (a_1:Int) (a_2:Option Addr) (a_2n:Nat) (a_2c:Nat) (a_3:Option Addr) (a_3n:Nat) (a_3c:Nat) (b_4:Int) (b_5:Option Addr) (b_5n:Nat) (b_5c:Nat) (b_6:Option Addr) (b_6n:Nat) (b_6c:Nat) (h:Heap) (K:VK) (Kp:PK):Prop :=
newC h [.int .i64 a_1, .slice a_2 a_2n a_2c, .slice a_3 a_3n a_3c] T_api_Dict fun r_7 h_8 =>
newC h_8 [.int .i64 b_4, .slice b_5 b_5n b_5c, .slice b_6 b_6n b_6c] T_api_Dict fun r_9 h_10 =>
ldI h_10 ((⟨r_7,0,none⟩:Addr).add 0) .i64 fun x_11 =>
ldI h_10 ((⟨r_9,0,none⟩:Addr).add 0) .i64 fun x_12 =>
bcase (x_11 == x_12) (
ldS h_10 ((⟨r_7,0,none⟩:Addr).add 1) fun x_13 x_13n x_13c =>
ldS h_10 ((⟨r_9,0,none⟩:Addr).add 1) fun x_14 x_14n x_14c =>
C F_burinref0_EqBitmaps #[.slice x_13 x_13n x_13c, .slice x_14 x_14n x_14c] h_10 (fun v_15 h_16 =>
∃ (r_17:Bool),v_15 = .bool r_17/\(
bcase r_17 (
ldS h_16 ((⟨r_7,0,none⟩:Addr).add 2) fun x_18 x_18n x_18c =>
ldS h_16 ((⟨r_9,0,none⟩:Addr).add 2) fun x_19 x_19n x_19c =>
C F_burinref0_EqFlags #[.slice x_18 x_18n x_18c, .slice x_19 x_19n x_19c] h_16 (fun v_20 h_21 =>
∃ (r_22:Bool),v_20 = .bool r_22/\(
K (.bool r_22) h_21)) (Kp)) <|
K (.bool false) h_16)) (Kp)) <|
K (.bool false) h_10
def burinref0_White (C:CallP) (w:Int) (h':Int) (h:Heap) (K:VK) (Kp:PK):Prop :=
newC h [.int .i64 0, .int .i64 0, .slice none 0 0] T_api_Bitmap fun r_1 h_2 =>
C F_burinref0_words #[.int .i64 w] h_2 (fun v_3 h_4 =>
∃ (r_5:Int),v_3 = .int .i64 r_5/\(
bindI (IntKind.i64.wrap (h'*r_5)) fun z_6 =>
needs (0<=z_6/\z_6<=z_6/\z_6<=9223372036854775807/\((8:Nat):Int)*z_6<=281474976710656) <|
newC h_4 (repZ [.int .u64 0] z_6.toNat) T_uint64 fun r_7 h_8 =>
stV h_8 ((⟨r_1,0,none⟩:Addr).add 0) (.int .i64 w) fun h_9 =>
stV h_9 ((⟨r_1,0,none⟩:Addr).add 1) (.int .i64 h') fun h_10 =>
stV h_10 ((⟨r_1,0,none⟩:Addr).add 2) (.slice (some ⟨r_7,0,none⟩) z_6.toNat z_6.toNat) fun h_11 =>
ldI h_11 ((⟨r_1,0,none⟩:Addr).add 0) .i64 fun r_12 =>
ldI h_11 ((⟨r_1,0,none⟩:Addr).add 1) .i64 fun r_13 =>
ldS h_11 ((⟨r_1,0,none⟩:Addr).add 2) fun r_14 r_14n r_14c =>
K (.agg #[.int .i64 r_12, .int .i64 r_13, .slice r_14 r_14n r_14c]) h_11)) (Kp)
def burinref0_EqBitmap (C:CallP) (a_1:Int) (a_2:Int) (a_3:Option Addr) (a_3n:Nat) (a_3c:Nat) (b_4:Int) (b_5:Int) (b_6:Option Addr) (b_6n:Nat) (b_6c:Nat) (h:Heap) (K:VK) (Kp:PK):Prop :=
newC h [.int .i64 a_1, .int .i64 a_2, .slice a_3 a_3n a_3c] T_api_Bitmap fun r_7 h_8 =>
newC h_8 [.int .i64 b_4, .int .i64 b_5, .slice b_6 b_6n b_6c] T_api_Bitmap fun r_9 h_10 =>
ldI h_10 ((⟨r_7,0,none⟩:Addr).add 0) .i64 fun x_11 =>
ldI h_10 ((⟨r_9,0,none⟩:Addr).add 0) .i64 fun x_12 =>
bcase (x_11 == x_12) (
ldI h_10 ((⟨r_7,0,none⟩:Addr).add 1) .i64 fun x_13 =>
ldI h_10 ((⟨r_9,0,none⟩:Addr).add 1) .i64 fun x_14 =>
bcase (x_13 == x_14) (
ldS h_10 ((⟨r_7,0,none⟩:Addr).add 2) fun x_15 x_15n x_15c =>
ldS h_10 ((⟨r_9,0,none⟩:Addr).add 2) fun x_16 x_16n x_16c =>
C F_burinref0_EqWords #[.slice x_15 x_15n x_15c, .slice x_16 x_16n x_16c] h_10 (fun v_17 h_18 =>
∃ (r_19:Bool),v_17 = .bool r_19/\(
K (.bool r_19) h_18)) (Kp)) <|
K (.bool false) h_10) <|
K (.bool false) h_10
def burinref0_words (C:CallP) (w:Int) (h:Heap) (K:VK) (Kp:PK):Prop :=
bindI (IntKind.i64.wrap (w+(63:Int))) fun z_1 =>
bindI (IntKind.i64.wrap (z_1.tdiv (64:Int))) fun z_2 =>
K (.int .i64 z_2) h
def burinref0_EqFlags (C:CallP) (a:Option Addr) (an:Nat) (ac:Nat) (b:Option Addr) (bn:Nat) (bc:Nat) (h:Heap) (K:VK) (Kp:PK):Prop :=
bcase ((an:Int) != (bn:Int)) (
K (.bool false) h) <|
∃ J_1:Nat->List Value->Heap->Prop,(∃ n_3,J_1 n_3 [.int .i64 0] h)/\∀ (n_3:Nat) (h_4:Heap) (u_5:Nat->Value) (i_6:Int),J_1 n_3 [.int .i64 i_6] h_4->(
bcase (decide (i_6<(an:Int))) (
needs (0<=i_6/\i_6<(an:Int)) <|
ptr a fun a_7 =>
needs (0<=i_6/\i_6<(bn:Int)) <|
ptr b fun a_8 =>
ldB h_4 (a_7.add (i_6.toNat*1)) fun x_9 =>
ldB h_4 (a_8.add (i_6.toNat*1)) fun x_10 =>
bcase (!(x_9 == x_10)) (
K (.bool false) h_4) <|
bindI (IntKind.i64.wrap (i_6+(1:Int))) fun z_11 =>
∃ m_2,m_2<n_3/\J_1 m_2 [.int .i64 z_11] h_4) <|
K (.bool true) h_4)
def burinref0_EqWords (C:CallP) (a:Option Addr) (an:Nat) (ac:Nat) (b:Option Addr) (bn:Nat) (bc:Nat) (h:Heap) (K:VK) (Kp:PK):Prop :=
bcase ((an:Int) != (bn:Int)) (
K (.bool false) h) <|
∃ J_1:Nat->List Value->Heap->Prop,(∃ n_3,J_1 n_3 [.int .i64 0] h)/\∀ (n_3:Nat) (h_4:Heap) (u_5:Nat->Value) (i_6:Int),J_1 n_3 [.int .i64 i_6] h_4->(
bcase (decide (i_6<(an:Int))) (
needs (0<=i_6/\i_6<(an:Int)) <|
ptr a fun a_7 =>
needs (0<=i_6/\i_6<(bn:Int)) <|
ptr b fun a_8 =>
ldI h_4 (a_7.add (i_6.toNat*1)) .u64 fun x_9 =>
ldI h_4 (a_8.add (i_6.toNat*1)) .u64 fun x_10 =>
bcase (x_9 != x_10) (
K (.bool false) h_4) <|
bindI (IntKind.i64.wrap (i_6+(1:Int))) fun z_11 =>
∃ m_2,m_2<n_3/\J_1 m_2 [.int .i64 z_11] h_4) <|
K (.bool true) h_4)
end Go.Den.YtfaclehehhgpcaaGreat
namespace Go.Den.YtfaclehehhgpcaaGreat
open Go Go.Den
theorem call_burinref0_EqBitmaps {a:Option Addr} {an:Nat} {ac:Nat} {b:Option Addr} {bn:Nat} {bc:Nat} {h:Heap} {K:VK} {Kp:PK} (H:burinref0_EqBitmaps (CallsHP Go.Proofs.Tryz.prog) a an ac b bn bc h K Kp):CallsHP Go.Proofs.Tryz.prog F_burinref0_EqBitmaps #[.slice a an ac, .slice b bn bc] h K Kp :=
 callsHP_ofE (Hints.mk (fun i=>bif Nat.beq i 6 then some ([8], .take 0 <| .take 1 <| .take 2 <| .take 4 <| .take 5 <| .take 6 <| .take 3 <| .take 7 <| .bar 8 [] <| .take 9 <| .done) else (none)) (fun i=>bif Nat.beq i 4 then some ([(5, .int .i64)],134215728) else (none)) (fun i=>none) []) (by kernel_rfl) Go.Proofs.Tryz.func37 (by kernel_rfl) (fun C=>burinref0_EqBitmaps C a an ac b bn bc h K Kp) (fun C=>by kernel_rfl) H
theorem call_burinref0_EqDict {a_1:Int} {a_2:Option Addr} {a_2n:Nat} {a_2c:Nat} {a_3:Option Addr} {a_3n:Nat} {a_3c:Nat} {b_4:Int} {b_5:Option Addr} {b_5n:Nat} {b_5c:Nat} {b_6:Option Addr} {b_6n:Nat} {b_6c:Nat} {h:Heap} {K:VK} {Kp:PK} (H:burinref0_EqDict (CallsHP Go.Proofs.Tryz.prog) a_1 a_2 a_2n a_2c a_3 a_3n a_3c b_4 b_5 b_5n b_5c b_6 b_6n b_6c h K Kp):CallsHP Go.Proofs.Tryz.prog F_burinref0_EqDict #[.agg #[.int .i64 a_1, .slice a_2 a_2n a_2c, .slice a_3 a_3n a_3c], .agg #[.int .i64 b_4, .slice b_5 b_5n b_5c, .slice b_6 b_6n b_6c]] h K Kp :=
 callsHP_ofE (Hints.mk (fun i=>none) (fun i=>none) (fun i=>none) []) (by kernel_rfl) Go.Proofs.Tryz.func39 (by kernel_rfl) (fun C=>burinref0_EqDict C a_1 a_2 a_2n a_2c a_3 a_3n a_3c b_4 b_5 b_5n b_5c b_6 b_6n b_6c h K Kp) (fun C=>by kernel_rfl) H
theorem call_burinref0_White {w:Int} {h':Int} {h:Heap} {K:VK} {Kp:PK} (H:burinref0_White (CallsHP Go.Proofs.Tryz.prog) w h' h K Kp):CallsHP Go.Proofs.Tryz.prog F_burinref0_White #[.int .i64 w, .int .i64 h'] h K Kp :=
 callsHP_ofE (Hints.mk (fun i=>none) (fun i=>none) (fun i=>none) []) (by kernel_rfl) Go.Proofs.Tryz.func44 (by kernel_rfl) (fun C=>burinref0_White C w h' h K Kp) (fun C=>by kernel_rfl) H
theorem call_burinref0_EqBitmap {a_1:Int} {a_2:Int} {a_3:Option Addr} {a_3n:Nat} {a_3c:Nat} {b_4:Int} {b_5:Int} {b_6:Option Addr} {b_6n:Nat} {b_6c:Nat} {h:Heap} {K:VK} {Kp:PK} (H:burinref0_EqBitmap (CallsHP Go.Proofs.Tryz.prog) a_1 a_2 a_3 a_3n a_3c b_4 b_5 b_6 b_6n b_6c h K Kp):CallsHP Go.Proofs.Tryz.prog F_burinref0_EqBitmap #[.agg #[.int .i64 a_1, .int .i64 a_2, .slice a_3 a_3n a_3c], .agg #[.int .i64 b_4, .int .i64 b_5, .slice b_6 b_6n b_6c]] h K Kp :=
 callsHP_ofE (Hints.mk (fun i=>none) (fun i=>none) (fun i=>none) []) (by kernel_rfl) Go.Proofs.Tryz.func45 (by kernel_rfl) (fun C=>burinref0_EqBitmap C a_1 a_2 a_3 a_3n a_3c b_4 b_5 b_6 b_6n b_6c h K Kp) (fun C=>by kernel_rfl) H
theorem call_burinref0_words {w:Int} {h:Heap} {K:VK} {Kp:PK} (H:burinref0_words (CallsHP Go.Proofs.Tryz.prog) w h K Kp):CallsHP Go.Proofs.Tryz.prog F_burinref0_words #[.int .i64 w] h K Kp :=
 callsHP_ofE (Hints.mk (fun i=>none) (fun i=>none) (fun i=>none) []) (by kernel_rfl) Go.Proofs.Tryz.func53 (by kernel_rfl) (fun C=>burinref0_words C w h K Kp) (fun C=>by kernel_rfl) H
theorem call_burinref0_EqFlags {a:Option Addr} {an:Nat} {ac:Nat} {b:Option Addr} {bn:Nat} {bc:Nat} {h:Heap} {K:VK} {Kp:PK} (H:burinref0_EqFlags (CallsHP Go.Proofs.Tryz.prog) a an ac b bn bc h K Kp):CallsHP Go.Proofs.Tryz.prog F_burinref0_EqFlags #[.slice a an ac, .slice b bn bc] h K Kp :=
 callsHP_ofE (Hints.mk (fun i=>bif Nat.beq i 6 then some ([], .take 0 <| .take 1 <| .take 2 <| .take 4 <| .take 5 <| .take 6 <| .take 3 <| .take 7 <| .take 8 <| .done) else (none)) (fun i=>bif Nat.beq i 4 then some ([(5, .int .i64)],67106864) else (none)) (fun i=>none) []) (by kernel_rfl) Go.Proofs.Tryz.func102 (by kernel_rfl) (fun C=>burinref0_EqFlags C a an ac b bn bc h K Kp) (fun C=>by kernel_rfl) H
theorem call_burinref0_EqWords {a:Option Addr} {an:Nat} {ac:Nat} {b:Option Addr} {bn:Nat} {bc:Nat} {h:Heap} {K:VK} {Kp:PK} (H:burinref0_EqWords (CallsHP Go.Proofs.Tryz.prog) a an ac b bn bc h K Kp):CallsHP Go.Proofs.Tryz.prog F_burinref0_EqWords #[.slice a an ac, .slice b bn bc] h K Kp :=
 callsHP_ofE (Hints.mk (fun i=>bif Nat.beq i 6 then some ([], .take 0 <| .take 1 <| .take 2 <| .take 4 <| .take 5 <| .take 6 <| .take 3 <| .take 7 <| .take 8 <| .done) else (none)) (fun i=>bif Nat.beq i 4 then some ([(5, .int .i64)],67106864) else (none)) (fun i=>none) []) (by kernel_rfl) Go.Proofs.Tryz.func119 (by kernel_rfl) (fun C=>burinref0_EqWords C a an ac b bn bc h K Kp) (fun C=>by kernel_rfl) H
end Go.Den.YtfaclehehhgpcaaGreat
namespace Go.Den.YtfaclehehhgpcaaGreat
open Go Go.Den
def slices_Concat_api_Bitmap_api_Bitmap (C:CallP) (slices:Option Addr) (slicesn:Nat) (slicesc:Nat) (h:Heap) (K:VK) (Kp:PK):Prop :=
∃ J_1:Nat->List Value->Heap->Prop,(∃ n_3,J_1 n_3 [.int .i64 0, .int .i64 0] h)/\∀ (n_3:Nat) (h_4:Heap) (u_5:Nat->Value) (size_6:Int) (x_7:Int),J_1 n_3 [.int .i64 size_6, .int .i64 x_7] h_4->(
bcase (decide (x_7<(slicesn:Int))) (
needs (0<=x_7/\x_7<(slicesn:Int)) <|
ptr slices fun a_8 =>
ldS h_4 (a_8.add (x_7.toNat*1)) fun x_9 x_9n x_9c =>
bindI (IntKind.i64.wrap (size_6+(x_9n:Int))) fun z_10 =>
bcase (decide (z_10<(0:Int))) (
Kp [{ v := .iface T_string (.string (ByteArray.mk #[108,101,110,32,111,117,116,32,111,102,32,114,97,110,103,101])),recovered:=false }] h_4) <|
bindI (IntKind.i64.wrap (x_7+(1:Int))) fun z_11 =>
∃ m_2,m_2<n_3/\J_1 m_2 [.int .i64 z_10, .int .i64 z_11] h_4) <|
C F_slices_Grow_api_Bitmap_api_Bitmap #[.slice none 0 0, .int .i64 size_6] h_4 (fun v_12 h_13 =>
∃ (r_14:Option Addr) (r_14n:Nat) (r_14c:Nat),v_12 = .slice r_14 r_14n r_14c/\(
∃ J_15:Nat->List Value->Heap->Prop,(∃ n_17,J_15 n_17 [.slice r_14 r_14n r_14c, .int .i64 0] h_13)/\∀ (n_17:Nat) (h_18:Heap) (u_19:Nat->Value) (newslice_20:Option Addr) (newslice_20n:Nat) (newslice_20c:Nat) (x_21:Int),J_15 n_17 [.slice newslice_20 newslice_20n newslice_20c, .int .i64 x_21] h_18->(
bcase (decide (x_21<(slicesn:Int))) (
needs (0<=x_21/\x_21<(slicesn:Int)) <|
ptr slices fun a_22 =>
ldS h_18 (a_22.add (x_21.toNat*1)) fun x_23 x_23n x_23c =>
appC h_18 T_api_Bitmap 3 40 [.int .i64 0, .int .i64 0, .slice none 0 0] newslice_20 (newslice_20n) (newslice_20c) x_23 (x_23n) fun q_24 q_24n q_24c h_25 =>
bindI (IntKind.i64.wrap (x_21+(1:Int))) fun z_26 =>
∃ m_16,m_16<n_17/\J_15 m_16 [.slice q_24 q_24n q_24c, .int .i64 z_26] h_25) <|
K (.slice newslice_20 newslice_20n newslice_20c) h_18))) (Kp))
def slices_Clone_uint64_uint64 (C:CallP) (s:Option Addr) (sn:Nat) (sc:Nat) (h:Heap) (K:VK) (Kp:PK):Prop :=
bcase (Option.isNone s) (
K (.slice none 0 0) h) <|
newC h [] T_uint64 fun r_1 h_2 =>
appC h_2 T_uint64 1 8 [.int .u64 0] (some ⟨r_1,0,none⟩) (0) (0) s (sn) fun q_3 q_3n q_3c h_4 =>
K (.slice q_3 q_3n q_3c) h_4
def slices_Grow_api_Bitmap_api_Bitmap (C:CallP) (s:Option Addr) (sn:Nat) (sc:Nat) (n:Int) (h:Heap) (K:VK) (Kp:PK):Prop :=
bcase (decide (n<(0:Int))) (
Kp [{ v := .iface T_string (.string (ByteArray.mk #[99,97,110,110,111,116,32,98,101,32,110,101,103,97,116,105,118,101])),recovered:=false }] h) <|
bindI (IntKind.i64.wrap ((sc:Int)-(sn:Int))) fun z_1 =>
bindI (IntKind.i64.wrap (n-z_1)) fun z_2 =>
bcase (decide (z_2 > (0:Int))) (
needs (0<=(sc:Int)/\(sc:Int)<=((sc:Nat):Int)) <|
appZ h T_api_Bitmap 3 40 [.int .i64 0, .int .i64 0, .slice none 0 0] (subA s (sc) (0) 3) (((sc:Int).toNat-0)) ((sc-0)) (z_2) fun q_3 q_3n q_3c h_4 =>
needs (0<=(sn:Int)/\(sn:Int)<=((q_3c:Nat):Int)) <|
K (.slice (subA q_3 (q_3c) (0) 3) ((sn:Int).toNat-0) (q_3c-0)) h_4) <|
K (.slice s sn sc) h
def slices_ContainsFunc_api_Bitmap_api_Bitmap (C:CallP) (s:Option Addr) (sn:Nat) (sc:Nat) (f:Value) (h:Heap) (K:VK) (Kp:PK):Prop :=
C F_slices_IndexFunc_api_Bitmap_api_Bitmap #[.slice s sn sc,f] h (fun v_1 h_2 =>
∃ (r_3:Int),v_1 = .int .i64 r_3/\(
K (.bool (decide (r_3≥(0:Int)))) h_2)) (Kp)
def slices_IndexFunc_api_Bitmap_api_Bitmap (C:CallP) (s:Option Addr) (sn:Nat) (sc:Nat) (f:Value) (h:Heap) (K:VK) (Kp:PK):Prop :=
∃ J_1:Nat->List Value->Heap->Prop,(∃ n_3,J_1 n_3 [.int .i64 0] h)/\∀ (n_3:Nat) (h_4:Heap) (u_5:Nat->Value) (x_6:Int),J_1 n_3 [.int .i64 x_6] h_4->(
bcase (decide (x_6<(sn:Int))) (
needs (0<=x_6/\x_6<(sn:Int)) <|
ptr s fun a_7 =>
ldI h_4 ((a_7.add (x_6.toNat*3)).add 0) .i64 fun x_8 =>
ldI h_4 ((a_7.add (x_6.toNat*3)).add 1) .i64 fun x_9 =>
ldS h_4 ((a_7.add (x_6.toNat*3)).add 2) fun x_10 x_10n x_10c =>
callD C (Kp) f [.agg #[.int .i64 x_8, .int .i64 x_9, .slice x_10 x_10n x_10c]] h_4 fun v_11 h_12 =>
∃ (r_13:Bool),v_11 = .bool r_13/\(
bcase r_13 (
K (.int .i64 x_6) h_12) <|
bindI (IntKind.i64.wrap (x_6+(1:Int))) fun z_14 =>
∃ m_2,m_2<n_3/\J_1 m_2 [.int .i64 z_14] h_12)) <|
K (.int .i64 (-1)) h_4)
end Go.Den.YtfaclehehhgpcaaGreat
namespace Go.Den.YtfaclehehhgpcaaGreat
open Go Go.Den
theorem call_slices_Concat_api_Bitmap_api_Bitmap {slices:Option Addr} {slicesn:Nat} {slicesc:Nat} {h:Heap} {K:VK} {Kp:PK} (H:slices_Concat_api_Bitmap_api_Bitmap (CallsHP Go.Proofs.Tryz.prog) slices slicesn slicesc h K Kp):CallsHP Go.Proofs.Tryz.prog F_slices_Concat_api_Bitmap_api_Bitmap #[.slice slices slicesn slicesc] h K Kp :=
 callsHP_ofE (Hints.mk (fun i=>none) (fun i=>bif Nat.beq i 3 then some ([(3, .int .i64),(11, .int .i64)],8386600) else (bif Nat.beq i 11 then some ([(6, .slc),(27, .int .i64)],34225520960) else (none))) (fun i=>none) []) (by kernel_rfl) Go.Proofs.Tryz.func100 (by kernel_rfl) (fun C=>slices_Concat_api_Bitmap_api_Bitmap C slices slicesn slicesc h K Kp) (fun C=>by kernel_rfl) H
theorem call_slices_Clone_uint64_uint64 {s:Option Addr} {sn:Nat} {sc:Nat} {h:Heap} {K:VK} {Kp:PK} (H:slices_Clone_uint64_uint64 (CallsHP Go.Proofs.Tryz.prog) s sn sc h K Kp):CallsHP Go.Proofs.Tryz.prog F_slices_Clone_uint64_uint64 #[.slice s sn sc] h K Kp :=
 callsHP_ofE (Hints.mk (fun i=>none) (fun i=>none) (fun i=>none) []) (by kernel_rfl) Go.Proofs.Tryz.func101 (by kernel_rfl) (fun C=>slices_Clone_uint64_uint64 C s sn sc h K Kp) (fun C=>by kernel_rfl) H
theorem call_slices_Grow_api_Bitmap_api_Bitmap {s:Option Addr} {sn:Nat} {sc:Nat} {n:Int} {h:Heap} {K:VK} {Kp:PK} (H:slices_Grow_api_Bitmap_api_Bitmap (CallsHP Go.Proofs.Tryz.prog) s sn sc n h K Kp):CallsHP Go.Proofs.Tryz.prog F_slices_Grow_api_Bitmap_api_Bitmap #[.slice s sn sc, .int .i64 n] h K Kp :=
 callsHP_ofE (Hints.mk (fun i=>none) (fun i=>none) (fun i=>none) []) (by kernel_rfl) Go.Proofs.Tryz.func156 (by kernel_rfl) (fun C=>slices_Grow_api_Bitmap_api_Bitmap C s sn sc n h K Kp) (fun C=>by kernel_rfl) H
theorem call_slices_ContainsFunc_api_Bitmap_api_Bitmap {s:Option Addr} {sn:Nat} {sc:Nat} {f:Value} {h:Heap} {K:VK} {Kp:PK} (H:slices_ContainsFunc_api_Bitmap_api_Bitmap (CallsHP Go.Proofs.Tryz.prog) s sn sc f h K Kp):CallsHP Go.Proofs.Tryz.prog F_slices_ContainsFunc_api_Bitmap_api_Bitmap #[.slice s sn sc,f] h K Kp :=
 callsHP_ofE (Hints.mk (fun i=>none) (fun i=>none) (fun i=>none) []) (by kernel_rfl) Go.Proofs.Tryz.func157 (by kernel_rfl) (fun C=>slices_ContainsFunc_api_Bitmap_api_Bitmap C s sn sc f h K Kp) (fun C=>by kernel_rfl) H
theorem call_slices_IndexFunc_api_Bitmap_api_Bitmap {s:Option Addr} {sn:Nat} {sc:Nat} {f:Value} {h:Heap} {K:VK} {Kp:PK} (H:slices_IndexFunc_api_Bitmap_api_Bitmap (CallsHP Go.Proofs.Tryz.prog) s sn sc f h K Kp):CallsHP Go.Proofs.Tryz.prog F_slices_IndexFunc_api_Bitmap_api_Bitmap #[.slice s sn sc,f] h K Kp :=
 callsHP_ofE (Hints.mk (fun i=>none) (fun i=>bif Nat.beq i 2 then some ([(8, .int .i64)],524080) else (none)) (fun i=>none) []) (by kernel_rfl) Go.Proofs.Tryz.func194 (by kernel_rfl) (fun C=>slices_IndexFunc_api_Bitmap_api_Bitmap C s sn sc f h K Kp) (fun C=>by kernel_rfl) H
end Go.Den.YtfaclehehhgpcaaGreat
namespace Go.Bm
open Go Go.Den Go.Den.YtfaclehehhgpcaaGreat
abbrev CP:CallP:=CallsHP Go.Proofs.Tryz.prog
abbrev at0 (p:Nat):Option Addr:=some ⟨p,0,none⟩
theorem bcase_dec {p:Prop} [Decidable p] {X Y:Prop} (ht:p->X) (hf:¬ p->Y):bcase (decide p) X Y :=
 bcase_of (fun h=>ht (of_decide_eq_true h)) fun h=>hf (of_decide_eq_false h)
theorem bcase_eq {a b:Int} {X Y:Prop} (ht:a=b->X) (hf:a≠b->Y):bcase (a == b) X Y :=
 bcase_of (fun h=>ht (by simpa using h)) fun h=>hf (by simpa using h)
theorem bcase_ne {a b:Int} {X Y:Prop} (ht:a≠b->X) (hf:a=b->Y):bcase (a != b) X Y :=
 bcase_of (fun h=>ht (by simpa using h)) fun h=>hf (by simpa using h)
theorem bcase_not {b:Bool} {X Y:Prop} (ht:b=false->X) (hf:b=true->Y):bcase (!b) X Y :=
 bcase_of (fun h=>ht (by simpa using h)) fun h=>hf (by simpa using h)
theorem rdO_cell {h:Heap} {a:Option Addr} {n:Nat} {cs:List Value} (hr:rdO h a n cs) {i:Nat} {v:Value} (hi:cs[i]? = some v):∃ ad,a=some ad/\hcell h (ad.add i)=some v:=by
 cases a with
 | none=>unfold rdO at hr; rw [hr] at hi; simp at hi
 | some ad=>exact ⟨ad,rfl,hr.2 i v hi⟩
def SizeP (w h:Int):Prop:=1<=w/\1<=h/\w<=1048576/\h<=1048576/\w*h<=1048576
theorem prod_le {w h:Int} (h1:1<=w) (h2:1<=h) (h3:w<=1048576) (h4:h<=1048576):1<=w*h/\w*h<=1099511627776:=by
 constructor
 ·have:=Int.mul_le_mul h1 h2 (by omega) (by omega)
  omega
 ·have:=Int.mul_le_mul h3 h4 (by omega) (by omega)
  omega
theorem sized_ok {h:Heap} {w h':Int} {K:VK} {Kp:PK} (hk:∀ b:Bool,(b=true↔SizeP w h')->K (.bool b) h):CP F_bitmap_sized #[.int .i64 w, .int .i64 h'] h K Kp:=by
 refine call_bitmap_sized ?_
 unfold bitmap_sized
 refine bcase_dec (fun h1=>?_) fun h1=>hk false (by simp [SizeP]; omega)
 refine bcase_dec (fun h2=>?_) fun h2=>hk false (by simp [SizeP]; omega)
 refine bcase_dec (fun h3=>?_) fun h3=>hk false (by simp [SizeP]; omega)
 refine bcase_dec (fun h4=>?_) fun h4=>hk false (by simp [SizeP]; omega)
 obtain ⟨g1,g2⟩:=prod_le h1 h2 h3 h4
 refine bindI_of ((w*h')) (by exact i64_in _ (by omega) (by omega)) ?_
 exact hk _ (by simp [SizeP]; omega)
theorem words_ok {h:Heap} {w:Nat} (hw:w<=1048576) {K:VK} {Kp:PK} (hk:K (.int .i64 (wds w:Nat)) h):CP F_burinref0_words #[.int .i64 (w:Nat)] h K Kp:=by
 refine call_burinref0_words ?_
 unfold burinref0_words
 refine bindI_of (((w+63:Nat):Int)) (by exact i64_at _ _ (by omega) (by omega) (by omega)) ?_
 refine bindI_of (((wds w:Nat):Int)) (by exact i64_at _ _ (tdiv_nat (w+63) 64) (by unfold wds; omega) (by unfold wds; omega)) ?_
 exact hk
def padn (w:Nat):Nat:=(64-w % 64) % 64
theorem last_ok {h:Heap} {w:Nat} {K:VK} {Kp:PK} (hk:∀ L:Nat,L<M64->(∀ j,j<64->L.testBit j=decide (padn w<=j))->K (.int .u64 (L:Nat)) h):CP F_bitmap_last #[.int .i64 (w:Nat)] h K Kp:=by
 refine call_bitmap_last ?_
 unfold bitmap_last
 have h64:=Nat.mod_lt w (show 64 > 0 by decide)
 refine bindI_of (((w % 64:Nat):Int)) (by exact tmod_nat w 64) ?_
 refine bindI_of (((64-w % 64:Nat):Int)) (by exact i64_at _ _ (by omega) (by omega) (by omega)) ?_
 refine bindI_of (((padn w:Nat):Int)) (by exact tmod_nat (64-w % 64) 64) ?_
 have hp:padn w<64:=Nat.mod_lt _ (by decide)
 refine needs_of (by omega) ?_
 have hlt:18446744073709551615*2 ^ padn w % M64<M64:=Nat.mod_lt _ (by decide)
 refine bindI_of (((18446744073709551615*2 ^ padn w % M64:Nat):Int)) (by exact shl_of (x:=18446744073709551615) (i:=padn w) (by show padn w<=64; omega) (by simp [IntKind.wrap,IntKind.bits,IntKind.signed])) ?_
 refine hk _ hlt fun j hj=>?_
 rw [M64_pow,Nat.testBit_mod_two_pow,decide_eq_true hj,Bool.true_and,show 18446744073709551615=2 ^ 64-1 from rfl,Nat.testBit_mul_two_pow,Nat.testBit_two_pow_sub_one]
 by_cases h1:padn w<=j
 ·simp [h1]; omega
 ·simp [h1]
def MayP (w h:Int) (ws:List Nat):Prop:=SizeP w h/\ws.length=h.toNat*wds w.toNat/\∀ y,y<h.toNat->ws.getD (y*wds w.toNat+(wds w.toNat-1)) 0 % 2 ^ padn w.toNat=0
theorem mod_zero_bits {v s:Nat}:v % 2 ^ s=0↔∀ j,j<s->v.testBit j=false:=by
 constructor
 ·intro h j hj
  have:=Nat.testBit_mod_two_pow v s j
  rw [h,decide_eq_true hj,Bool.true_and,Nat.zero_testBit] at this
  exact this.symm
 ·intro h
  apply Nat.eq_of_testBit_eq
  intro j
  rw [Nat.testBit_mod_two_pow,Nat.zero_testBit]
  by_cases hj:j<s
  ·rw [h j hj]; simp
  ·simp [hj]
theorem not_last {v L w:Nat} (hv:v<M64) (hL:L<M64) (h:∀ j,j<64->L.testBit j=decide (padn w<=j)):v &&& wnot L=0↔v % 2 ^ padn w=0:=by
 have hp:padn w<64:=Nat.mod_lt _ (by decide)
 rw [mod_zero_bits]
 constructor
 ·intro h1 j hj
  have:(v &&& wnot L).testBit j=false:=by rw [h1]; exact Nat.zero_testBit j
  rw [Nat.testBit_and,wnot_bit hL (by omega),h j (by omega)] at this
  simpa [show ¬ padn w<=j by omega] using this
 ·intro h1
  apply Nat.eq_of_testBit_eq
  intro j
  rw [Nat.zero_testBit,Nat.testBit_and]
  rcases Nat.lt_or_ge j 64 with hj | hj
  ·rw [wnot_bit hL hj,h j hj]
   by_cases h2:padn w<=j
   ·simp [h2]
   ·rw [h1 j (by omega)]; simp
  ·rw [bits_lt hv hj]; simp
theorem size_nat {w h:Int} (hs:SizeP w h):∃ W H:Nat,w=(W:Nat)/\h=(H:Nat)/\1<=W/\W<=1048576/\1<=H/\H<=1048576/\W*H<=1048576:=by
 obtain ⟨h1,h2,h3,h4,h5⟩:=hs
 refine ⟨w.toNat,h.toNat,by omega,by omega,by omega,by omega,by omega,by omega,?_⟩
 have e1:((w.toNat:Nat):Int)=w:=by omega
 have e2:((h.toNat:Nat):Int)=h:=by omega
 have:((w.toNat*h.toNat:Nat):Int)<=1048576:=by rw [Int.natCast_mul,e1,e2]; exact h5
 omega
theorem wds_pos {w:Nat} (h:1<=w):1<=wds w:=by unfold wds; omega
theorem wds_le {w:Nat} (h:1<=w):wds w<=w:=by unfold wds; omega
theorem hw_le {W H:Nat} (h1:1<=W) (h:W*H<=1048576):H*wds W<=1048576 :=
 Nat.le_trans (Nat.mul_le_mul_left H (wds_le h1)) (by rw [Nat.mul_comm]; exact h)
theorem check_ok {hB:Heap} {w h':Int} {q:Option Addr} {c:Nat} {ws:List Nat} (hr:rdO hB q (ws.length*1) (u64s ws)) (hw:W64 ws) (hl:ws.length<140737488351300) {K:VK} {Kp:PK}
  (hk:∀ (b:Bool) h,(b=true↔MayP w h' ws)->hext hB h->K (.bool b) h):CP F_bitmap_Check #[.agg #[.int .i64 w, .int .i64 h', .slice q ws.length c]] hB K Kp:=by
 refine call_bitmap_Check ?_
 unfold bitmap_Check
 have H:=Hp.nil hB []
 refine newC_hp H fun r h H=>?_
 try simp only [ptr_some_eq,add_mk,Nat.zero_add,Nat.add_zero]
 refine ldI_of (H.cell 0 rfl rfl) ?_
 refine ldI_of (H.cell 0 rfl rfl) ?_
 refine sized_ok fun b hb=>?_
 refine ⟨_,rfl,?_⟩
 refine bcase_not (fun h1=>?_) fun h1=>?_
 ·refine hk false _ ⟨(fun h=>Bool.noConfusion h),fun hm=>?_⟩ H.hext
  have:=hb.2 hm.1
  rw [h1] at this; cases this
 obtain ⟨W,X,rfl,rfl,hW1,hW2,hX1,hX2,hWX⟩:=size_nat (hb.1 h1)
 have hwd:=wds_pos hW1
 have hwl:=wds_le hW1
 have hhw:=hw_le hW1 hWX
 refine ldI_of (H.cell 0 rfl rfl) ?_
 refine bindI_of (((W+63:Nat):Int)) (by exact i64_at _ _ (by omega) (by omega) (by omega)) ?_
 refine bindI_of (((wds W:Nat):Int)) (by exact i64_at _ _ (tdiv_nat (W+63) 64) (by unfold wds; omega) (by unfold wds; omega)) ?_
 refine ldS_of (H.cell 0 rfl rfl) ?_
 refine ldI_of (H.cell 0 rfl rfl) ?_
 refine bindI_of (((X*wds W:Nat):Int)) (by exact i64_at _ _ (by rw [Int.natCast_mul]) (by omega) (by omega)) ?_
 refine bcase_ne (fun h2=>?_) fun h2=>?_
 ·exact hk false _ ⟨(fun h=>Bool.noConfusion h),fun hm=>absurd (by exact_mod_cast hm.2.1) h2⟩ H.hext
 have h2:ws.length=X*wds W:=by exact_mod_cast h2
 refine ldI_of (H.cell 0 rfl rfl) ?_
 refine ⟨fun n vs h=>∃ y:Nat,y+n=X/\vs=[.int .i64 (y:Int)]/\Hp hB [] h [⟨r,true,T_api_Bitmap,[.int .i64 (W:Nat), .int .i64 (X:Nat), .slice q ws.length c]⟩]/\∀ y',y'<y->ws.getD (y'*wds W+(wds W-1)) 0 % 2 ^ padn W=0,⟨X,0,by omega,rfl,H,fun y' h=>by omega⟩,?_⟩
 clear H
 rintro n h u x ⟨y,hyn,hx,H,hz⟩
 injection hx with hx
 injection hx with _ hx
 subst hx
 refine bcase_dec (fun h3=>?_) fun h3=>?_
 ·have h3:y<X:=by omega
  have hil:=idx_lt (c:=wds W-1) (wd:=wds W) (y:=y) (h:=X) (by omega) h3
  refine bindI_of (((y*wds W:Nat):Int)) (by exact i64_at _ _ (by rw [Int.natCast_mul]) (by omega) (by omega)) ?_
  refine bindI_of (((y*wds W+wds W:Nat):Int)) (by exact i64_at _ _ (by omega) (by omega) (by omega)) ?_
  refine bindI_of (((y*wds W+(wds W-1):Nat):Int)) (by exact i64_at _ _ (by omega) (by omega) (by omega)) ?_
  refine ldS_of (H.cell 0 rfl rfl) ?_
  refine needs_of (by omega) ?_
  obtain ⟨a,ha,hc⟩:=rdO_cell (H.rdO hr) (u64s_get (getD_get (l:=ws) (i:=y*wds W+(wds W-1)) (by omega)))
  subst ha
  simp only [ptr_some_eq,Int.toNat_natCast,Nat.mul_one]
  refine ldI_of hc ?_
  refine ldI_of (H.cell 0 rfl rfl) ?_
  refine last_ok fun L hL hLb=>?_
  refine ⟨_,rfl,hext.refl _,?_⟩
  have hv:=hw.get (y*wds W+(wds W-1))
  have hnl:=not_last hv hL hLb
  refine bindI_of _ (andNot64 _ _ hv hL) ?_
  refine bcase_ne (fun h4=>?_) fun h4=>?_
  ·exact hk false _ ⟨(fun h=>Bool.noConfusion h),fun hm=>absurd (by exact_mod_cast hnl.2 (hm.2.2 y (by simpa using h3))) h4⟩ H.hext
  ·refine bindI_of (((y+1:Nat):Int)) (by exact i64_at _ _ (by omega) (by omega) (by omega)) ?_
   refine ⟨n-1,by omega,y+1,by omega,rfl,H,fun y' hy'=>?_⟩
   rcases Nat.lt_or_ge y' y with h5 | h5
   ·exact hz y' h5
   ·have:y'=y:=by omega
    subst this
    exact hnl.1 (by exact_mod_cast h4)
 ·have h3:y=X:=by omega
  subst h3
  exact hk true _ ⟨fun _=>⟨hb.1 h1,by simpa using h2,fun y' hy'=>by simpa using hz y' (by simpa using hy')⟩,fun _=>rfl⟩ H.hext
def InI (x:Int):Prop:=-9223372036854775808<=x/\x<9223372036854775808
theorem min_of {a b:Int} {K:Int->Prop} (h:∀ m,(m=a/\a<=b\/m=b/\b<=a)->K m):bindI (minI a b) K:=by
 refine bindI_gen fun m e=>h m ?_
 unfold minI at e
 split at e <;> omega
theorem max_of {a b:Int} {K:Int->Prop} (h:∀ m,(m=a/\b<=a\/m=b/\a<=b)->K m):bindI (maxI a b) K:=by
 refine bindI_gen fun m e=>h m ?_
 unfold maxI at e
 split at e <;> omega
theorem cut_ok {h:Heap} {off n size:Int} (ho:InI off) (hn:InI n) (hs:1<=size/\size<=1048576) {K:VK} {Kp:PK}
  (hk:∀ skip left:Int,(left=0/\skip=0/\(n<=0\/size<=off\/off+n<=0)\/1<=left/\0<=skip/\0<=off+skip/\off+skip+left<=size/\skip+left<=n/\(skip=0\/off+skip=0)/\(off+skip+left=size\/skip+left=n))->K (.tuple #[.int .i64 skip, .int .i64 left]) h) :
  CP F_bitmap_cut #[.int .i64 off, .int .i64 n, .int .i64 size] h K Kp:=by
 refine call_bitmap_cut ?_
 unfold bitmap_cut
 unfold InI at ho hn
 refine ⟨fun vs h'=>h'=h/\vs=[.bool (decide (n<=0\/size<=off\/off+n<=0))],?_,?_⟩
 ·refine bcase_dec (fun h1=>⟨rfl,?_⟩) fun h1=>?_
  ·simp [h1]
  refine bcase_dec (fun h2=>⟨rfl,?_⟩) fun h2=>?_
  ·have:size<=off:=by omega
   simp [this]
  refine bindI_of ((-n)) (by exact i64_at _ _ (by omega) (by omega) (by omega)) ?_
  refine ⟨by first | rfl | trivial,?_⟩
  congr 2
  rw [decide_eq_decide]
  omega
 ·rintro h' u x ⟨rfl,hx⟩
  injection hx with hx
  injection hx with hx
  subst hx
  refine bcase_dec (fun h1=>?_) fun h1=>?_
  ·exact hk 0 0 (.inl ⟨rfl,rfl,h1⟩)
  refine bcase_dec (fun h2=>?_) fun h2=>?_
  ·refine bindI_of ((size-off)) (by exact i64_in _ (by omega) (by omega)) ?_
   refine min_of fun m hm=>?_
   exact hk 0 m (.inr (by omega))
  ·refine bindI_of ((-off)) (by exact i64_at _ _ (by omega) (by omega) (by omega)) ?_
   refine bindI_of ((n+off)) (by exact i64_in _ (by omega) (by omega)) ?_
   refine min_of fun m hm=>?_
   exact hk (-off) m (.inr (by omega))
theorem both_ok {h:Heap} {a asz b bs n:Int} (ha:InI a) (hb:InI b) (hn:InI n) (h1:1<=asz/\asz<=1048576) (h2:1<=bs/\bs<=1048576) {K:VK} {Kp:PK}
  (hk:∀ f t l:Int,((l=0/\∀ k,0<=k->k<n->0<=a+k->a+k<asz->0<=b+k->b+k<bs->False) \/
    1<=l/\t-b=f-a/\0<=f/\f+l<=asz/\0<=t/\t+l<=bs/\a<=f/\f+l<=a+n/\∀ k,0<=k->k<n->0<=a+k->a+k<asz->0<=b+k->b+k<bs->t<=b+k/\b+k<t+l)->K (.tuple #[.int .i64 f, .int .i64 t, .int .i64 l]) h) :
  CP F_bitmap_both #[.int .i64 a, .int .i64 asz, .int .i64 b, .int .i64 bs, .int .i64 n] h K Kp:=by
 refine call_bitmap_both ?_
 unfold bitmap_both
 refine cut_ok ha hn h1 fun s1 l1 c1=>?_
 refine ⟨_,_,rfl,?_⟩
 unfold InI at ha hb hn
 refine bcase_eq (fun h3=>?_) fun h3=>?_
 ·exact hk 0 0 0 (.inl ⟨rfl,fun k _ _ _ _ _ _=>by omega⟩)
 have c1:=c1.resolve_left (by omega)
 refine bindI_of ((9223372036854775807-s1)) (by exact i64_in _ (by omega) (by omega)) ?_
 refine bcase_dec (fun h4=>?_) fun h4=>?_
 ·exact hk 0 0 0 (.inl ⟨rfl,fun k _ _ _ _ _ _=>by omega⟩)
 refine bindI_of ((a+s1)) (by exact i64_in _ (by omega) (by omega)) ?_
 refine bindI_of ((b+s1)) (by exact i64_in _ (by omega) (by omega)) ?_
 refine cut_ok ⟨by omega,by omega⟩ ⟨by omega,by omega⟩ h2 fun s2 l2 c2=>?_
 refine ⟨_,_,rfl,?_⟩
 rcases c2 with ⟨e1,e2,e3⟩ | c2
 ·subst e1 e2
  refine bindI_of ((a+s1)) (by exact i64_at _ _ (by omega) (by omega) (by omega)) ?_
  refine bindI_of ((b+s1)) (by exact i64_at _ _ (by omega) (by omega) (by omega)) ?_
  exact hk _ _ 0 (.inl ⟨rfl,fun k _ _ _ _ _ _=>by omega⟩)
 ·refine bindI_of ((a+s1+s2)) (by exact i64_in _ (by omega) (by omega)) ?_
  refine bindI_of ((b+s1+s2)) (by exact i64_in _ (by omega) (by omega)) ?_
  refine hk _ _ l2 (.inr ⟨by omega,by omega,by omega,by omega,by omega,by omega,by omega,by omega,fun k _ _ _ _ _ _=>by omega⟩)
theorem mask_ok {h:Heap} {i x n:Nat} (hi:64*i<x+n) (hb:x+n<=4194304) {K:VK} {Kp:PK}
  (hk:∀ M:Nat,M<M64->(∀ j,j<64->M.testBit j=decide (x<=64*i+(63-j)/\64*i+(63-j)<x+n))->K (.int .u64 (M:Nat)) h) :
  CP F_bitmap_mask #[.int .i64 (i:Nat), .int .i64 (x:Nat), .int .i64 (n:Nat)] h K Kp:=by
 refine call_bitmap_mask ?_
 unfold bitmap_mask
 refine bindI_of (((64*i:Nat):Int)) (by exact i64_at _ _ (by omega) (by omega) (by omega)) ?_
 refine bindI_of ((((x:Nat):Int)-((64*i:Nat):Int))) (by exact i64_in _ (by omega) (by omega)) ?_
 refine max_of fun m1 hm1=>?_
 obtain ⟨p,rfl⟩:∃ p:Nat,m1=(p:Nat):=⟨m1.toNat,by omega⟩
 refine bindI_of (((x+n:Nat):Int)) (by exact i64_at _ _ (by omega) (by omega) (by omega)) ?_
 refine bindI_of (((64*i:Nat):Int)) (by exact i64_at _ _ (by omega) (by omega) (by omega)) ?_
 refine bindI_of (((x+n-64*i:Nat):Int)) (by exact i64_at _ _ (by omega) (by omega) (by omega)) ?_
 refine min_of fun m2 hm2=>?_
 obtain ⟨q,rfl⟩:∃ q:Nat,m2=(q:Nat):=⟨m2.toNat,by omega⟩
 have hq64:q<=64:=by omega
 have hsh:∀ p:Nat,shrI .u64 (18446744073709551615:Int) (p:Int)=((18446744073709551615 / 2 ^ min p 64:Nat):Int):=by
  intro p
  rcases Nat.lt_or_ge 64 p with h1 | h1
  ·have e:min p 64=64:=by omega
   rw [e]
   have e2:shrI .u64 (18446744073709551615:Int) (p:Int)=shrI .u64 (18446744073709551615:Int) ((64:Nat):Int):=by
    unfold shrI
    rw [Int.toNat_natCast,Int.toNat_natCast]
    have:Nat.min p IntKind.u64.bits=Nat.min 64 IntKind.u64.bits:=by
     show min p 64=min 64 64
     omega
    first | rw [this] | (simp only [Nat.min_def] at this ⊢; rw [this])
   rw [e2]
   exact shr_of (k := .u64) (x:=18446744073709551615) (i:=64) (by decide)
  ·have e:min p 64=p:=by omega
   rw [e]
   exact shr_of (k := .u64) (x:=18446744073709551615) (i:=p) h1
 have hlt:∀ p:Nat,18446744073709551615 / 2 ^ p<M64:=fun p=>Nat.lt_of_le_of_lt (Nat.div_le_self _ _) (by decide)
 refine needs_of (by omega) ?_
 refine bindI_of _ (hsh p) ?_
 refine needs_of (by omega) ?_
 refine bindI_of _ (hsh q) ?_
 refine bindI_of _ (andNot64 _ _ (hlt _) (hlt _)) ?_
 refine hk _ (and_lt (hlt _)) fun j hj=>?_
 rw [Nat.testBit_and,wnot_bit (hlt _) hj,ones_shr (by omega),ones_shr (by omega)]
 rw [<- decide_not,<- Bool.decide_and,decide_eq_decide]
 omega
theorem shr_bit {v s j:Nat}:(v / 2 ^ s).testBit j=v.testBit (j+s):=Nat.testBit_div_two_pow v j
theorem shl_bit {v s j:Nat} (hj:j<64):(v*2 ^ s % M64).testBit j=(decide (s<=j) && v.testBit (j-s)):=by
 rw [M64_pow,Nat.testBit_mod_two_pow,decide_eq_true hj,Bool.true_and,Nat.testBit_mul_two_pow]
theorem u64_wrap (x:Nat):IntKind.u64.wrap (x:Int)=((x % M64:Nat):Int):=by simp [IntKind.wrap,IntKind.bits,IntKind.signed]
theorem word_pos {h:Heap} {q:Option Addr} {c:Nat} {ws:List Nat} (hr:rdO h q (ws.length*1) (u64s ws)) (hw:W64 ws) (hl:ws.length<1048577) {x:Nat} (hx:x<1000000000) {K:VK} {Kp:PK}
  (hk:∀ V:Nat,V<M64->(∀ j,j<64->V.testBit j=rowB ws ((x:Int)+(63-(j:Int))))->K (.int .u64 (V:Nat)) h) :
  CP F_bitmap_word #[.slice q ws.length c, .int .i64 (x:Nat)] h K Kp:=by
 refine call_bitmap_word ?_
 unfold bitmap_word
 simp only [decide_eq_false (show ¬ ((x:Nat):Int)<0 by omega)]
 refine bcase_false rfl ?_
 refine bindI_of (((x / 64:Nat):Int)) (by exact i64_at _ _ (tdiv_nat x 64) (by omega) (by omega)) ?_
 have hrow:∀ j:Nat,j<64->rowB ws ((x:Int)+(63-(j:Int)))=(ws.getD ((x+(63-j)) / 64) 0).testBit (63-(x+(63-j)) % 64):=fun j hj=>by
  unfold rowB
  have:((x:Int)+(63-(j:Int))).toNat=x+(63-j):=by omega
  rw [this,decide_eq_true (by omega),Bool.true_and]
 have hout:∀ i,ws.length<=i->ws.getD i 0=0:=fun i hi=>by rw [List.getD_eq_getElem?_getD,List.getElem?_eq_none hi]; rfl
 refine bcase_dec (fun h1=>?_) fun h1=>?_
 ·refine hk 0 (by decide) fun j hj=>?_
  rw [hrow j hj,hout _ (by omega),Nat.zero_testBit,Nat.zero_testBit]
 have h1:x / 64<ws.length:=by omega
 refine needs_of (by omega) ?_
 obtain ⟨a,ha,hc⟩:=rdO_cell hr (u64s_get (getD_get (l:=ws) (i:=x / 64) h1))
 subst ha
 simp only [ptr_some_eq,Int.toNat_natCast,Nat.mul_one]
 refine ldI_of hc ?_
 have hx64:=Nat.mod_lt x (show 64 > 0 by decide)
 refine bindI_of (((x % 64:Nat):Int)) (by exact tmod_nat x 64) ?_
 refine needs_of (by omega) ?_
 have hv:=hw.get (x / 64)
 refine bindI_of (((ws.getD (x / 64) 0*2 ^ (x % 64) % M64:Nat):Int)) (by exact shl_of (i:=x % 64) (by show x % 64<=64; omega) (u64_wrap _)) ?_
 have hv2:ws.getD (x / 64) 0*2 ^ (x % 64) % M64<M64:=Nat.mod_lt _ (by decide)
 refine ⟨fun vs h'=>h'=h/\vs=[.bool (decide (0<x % 64/\x / 64+1<ws.length))],?_,?_⟩
 ·refine bindI_of (((x % 64:Nat):Int)) (by exact tmod_nat x 64) ?_
  refine bcase_dec (fun h2=>?_) fun h2=>?_
  ·refine bindI_of (((x / 64+1:Nat):Int)) (by exact i64_at _ _ (by omega) (by omega) (by omega)) ?_
   refine ⟨by first | rfl | trivial,?_⟩
   congr 2
   rw [decide_eq_decide]
   omega
  ·refine ⟨by first | rfl | trivial,?_⟩
   congr 2
   rw [eq_comm,decide_eq_false_iff_not]
   omega
 ·rintro h' u y ⟨rfl,hy⟩
  injection hy with hy
  injection hy with hy
  subst hy
  refine bcase_dec (fun h2=>?_) fun h2=>?_
  ·refine bindI_of (((x / 64+1:Nat):Int)) (by exact i64_at _ _ (by omega) (by omega) (by omega)) ?_
   refine needs_of (by omega) ?_
   obtain ⟨a',ha',hc'⟩:=rdO_cell hr (u64s_get (getD_get (l:=ws) (i:=x / 64+1) h2.2))
   injection ha' with ha'
   subst ha'
   refine ldI_of hc' ?_
   refine bindI_of (((x % 64:Nat):Int)) (by exact tmod_nat x 64) ?_
   refine bindI_of (((64-x % 64:Nat):Int)) (by exact i64_at _ _ (by omega) (by omega) (by omega)) ?_
   refine needs_of (by omega) ?_
   have hv3:ws.getD (x / 64+1) 0 / 2 ^ (64-x % 64)<M64:=Nat.lt_of_le_of_lt (Nat.div_le_self _ _) (hw.get _)
   refine bindI_of (((ws.getD (x / 64+1) 0 / 2 ^ (64-x % 64):Nat):Int)) (by exact shr_of (by show 64-x % 64<=64; omega)) ?_
   refine bindI_of _ (or64 _ _ hv2 hv3) ?_
   refine hk _ (or_lt hv2 hv3) fun j hj=>?_
   rw [hrow j hj,Nat.testBit_or,shl_bit hj,shr_bit]
   by_cases h3:x % 64<=j
   ·rw [decide_eq_true h3,Bool.true_and,bits_lt (hw.get _) (show 64<=j+(64-x % 64) by omega),Bool.or_false]
    congr 1
    ·rw [show (x+(63-j)) / 64=x / 64 by omega]
    ·omega
   ·rw [decide_eq_false h3,Bool.false_and,Bool.false_or]
    congr 1
    ·rw [show (x+(63-j)) / 64=x / 64+1 by omega]
    ·omega
  ·refine hk _ hv2 fun j hj=>?_
   rw [hrow j hj,shl_bit hj]
   by_cases h3:x % 64<=j
   ·rw [decide_eq_true h3,Bool.true_and]
    congr 1
    ·rw [show (x+(63-j)) / 64=x / 64 by omega]
    ·omega
   ·rw [decide_eq_false h3,Bool.false_and,hout ((x+(63-j)) / 64) (by omega),Nat.zero_testBit]
theorem word_ok {h:Heap} {q:Option Addr} {c:Nat} {ws:List Nat} (hr:rdO h q (ws.length*1) (u64s ws)) (hw:W64 ws) (hl:ws.length<1048577) {x:Int} (hx:-1000000000<=x/\x<1000000000) {K:VK} {Kp:PK}
  (hk:∀ V:Nat,V<M64->(∀ j,j<64->V.testBit j=rowB ws (x+(63-(j:Int))))->K (.int .u64 (V:Nat)) h) :
  CP F_bitmap_word #[.slice q ws.length c, .int .i64 x] h K Kp:=by
 rcases Int.lt_or_le x 0 with h1 | h1
 ·refine call_bitmap_word ?_
  unfold bitmap_word
  simp only [decide_eq_true h1]
  refine bcase_true rfl ?_
  refine word_pos (x:=0) hr hw hl (by omega) fun V hV hb=>?_
  refine ⟨_,rfl,?_⟩
  obtain ⟨p,hp⟩:∃ p:Nat,x = -(p:Int):=⟨(-x).toNat,by omega⟩
  subst hp
  refine bindI_of (((p:Nat):Int)) (by exact i64_at _ _ (by omega) (by omega) (by omega)) ?_
  refine needs_of (by omega) ?_
  have hs:shrI .u64 (V:Int) (p:Int)=((V / 2 ^ min p 64:Nat):Int):=by
   rcases Nat.lt_or_ge 64 p with h1 | h1
   ·have e:min p 64=64:=by omega
    rw [e]
    have e2:shrI .u64 (V:Int) (p:Int)=shrI .u64 (V:Int) ((64:Nat):Int):=by
     unfold shrI
     rw [Int.toNat_natCast,Int.toNat_natCast]
     have:Nat.min p IntKind.u64.bits=Nat.min 64 IntKind.u64.bits:=by
      show min p 64=min 64 64
      omega
     first | rw [this] | (simp only [Nat.min_def] at this ⊢; rw [this])
    rw [e2]
    exact shr_of (k := .u64) (i:=64) (by decide)
   ·have e:min p 64=p:=by omega
    rw [e]
    exact shr_of (k := .u64) (i:=p) h1
  refine bindI_of _ hs ?_
  refine hk _ (Nat.lt_of_le_of_lt (Nat.div_le_self _ _) hV) fun j hj=>?_
  rw [shr_bit]
  by_cases h2:j+min p 64<64
  ·rw [hb _ h2]
   congr 1
   omega
  ·rw [bits_lt hV (by omega)]
   unfold rowB
   rw [decide_eq_false (by omega),Bool.false_and]
 ·obtain ⟨X,rfl⟩:∃ X:Nat,x=(X:Nat):=⟨x.toNat,by omega⟩
  exact word_pos hr hw hl (by omega) hk
end Go.Bm
namespace Go.Bm
open Go Go.Den Go.Den.YtfaclehehhgpcaaGreat
def mapE (p q w h n c:Nat):Ent:=⟨p,true,T_bitmap_Map,[.int .i64 (w:Nat), .int .i64 (h:Nat), .int .i64 (wds w:Nat), .slice (at0 q) n c]⟩
def mapL (p q w h:Nat) (ws:List Nat) (rest:List Value):List Ent:=[mapE p q w h ws.length (ws.length+rest.length),⟨q,true,T_uint64,u64s ws++rest⟩]
theorem row_rdO {h0 h:Heap} {F:List Nat} {L:List Ent} (H:Hp h0 F h L) (k:Nat) {b:Nat} {w:Bool} {t:TypeId} {xs:List Nat} {rest:List Value} (he:L[k]? = some ⟨b,w,t,u64s xs++rest⟩):rdO h (at0 b) (xs.length*1) (u64s xs):=by
 have h2:=rdO_hp H k (o:=0) (n:=xs.length*1) he (by rw [List.length_append,u64s_length]; omega)
 rw [List.drop_zero,List.take_append_of_le_length (by rw [u64s_length]; omega),List.take_of_length_le (by rw [u64s_length]; omega)] at h2
 exact h2
theorem get_app {R T:List Value} {i:Nat} {v:Value} (h:R[i]? = some v):(R++T)[i]? = some v:=by
 rw [List.getElem?_append_left (List.getElem?_eq_some_iff.1 h).1]; exact h
theorem u64s_setr (ws:List Nat) (rest:List Value) (i v:Nat) (h:i<ws.length):(u64s ws++rest).set i (.int .u64 (v:Int))=u64s (ws.set i v)++rest:=by
 rw [List.set_append_left _ _ (by rw [u64s_length]; exact h),<- u64s_set]
theorem clone_ok {hB:Heap} {q:Option Addr} {c:Nat} {ws:List Nat} (hr:rdO hB q (ws.length*1) (u64s ws)) (h1:1<=ws.length) (hl:ws.length<1048577) {K:VK} {Kp:PK}
  (hk:∀ o rest h,Hp hB [] h [⟨o,true,T_uint64,u64s ws++rest⟩]->K (.slice (at0 o) ws.length (ws.length+rest.length)) h):CP F_slices_Clone_uint64_uint64 #[.slice q ws.length c] hB K Kp:=by
 refine call_slices_Clone_uint64_uint64 ?_
 unfold slices_Clone_uint64_uint64
 have H:=Hp.nil hB []
 obtain ⟨a,ha,_⟩:=rdO_cell hr (u64s_get (getD_get (l:=ws) (i:=0) h1))
 subst ha
 refine bcase_false (by rfl) ?_
 refine newC_hp H fun r h H=>?_
 refine appC_own H 0 (xs:=[]) (rest:=[]) rfl rfl rfl (H.rdO hr) (u64s_length ws) (u64s_cells ws) (by show (0+ws.length)*8<=_; omega) fun o rest h H=>?_
 rw [List.nil_append,List.length_append,u64s_length,List.length_nil,Nat.zero_add]
 exact hk o rest h (H.as (by simp))
theorem newM_ok {hB:Heap} {w h':Int} {K:VK} {Kp:PK}
  (hg:∀ (W X:Nat) p q h,w=(W:Nat)->h'=(X:Nat)->SizeP w h'->Hp hB [] h (mapL p q W X (List.replicate (X*wds W) 0) [])->K (.tuple #[.pointer (at0 p), .int .i64 0]) h)
  (hbad:¬ SizeP w h'->K (.tuple #[.pointer none, .int .i64 20]) hB):CP F_bitmap_New #[.int .i64 w, .int .i64 h'] hB K Kp:=by
 refine call_bitmap_New ?_
 unfold bitmap_New
 have H:=Hp.nil hB []
 refine sized_ok fun b hb=>?_
 refine ⟨_,rfl,?_⟩
 refine bcase_not (fun h1=>?_) fun h1=>?_
 ·exact hbad fun hs=>by rw [hb.2 hs] at h1; cases h1
 obtain ⟨W,X,rfl,rfl,hW1,hW2,hX1,hX2,hWX⟩:=size_nat (hb.1 h1)
 have hhw:=hw_le hW1 hWX
 refine bindI_of (((W+63:Nat):Int)) (by exact i64_at _ _ (by omega) (by omega) (by omega)) ?_
 refine bindI_of (((wds W:Nat):Int)) (by exact i64_at _ _ (tdiv_nat (W+63) 64) (by unfold wds; omega) (by unfold wds; omega)) ?_
 obtain ⟨N,hN⟩:∃ N,N=X*wds W:=⟨_,rfl⟩
 refine bindI_of (((N:Nat):Int)) (by exact i64_at _ _ (by rw [hN,Int.natCast_mul]) (by omega) (by omega)) ?_
 refine needs_of (by simp; omega) ?_
 simp only [Int.toNat_natCast,u64s_zero]
 refine newC_hp H fun q h H=>?_
 refine newC_hp H fun p h H=>?_
 refine hg W X p q _ rfl rfl (hb.1 h1) (H.pick [1,0] (by decide) ?_)
 rw [hN]
 simp [mapL,mapE,u64s]
theorem from_ok {hB:Heap} {w h':Int} {q:Option Addr} {c:Nat} {ws:List Nat} (hr:rdO hB q (ws.length*1) (u64s ws)) (hw:W64 ws) (hl:ws.length<140737488351300) {K:VK} {Kp:PK}
  (hg:∀ (W X:Nat) p q rest h,w=(W:Nat)->h'=(X:Nat)->MayP w h' ws->Hp hB [] h (mapL p q W X ws rest)->K (.tuple #[.pointer (at0 p), .int .i64 0]) h)
  (hbad:∀ h,¬ MayP w h' ws->hext hB h->K (.tuple #[.pointer none, .int .i64 21]) h):CP F_bitmap_From #[.agg #[.int .i64 w, .int .i64 h', .slice q ws.length c]] hB K Kp:=by
 refine call_bitmap_From ?_
 unfold bitmap_From
 have H:=Hp.nil hB []
 refine newC_hp H fun r h H=>?_
 try simp only [ptr_some_eq,add_mk,Nat.zero_add,Nat.add_zero]
 refine ldI_of (H.cell 0 rfl rfl) ?_
 refine ldI_of (H.cell 0 rfl rfl) ?_
 refine ldS_of (H.cell 0 rfl rfl) ?_
 refine check_ok (H.rdO hr) hw hl fun b h2 hb e=>?_
 have H:=H.ext e
 refine ⟨_,rfl,?_⟩
 refine bcase_not (fun h1=>?_) fun h1=>?_
 ·exact hbad _ (fun hs=>by rw [hb.2 hs] at h1; cases h1) H.hext
 have hm:=hb.1 h1
 obtain ⟨W,X,rfl,rfl,hW1,hW2,hX1,hX2,hWX⟩:=size_nat hm.1
 have hhw:=hw_le hW1 hWX
 have hlen:ws.length=X*wds W:=hm.2.1
 have hw1:=wds_pos hW1
 have hpos:1<=X*wds W:=Nat.mul_pos hX1 hw1
 refine ldI_of (H.cell 0 rfl rfl) ?_
 refine ldI_of (H.cell 0 rfl rfl) ?_
 refine ldI_of (H.cell 0 rfl rfl) ?_
 refine bindI_of (((W+63:Nat):Int)) (by exact i64_at _ _ (by omega) (by omega) (by omega)) ?_
 refine bindI_of (((wds W:Nat):Int)) (by exact i64_at _ _ (tdiv_nat (W+63) 64) (by unfold wds; omega) (by unfold wds; omega)) ?_
 refine ldS_of (H.cell 0 rfl rfl) ?_
 refine clone_ok (H.rdO hr) (by omega) (by omega) fun o rest h' H'=>?_
 refine ⟨_,_,_,rfl,H'.hext,?_⟩
 replace H:=H.join H' rfl
 refine newC_hp H fun p h H=>?_
 exact hg W X p o rest _ rfl rfl hm (H.pick [2,1] (by decide) rfl)
theorem plain_ok {h0 h:Heap} {F:List Nat} {L:List Ent} (H:Hp h0 F h L) (kp kq:Nat) {p q W X:Nat} {w:Bool} {ws:List Nat} {rest:List Value} (hp:L[kp]? = some (mapE p q W X ws.length (ws.length+rest.length))) (hq:L[kq]? = some ⟨q,w,T_uint64,u64s ws++rest⟩)
  (h1:1<=ws.length) (hl:ws.length<1048577) {K:VK} {Kp:PK}
  (hk:∀ o orest h',Hp h0 F h' (L++[⟨o,true,T_uint64,u64s ws++orest⟩])->K (.agg #[.int .i64 (W:Nat), .int .i64 (X:Nat), .slice (at0 o) ws.length (ws.length+orest.length)]) h') :
  CP F_bitmap_Map_Plain #[.pointer (at0 p)] h K Kp:=by
 refine call_bitmap_Map_Plain ?_
 unfold bitmap_Map_Plain
 have hkp:kp<L.length:=(List.getElem?_eq_some_iff.1 hp).1
 have hkq:kq<L.length:=(List.getElem?_eq_some_iff.1 hq).1
 refine newC_hp H fun r h H=>?_
 have hp2:(L++[(⟨r,true,T_api_Bitmap,[.int .i64 0, .int .i64 0, .slice none 0 0]⟩:Ent)])[kp]? = some (mapE p q W X ws.length (ws.length+rest.length)):=by rw [List.getElem?_append_left hkp]; exact hp
 have hq2:(L++[(⟨r,true,T_api_Bitmap,[.int .i64 0, .int .i64 0, .slice none 0 0]⟩:Ent)])[kq]? = some ⟨q,w,T_uint64,u64s ws++rest⟩:=by rw [List.getElem?_append_left hkq]; exact hq
 try simp only [ptr_some_eq,add_mk,Nat.zero_add,Nat.add_zero]
 refine ldI_of (H.cell kp hp2 (i:=0) rfl) ?_
 refine ldI_of (H.cell kp hp2 (i:=1) rfl) ?_
 refine ldS_of (H.cell kp hp2 (i:=3) rfl) ?_
 refine clone_ok (row_rdO H kq hq2) h1 hl fun o orest h' H'=>?_
 refine ⟨_,_,_,rfl,H'.hext,?_⟩
 have H:=((H.join H' rfl).swap).rot
 refine stV_hp H 0 rfl (by first | exact Nat.le_of_ble_eq_true rfl | simp) rfl fun h hsz H=>?_
 refine stV_hp H 0 rfl (by first | exact Nat.le_of_ble_eq_true rfl | simp) rfl fun h hsz H=>?_
 refine stV_hp H 0 rfl (by first | exact Nat.le_of_ble_eq_true rfl | simp) rfl fun h hsz H=>?_
 refine ldI_of (H.cell 0 rfl rfl) ?_
 refine ldI_of (H.cell 0 rfl rfl) ?_
 refine ldS_of (H.cell 0 rfl rfl) ?_
 exact hk o orest _ (H.suf (X:=[⟨r,true,T_api_Bitmap,[.int .i64 (W:Nat), .int .i64 (X:Nat), .slice (at0 o) ws.length (ws.length+orest.length)]⟩]))
def Inv (X wd:Nat) (F old:Nat->Nat->Bool) (D:Nat->Bool) (j i:Nat) (R:List Nat):Prop :=
 R.length=X*wd/\W64 R/\∀ y,y<X->∀ x,x<64*wd->pix R wd x y=if D y=true\/y=j/\x / 64<i then F x y else old x y
section
variable {X wd:Nat} {F old:Nat->Nat->Bool} {D:Nat->Bool} {j i:Nat} {R:List Nat}
theorem Inv.word (h:Inv X wd F old D j i R) (hD:D j=false) (hj:j<X) (hi:i<wd) {b:Nat} (hb:b<64):(R.getD (j*wd+i) 0).testBit b=old (64*i+(63-b)) j:=by
 have:=h.2.2 j hj (64*i+(63-b)) (by omega)
 rw [if_neg (by rw [hD]; simp; omega)] at this
 unfold pix at this
 rw [show (64*i+(63-b)) / 64=i by omega,show 63-(64*i+(63-b)) % 64=b by omega] at this
 exact this
theorem Inv.step (h:Inv X wd F old D j i R) (hj:j<X) (hi:i<wd) {v:Nat} (hv:v<M64) (hb:∀ b,b<64->v.testBit b=F (64*i+(63-b)) j):Inv X wd F old D j (i+1) (R.set (j*wd+i) v):=by
 obtain ⟨h1,h2,h3⟩:=h
 refine ⟨by rw [List.length_set]; exact h1,h2.set hv,fun y hy x hx=>?_⟩
 rw [pix_set h1 hi hj hx]
 by_cases h4:y=j/\x / 64=i
 ·rw [if_pos h4,if_pos (.inr ⟨h4.1,by omega⟩),hb _ (by omega),h4.1]
  congr 1
  omega
 ·rw [if_neg h4,h3 y hy x hx]
  have:(D y=true\/y=j/\x / 64<i)↔(D y=true\/y=j/\x / 64<i+1):=by
   constructor
   ·rintro (h5 | ⟨h5,h6⟩)
    ·exact .inl h5
    ·exact .inr ⟨h5,by omega⟩
   ·rintro (h5 | ⟨h5,h6⟩)
    ·exact .inl h5
    ·exact .inr ⟨h5,by
      have:x / 64≠i:=fun e=>h4 ⟨h5,e⟩
      omega⟩
  simp only [this]
theorem Inv.row (h:Inv X wd F old D j i R) (he:∀ x,64*i<=x->x<64*wd->F x j=old x j) {D':Nat->Bool} (hD:∀ y,D' y=true↔D y=true\/y=j) {j' i':Nat} (hs:∀ x,x<64*i'->x<64*wd->F x j'=old x j'):Inv X wd F old D' j' i' R:=by
 obtain ⟨h1,h2,h3⟩:=h
 refine ⟨h1,h2,fun y hy x hx=>?_⟩
 rw [h3 y hy x hx]
 by_cases h4:D y=true
 ·rw [if_pos (.inl h4),if_pos (.inl ((hD y).2 (.inl h4)))]
 by_cases h5:y=j
 ·rw [if_pos (.inl ((hD y).2 (.inr h5)):D' y=true\/_)]
  by_cases h6:x / 64<i
  ·rw [if_pos (.inr ⟨h5,h6⟩)]
  ·rw [if_neg (by rintro (h7 | h7); exact h4 h7; exact h6 h7.2),h5]
   exact (he x (by omega) hx).symm
 ·rw [if_neg (by rintro (h7 | h7); exact h4 h7; exact h5 h7.1)]
  by_cases h6:y=j'/\x / 64<i'
  ·rw [if_pos (.inr h6),h6.1]
   exact (hs x (by omega) hx).symm
  ·rw [if_neg]
   rintro (h7 | h7)
   ·rcases (hD y).1 h7 with h8 | h8
    ·exact h4 h8
    ·exact h5 h8
   ·exact h6 h7
end
theorem mul_cast {a b:Nat}:((a:Int)*(b:Int))=((a*b:Nat):Int):=(Int.natCast_mul a b).symm
end Go.Bm
namespace Go.Bm
open Go Go.Den Go.Den.YtfaclehehhgpcaaGreat
def opsV:List Value:=[.func (.func F_bitmap_operations_c1) #[] #[], .func (.func F_bitmap_operations_c2) #[] #[], .func (.func F_bitmap_operations_c3) #[] #[], .func (.func F_bitmap_operations_c4) #[] #[], .func (.func F_bitmap_operations_c5) #[] #[]]
theorem operations_ok {hB:Heap} {K:VK} {Kp:PK} (hk:∀ o h,Hp hB [] h [⟨o,true,T_func_uint64_uint64_uint64,opsV⟩]->K (.slice (at0 o) 5 5) h):CP F_bitmap_operations #[] hB K Kp:=by
 refine call_bitmap_operations ?_
 unfold bitmap_operations
 have H:=Hp.nil hB []
 refine newC_hp H fun o h H=>?_
 exact hk o _ H
theorem does_ok {h:Heap} {op d s:Nat} (hop:op<5) (hd:d<M64) (hs:s<M64) {f:Value} (hf:opsV[op]? = some f) {K:VK} {Kp:PK}
  (hk:∀ v:Nat,v<M64->(∀ b,b<64->v.testBit b=opB op (d.testBit b) (s.testBit b))->K (.int .u64 (v:Nat)) h):callD CP Kp f [.int .u64 (d:Nat), .int .u64 (s:Nat)] h K:=by
 match op,hop with
 | 0,_ =>
  obtain rfl:_=f:=Option.some.inj hf
  refine call_bitmap_operations_c1 ?_
  unfold bitmap_operations_c1
  refine bindI_of _ (or64 _ _ hd hs) (hk _ (or_lt hd hs) fun b hb=>?_)
  rw [Nat.testBit_or]; rfl
 | 1,_ =>
  obtain rfl:_=f:=Option.some.inj hf
  refine call_bitmap_operations_c2 ?_
  unfold bitmap_operations_c2
  refine bindI_of _ (and64 _ _ hd hs) (hk _ (and_lt hd) fun b hb=>?_)
  rw [Nat.testBit_and]; rfl
 | 2,_ =>
  obtain rfl:_=f:=Option.some.inj hf
  refine call_bitmap_operations_c3 ?_
  unfold bitmap_operations_c3
  refine bindI_of _ (xor64 _ _ hd hs) (hk _ (xor_lt hd hs) fun b hb=>?_)
  rw [Nat.testBit_xor]; rfl
 | 3,_ =>
  obtain rfl:_=f:=Option.some.inj hf
  refine call_bitmap_operations_c4 ?_
  unfold bitmap_operations_c4
  refine bindI_of _ (xor64 _ _ hd hs) ?_
  have hm:IntKind.u64.max=((18446744073709551615:Nat):Int):=by decide
  rw [hm]
  refine bindI_of _ (xor64 _ _ (by decide) (xor_lt hd hs)) (hk _ (xor_lt (by decide) (xor_lt hd hs)) fun b hb=>?_)
  rw [Nat.testBit_xor,Nat.testBit_xor,show 18446744073709551615=2 ^ 64-1 from rfl,Nat.testBit_two_pow_sub_one,decide_eq_true hb]
  show (true ^^ (d.testBit b ^^ s.testBit b)) = !(d.testBit b != s.testBit b)
  cases d.testBit b <;> cases s.testBit b <;> rfl
 | 4,_ =>
  obtain rfl:_=f:=Option.some.inj hf
  refine call_bitmap_operations_c5 ?_
  unfold bitmap_operations_c5
  exact hk _ hs fun b hb=>rfl
theorem opB_cell {o op:Nat} {h:Heap} {FF:List Nat} {h0:Heap} {L:List Ent} (H:Hp h0 FF h L) (k:Nat) {w:Bool} (hk:L[k]? = some ⟨o,w,T_func_uint64_uint64_uint64,opsV⟩) (hop:op<5):∃ f,opsV[op]? = some f/\hcell h ⟨o,op,none⟩=some f:=by
 have:op<opsV.length:=hop
 exact ⟨opsV[op],List.getElem?_eq_getElem this,H.cell k hk (List.getElem?_eq_getElem this)⟩
def rowW (S:List Nat) (swd r:Nat):List Nat:=(S.drop (r*swd)).take swd
theorem rowW_len {S:List Nat} {swd r SX:Nat} (hl:S.length=SX*swd) (hr:r<SX):(rowW S swd r).length=swd:=by
 unfold rowW
 rw [List.length_take,List.length_drop,hl]
 have:(r+1)*swd<=SX*swd:=Nat.mul_le_mul_right _ hr
 rw [Nat.add_mul,Nat.one_mul] at this
 omega
theorem rowW_w {S:List Nat} (hw:W64 S) (swd r:Nat):W64 (rowW S swd r):=fun v hv=>hw v (List.mem_of_mem_drop (List.mem_of_mem_take hv))
theorem rowW_pix {S:List Nat} {swd r x:Nat} (hx:x<64*swd):rowB (rowW S swd r) (x:Int)=pix S swd x r:=by
 unfold rowB pix rowW
 rw [decide_eq_true (by omega),Bool.true_and,Int.toNat_natCast]
 congr 1
 rw [List.getD_eq_getElem?_getD,List.getD_eq_getElem?_getD,List.getElem?_take_of_lt (by omega),List.getElem?_drop]
end Go.Bm
namespace Go.Bm
open Go Go.Den Go.Den.YtfaclehehhgpcaaGreat
theorem white_ok {hB:Heap} {W X:Nat} (hs:SizeP (W:Int) (X:Int)) {K:VK} {Kp:PK}
  (hk:∀ q h,Hp hB [] h [⟨q,true,T_uint64,u64s (List.replicate (X*wds W) 0)⟩]->K (.agg #[.int .i64 (W:Nat), .int .i64 (X:Nat), .slice (at0 q) (X*wds W) (X*wds W)]) h) :
  CP F_burinref0_White #[.int .i64 (W:Nat), .int .i64 (X:Nat)] hB K Kp:=by
 refine call_burinref0_White ?_
 unfold burinref0_White
 obtain ⟨W',X',e1,e2,hW1,hW2,hX1,hX2,hWX⟩:=size_nat hs
 obtain rfl:W=W':=by omega
 obtain rfl:X=X':=by omega
 have hhw:=hw_le hW1 hWX
 have H:=Hp.nil hB []
 refine newC_hp H fun r h H=>?_
 refine words_ok (by omega) ?_
 refine ⟨_,rfl,?_⟩
 obtain ⟨N,hN⟩:∃ N,N=X*wds W:=⟨_,rfl⟩
 refine bindI_of (((N:Nat):Int)) (by exact i64_at _ _ (by rw [hN]; exact mul_cast) (by omega) (by omega)) ?_
 refine needs_of (by simp; omega) ?_
 simp only [Int.toNat_natCast,u64s_zero]
 refine newC_hp H fun q h H=>?_
 try simp only [ptr_some_eq,add_mk,Nat.zero_add,Nat.add_zero]
 refine stV_hp H 0 rfl (by first | exact Nat.le_of_ble_eq_true rfl | simp) rfl fun h hsz H=>?_
 refine stV_hp H 0 rfl (by first | exact Nat.le_of_ble_eq_true rfl | simp) rfl fun h hsz H=>?_
 refine stV_hp H 0 rfl (by first | exact Nat.le_of_ble_eq_true rfl | simp) rfl fun h hsz H=>?_
 refine ldI_of (H.cell 0 rfl rfl) ?_
 refine ldI_of (H.cell 0 rfl rfl) ?_
 refine ldS_of (H.cell 0 rfl rfl) ?_
 have:=hk q _ (H.pick [1] (by decide) (L':=[⟨q,true,T_uint64,u64s (List.replicate (X*wds W) 0)⟩]) (by rw [<- hN]; rfl))
 rw [hN]
 exact this
def getP (ws:List Nat) (W X:Nat) (x y:Int):Bool:=decide (0<=x/\0<=y/\x<W/\y<X) && pix ws (wds W) x.toNat y.toNat
theorem div_lt_wds {W x:Nat} (h:x<W):x / 64<wds W:=by unfold wds; omega
theorem pow_bit {j k:Nat}:(2 ^ j).testBit k=decide (j=k):=Nat.testBit_two_pow
theorem eqW_ok {h:Heap} {a b:Option Addr} {ac bc:Nat} {xs ys:List Nat} (ha:rdO h a (xs.length*1) (u64s xs)) (hb:rdO h b (ys.length*1) (u64s ys)) (hlen:xs.length<140737488351300)
  {K:VK} {Kp:PK} (hk:K (.bool (decide (xs=ys))) h):CP F_burinref0_EqWords #[.slice a xs.length ac, .slice b ys.length bc] h K Kp:=by
 refine call_burinref0_EqWords ?_
 unfold burinref0_EqWords
 refine bcase_ne (fun h1=>?_) fun h1=>?_
 ·rw [decide_eq_false (fun e=>h1 (by rw [e]))] at hk
  exact hk
 have h1:xs.length=ys.length:=by omega
 refine ⟨fun n vs h'=>∃ i:Nat,i+n=xs.length/\vs=[.int .i64 (i:Int)]/\h'=h/\∀ j,j<i->xs[j]? = ys[j]?,⟨xs.length,0,by omega,rfl,rfl,fun j hj=>by omega⟩,?_⟩
 rintro n h' u x ⟨i,hin,hx,rfl,he⟩
 injection hx with hx
 injection hx with _ hx
 subst hx
 refine bcase_dec (fun h2=>?_) fun h2=>?_
 ·have h2:i<xs.length:=by omega
  refine needs_of (by omega) ?_
  obtain ⟨p,hp,hc⟩:=rdO_cell ha (u64s_get (getD_get h2))
  obtain ⟨p2,hp2,hc2⟩:=rdO_cell hb (u64s_get (getD_get (show i<ys.length by omega)))
  subst hp hp2
  simp only [ptr_some_eq,Int.toNat_natCast,Nat.mul_one]
  refine needs_of (by omega) ?_
  refine ldI_of hc ?_
  refine ldI_of hc2 ?_
  refine bcase_ne (fun h3=>?_) fun h3=>?_
  ·rw [decide_eq_false (fun e=>h3 (by rw [e]))] at hk
   exact hk
  ·refine bindI_of (((i+1:Nat):Int)) (by exact i64_at _ _ (by omega) (by omega) (by omega)) ?_
   refine ⟨n-1,by omega,i+1,by omega,rfl,by first | rfl | trivial,fun j hj=>?_⟩
   rcases Nat.lt_or_ge j i with h4 | h4
   ·exact he j h4
   ·have:j=i:=by omega
    subst this
    rw [getD_get h2,getD_get (show j<ys.length by omega)]
    congr 1
    omega
 ·have:xs=ys:=by
   apply List.ext_getElem?
   intro j
   rcases Nat.lt_or_ge j i with h4 | h4
   ·exact he j h4
   ·rw [List.getElem?_eq_none (by omega),List.getElem?_eq_none (by omega)]
  rw [decide_eq_true this] at hk
  exact hk
theorem eqB_ok {hB:Heap} {a b:Option Addr} {ac bc:Nat} {w g w' g':Int} {xs ys:List Nat} (ha:rdO hB a (xs.length*1) (u64s xs)) (hb:rdO hB b (ys.length*1) (u64s ys)) (hlen:xs.length<140737488351300)
  {K:VK} {Kp:PK} (hk:∀ h,hext hB h->K (.bool (decide (w=w'/\g=g'/\xs=ys))) h):CP F_burinref0_EqBitmap #[.agg #[.int .i64 w, .int .i64 g, .slice a xs.length ac], .agg #[.int .i64 w', .int .i64 g', .slice b ys.length bc]] hB K Kp:=by
 refine call_burinref0_EqBitmap ?_
 unfold burinref0_EqBitmap
 have H:=Hp.nil hB []
 refine newC_hp H fun r h H=>?_
 refine newC_hp H fun r2 h H=>?_
 try simp only [ptr_some_eq,add_mk,Nat.zero_add,Nat.add_zero]
 refine ldI_of (H.cell 0 rfl rfl) ?_
 refine ldI_of (H.cell 1 rfl rfl) ?_
 have hk:=hk _ H.hext
 refine bcase_eq (fun h1=>?_) fun h1=>?_
 ·refine ldI_of (H.cell 0 rfl rfl) ?_
  refine ldI_of (H.cell 1 rfl rfl) ?_
  refine bcase_eq (fun h2=>?_) fun h2=>?_
  ·refine ldS_of (H.cell 0 rfl rfl) ?_
   refine ldS_of (H.cell 1 rfl rfl) ?_
   refine eqW_ok (H.rdO ha) (H.rdO hb) hlen ?_
   refine ⟨_,rfl,?_⟩
   have e:decide (xs=ys)=decide (w=w'/\g=g'/\xs=ys):=by rw [decide_eq_decide]; simp [h1,h2]
   rw [e]
   exact hk
  ·rw [decide_eq_false (fun e=>h2 e.2.1)] at hk
   exact hk
 ·rw [decide_eq_false (fun e=>h1 e.1)] at hk
  exact hk
end Go.Bm
namespace Go.Bm
open Go Go.Den Go.Den.YtfaclehehhgpcaaGreat
section
variable {h0 h:Heap} {FF:List Nat} {L:List Ent} {p q c W X:Nat} {w:Bool} {ws:List Nat} {rest:List Value} {K:VK} {Kp:PK}
theorem ptr_of {a:Addr} {K:Addr->Prop} (h:K a):ptr (some a) K:=h
theorem Hp.cellA (H:Hp h0 FF h L) (k:Nat) {b i:Nat} {w:Bool} {t:TypeId} {cs:List Value} {v:Value} (he:L[k]? = some ⟨b,w,t,cs⟩) (hv:cs[i]? = some v):hcell h ((⟨b,0,none⟩:Addr).add i)=some v:=by
 rw [add_mk,Nat.zero_add]
 exact H.cell k he hv
theorem msize_ok (H:Hp h0 FF h L) (kp:Nat) (hp:L[kp]? = some (mapE p q W X ws.length c)) (hk:K (.tuple #[.int .i64 (W:Nat), .int .i64 (X:Nat)]) h):CP F_bitmap_Map_Size #[.pointer (at0 p)] h K Kp:=by
 refine call_bitmap_Map_Size ?_
 unfold bitmap_Map_Size
 try simp only [ptr_some_eq,add_mk,Nat.zero_add,Nat.add_zero]
 refine ldI_of (H.cell kp hp (i:=0) rfl) ?_
 refine ldI_of (H.cell kp hp (i:=1) rfl) ?_
 exact hk
theorem minside_ok (H:Hp h0 FF h L) (kp:Nat) (hp:L[kp]? = some (mapE p q W X ws.length c)) {x y:Int} (hk:∀ b:Bool,(b=true↔0<=x/\x<W/\0<=y/\y<X)->K (.bool b) h):CP F_bitmap_Map_inside #[.pointer (at0 p), .int .i64 x, .int .i64 y] h K Kp:=by
 refine call_bitmap_Map_inside ?_
 unfold bitmap_Map_inside
 try simp only [ptr_some_eq,add_mk,Nat.zero_add,Nat.add_zero]
 refine bcase_dec (fun h1=>?_) fun h1=>hk false (by simp; omega)
 refine ldI_of (H.cell kp hp (i:=0) rfl) ?_
 refine bcase_dec (fun h2=>?_) fun h2=>hk false (by simp; omega)
 refine bcase_dec (fun h3=>?_) fun h3=>hk false (by simp; omega)
 refine ldI_of (H.cell kp hp (i:=1) rfl) ?_
 exact hk _ (by simp; omega)
theorem mget_ok (H:Hp h0 FF h L) (kp kq:Nat) (hp:L[kp]? = some (mapE p q W X ws.length c)) (hq:L[kq]? = some ⟨q,w,T_uint64,u64s ws++rest⟩) (hs:SizeP (W:Int) (X:Int)) (hl:ws.length=X*wds W) (hw:W64 ws) {x y:Int}
  (hk:K (.int .i64 ((getP ws W X x y).toNat:Nat)) h):CP F_bitmap_Map_Get #[.pointer (at0 p), .int .i64 x, .int .i64 y] h K Kp:=by
 refine call_bitmap_Map_Get ?_
 unfold bitmap_Map_Get
 obtain ⟨W',X',e1,e2,hW1,hW2,hX1,hX2,hWX⟩:=size_nat hs
 obtain rfl:W=W':=by omega
 obtain rfl:X=X':=by omega
 have hhw:=hw_le hW1 hWX
 have hwl:=wds_le hW1
 refine minside_ok H kp hp fun b hb=>?_
 refine ⟨_,rfl,?_⟩
 refine bcase_not (fun h1=>?_) fun h1=>?_
 ·have hno:¬ (0<=x/\0<=y/\x<W/\y<X):=fun h2=>by rw [hb.2 ⟨h2.1,h2.2.2.1,h2.2.1,h2.2.2.2⟩] at h1; cases h1
  unfold getP at hk
  rw [decide_eq_false hno] at hk
  exact hk
 have hin:=hb.1 h1
 obtain ⟨a,rfl⟩:∃ a:Nat,x=(a:Nat):=⟨x.toNat,by omega⟩
 obtain ⟨b,rfl⟩:∃ b:Nat,y=(b:Nat):=⟨y.toNat,by omega⟩
 have haw:=div_lt_wds (show a<W by omega)
 have hidx:=idx_lt haw (show b<X by omega)
 have hbw:b*wds W<=X*wds W:=Nat.mul_le_mul_right _ (by omega)
 have h64:=Nat.mod_lt a (show 64 > 0 by decide)
 refine ptr_of (a:=⟨p,0,none⟩) (ptr_of (a:=⟨p,0,none⟩) ?_)
 refine bindI_of (((a / 64:Nat):Int)) (by exact i64_at _ _ (tdiv_nat a 64) (by omega) (by omega)) ?_
 refine bindI_of (((a % 64:Nat):Int)) (by exact tmod_nat a 64) ?_
 refine bindI_of (((63-a % 64:Nat):Int)) (by exact i64_at _ _ (by omega) (by omega) (by omega)) ?_
 refine ldS_of (Hp.cellA H kp hp (i:=3) rfl) ?_
 refine ldI_of (Hp.cellA H kp hp (i:=2) rfl) ?_
 refine bindI_of (((b*wds W:Nat):Int)) (by exact i64_at _ _ mul_cast (by omega) (by omega)) ?_
 refine bindI_of (((b*wds W+a / 64:Nat):Int)) (by exact i64_at _ _ (by omega) (by omega) (by omega)) ?_
 refine needs_of (by omega) ?_
 refine ptr_of (a:=⟨q,0,none⟩) ?_
 rw [Int.toNat_natCast,Nat.mul_one]
 refine ldI_of (Hp.cellA H kq hq (get_app (u64s_get (getD_get (l:=ws) (i:=b*wds W+a / 64) (by omega))))) ?_
 refine needs_of (by omega) ?_
 have hv:=hw.get (b*wds W+a / 64)
 have hres:=hk
 unfold getP pix at hres
 rw [decide_eq_true (by omega),Bool.true_and,Int.toNat_natCast,Int.toNat_natCast] at hres
 generalize ws.getD (b*wds W+a / 64) 0=v at hv hres ⊢
 refine bindI_of (((v / 2 ^ (63-a % 64):Nat):Int)) (by exact shr_of (by show 63-a % 64<=64; omega)) ?_
 have hlt:=Nat.lt_of_le_of_lt (Nat.div_le_self v (2 ^ (63-a % 64))) hv
 refine bindI_of (((v / 2 ^ (63-a % 64) % 2:Nat):Int)) (by exact (and64 _ 1 hlt (by decide)).trans (by rw [Nat.and_one_is_mod])) ?_
 refine bindI_of (((v / 2 ^ (63-a % 64) % 2:Nat):Int)) (by exact i64_in _ (by omega) (by omega)) ?_
 have e:v / 2 ^ (63-a % 64) % 2=(v.testBit (63-a % 64)).toNat:=(Nat.toNat_testBit v _).symm
 rw [e]
 exact hres
theorem mput_ok (H:Hp h0 FF h L) (kp kq:Nat) (hp:L[kp]? = some (mapE p q W X ws.length c)) (hq:L[kq]? = some ⟨q,true,T_uint64,u64s ws++rest⟩) (hs:SizeP (W:Int) (X:Int)) (hl:ws.length=X*wds W) (hw:W64 ws) {a b:Nat} (ha:a<W) (hb:b<X) {bit:Bool}
  (hk:∀ R h',R.length=ws.length->W64 R->(∀ y,y<X->∀ x,x<64*wds W->pix R (wds W) x y=if y=b/\x=a then bit else pix ws (wds W) x y)->Hp h0 FF h' (L.set kq ⟨q,true,T_uint64,u64s R++rest⟩)->K (.tuple #[]) h') :
  CP F_bitmap_Map_put #[.pointer (at0 p), .int .i64 (a:Nat), .int .i64 (b:Nat), .int .i64 (bit.toNat:Nat)] h K Kp:=by
 refine call_bitmap_Map_put ?_
 unfold bitmap_Map_put
 obtain ⟨W',X',e1,e2,hW1,hW2,hX1,hX2,hWX⟩:=size_nat hs
 obtain rfl:W=W':=by omega
 obtain rfl:X=X':=by omega
 have hhw:=hw_le hW1 hWX
 have hwl:=wds_le hW1
 have haw:=div_lt_wds ha
 have hidx:=idx_lt haw hb
 have hbw:b*wds W<=X*wds W:=Nat.mul_le_mul_right _ (by omega)
 have h64:=Nat.mod_lt a (show 64 > 0 by decide)
 have hbit:bit.toNat<=1:=by cases bit <;> decide
 refine ptr_of (a:=⟨p,0,none⟩) (ptr_of (a:=⟨p,0,none⟩) ?_)
 refine bindI_of (((a / 64:Nat):Int)) (by exact i64_at _ _ (tdiv_nat a 64) (by omega) (by omega)) ?_
 refine ldS_of (Hp.cellA H kp hp (i:=3) rfl) ?_
 refine ldI_of (Hp.cellA H kp hp (i:=2) rfl) ?_
 refine bindI_of (((b*wds W:Nat):Int)) (by exact i64_at _ _ mul_cast (by omega) (by omega)) ?_
 refine bindI_of (((b*wds W+a / 64:Nat):Int)) (by exact i64_at _ _ (by omega) (by omega) (by omega)) ?_
 refine needs_of (by omega) ?_
 refine ptr_of (a:=⟨q,0,none⟩) ?_
 rw [Int.toNat_natCast,Nat.mul_one]
 refine bindI_of (((a % 64:Nat):Int)) (by exact tmod_nat a 64) ?_
 refine bindI_of (((63-a % 64:Nat):Int)) (by exact i64_at _ _ (by omega) (by omega) (by omega)) ?_
 refine needs_of (by omega) ?_
 have hp2:2 ^ (63-a % 64)<M64:=by rw [M64_pow]; exact Nat.pow_lt_pow_right (by decide) (by omega)
 refine bindI_of (((2 ^ (63-a % 64):Nat):Int)) (by exact shl_of (x:=1) (by show 63-a % 64<=64; omega) (by rw [Nat.one_mul,u64_wrap,Nat.mod_eq_of_lt hp2])) ?_
 refine bindI_of (((bit.toNat:Nat):Int)) (by exact u64_in _ (by omega) (by omega)) ?_
 refine bindI_of (((a % 64:Nat):Int)) (by exact tmod_nat a 64) ?_
 refine bindI_of (((63-a % 64:Nat):Int)) (by exact i64_at _ _ (by omega) (by omega) (by omega)) ?_
 refine needs_of (by omega) ?_
 have hb2:bit.toNat*2 ^ (63-a % 64)<M64:=by cases bit <;> simp <;> first | exact hp2 | decide
 refine bindI_of (((bit.toNat*2 ^ (63-a % 64):Nat):Int)) (by exact shl_of (x:=bit.toNat) (by show 63-a % 64<=64; omega) (by rw [u64_wrap,Nat.mod_eq_of_lt hb2])) ?_
 have hv:=hw.get (b*wds W+a / 64)
 refine ldI_of (Hp.cellA H kq hq (get_app (u64s_get (getD_get (l:=ws) (i:=b*wds W+a / 64) (by omega))))) ?_
 refine bindI_of _ (andNot64 _ _ hv hp2) ?_
 refine bindI_of _ (or64 _ _ (and_lt hv) hb2) ?_
 rw [add_mk,Nat.zero_add]
 refine stV_hp H kq hq (by rw [List.length_append,u64s_length]; omega) rfl fun h hsz H=>?_
 rw [u64s_setr _ _ _ _ (by omega)] at H
 refine hk _ h (by rw [List.length_set]) (hw.set (or_lt (and_lt hv) hb2)) (fun y hy x hx=>?_) H
 rw [pix_set hl haw hb hx]
 by_cases h1:y=b/\x / 64=a / 64
 ·rw [if_pos h1,Nat.testBit_or,Nat.testBit_and,wnot_bit hp2 (by omega),pow_bit]
  have hbb:(bit.toNat*2 ^ (63-a % 64)).testBit (63-x % 64)=(bit && decide (63-a % 64=63-x % 64)):=by
   cases bit
   ·simp
   ·show (1*2 ^ (63-a % 64)).testBit _=_
    rw [Nat.one_mul,pow_bit,Bool.true_and]
  rw [hbb]
  by_cases h2:x=a
  ·subst h2
   rw [if_pos ⟨h1.1,rfl⟩]
   simp
  ·rw [if_neg (fun h=>h2 h.2),decide_eq_false (show ¬ 63-a % 64=63-x % 64 by omega)]
   unfold pix
   rw [h1.1,h1.2]
   simp
 ·rw [if_neg h1,if_neg]
  rintro ⟨h2,h3⟩
  exact h1 ⟨h2,by rw [h3]⟩
theorem mset_ok (H:Hp h0 FF h L) (kp kq:Nat) (hp:L[kp]? = some (mapE p q W X ws.length c)) (hq:L[kq]? = some ⟨q,true,T_uint64,u64s ws++rest⟩) (hs:SizeP (W:Int) (X:Int)) (hl:ws.length=X*wds W) (hw:W64 ws) {a b:Nat} (ha:a<W) (hb:b<X) {bit:Bool}
  (hk:∀ R h',R.length=ws.length->W64 R->(∀ y,y<X->∀ x,x<64*wds W->pix R (wds W) x y=if y=b/\x=a then bit else pix ws (wds W) x y)->Hp h0 FF h' (L.set kq ⟨q,true,T_uint64,u64s R++rest⟩)->K (.int .i64 0) h') :
  CP F_bitmap_Map_Set #[.pointer (at0 p), .int .i64 (a:Nat), .int .i64 (b:Nat), .int .i64 (bit.toNat:Nat)] h K Kp:=by
 refine call_bitmap_Map_Set ?_
 unfold bitmap_Map_Set
 refine minside_ok H kp hp fun bb hbb=>?_
 refine ⟨_,rfl,?_⟩
 refine bcase_not (fun h1=>by rw [hbb.2 (by omega)] at h1; cases h1) fun h1=>?_
 refine bcase_ne (fun h2=>?_) fun h2=>?_
 ·refine bcase_ne (fun h3=>absurd h3 (by cases bit <;> simp_all)) fun h3=>?_
  exact mput_ok H kp kq hp hq hs hl hw ha hb hk
 ·exact mput_ok H kp kq hp hq hs hl hw ha hb hk
end
end Go.Bm
namespace Go.Den
open Go
section
variable {h0 h h':Heap} {F:List Nat} {A S S':List Ent}
theorem Hp.giveS (H:Hp h0 F h (A++S)):Hp h (S.map Ent.b) h S :=
 Hp.mk' (Fr.refl _ _) (fun e he=>H.mem e (List.mem_append_right _ he)) (fun e he _ => .inl (List.mem_map.2 ⟨e,he,rfl⟩)) H.suf.pw
theorem Hp.putS (H:Hp h0 F h (A++S)) (hw:S.all Ent.w=true) (H':Hp h (S.map Ent.b) h' S') (hw':S'.all Ent.w=true):Hp h0 F h' (A++S'):=by
 have hSw:∀ e∈S,e.w=true:=List.all_eq_true.1 hw
 have hSw':∀ e∈S',e.w=true:=List.all_eq_true.1 hw'
 have hown:∀ b∈S.map Ent.b,b∈F\/h0.size<=b:=fun b hb=>by
  obtain ⟨e,he,rfl⟩:=List.mem_map.1 hb
  exact H.memw e (List.mem_append_right _ he) (hSw e he)
 have hap:∀ e∈A,e.b ∉ S.map Ent.b:=fun e he hb=>by
  obtain ⟨e',he',hbb⟩:=List.mem_map.1 hb
  exact (List.pairwise_append.1 H.pw).2.2 e he e' he' hbb.symm
 have hlt:∀ e∈A,e.b<h.size:=fun e he=>(H.mem e (List.mem_append_left _ he)).lt
 refine Hp.mk' ⟨Nat.le_trans H.fr.1 H'.fr.1,fun b hb hF=>?_⟩ (fun e he=>?_) (fun e he hwt=>?_) ?_
 ·rw [H'.fr.2 b (Nat.lt_of_lt_of_le hb H.fr.1) (fun hm=>by
   rcases hown b hm with h1 | h1
   ·exact hF h1
   ·omega)]
  exact H.fr.2 b hb hF
 ·rcases List.mem_append.1 he with he | he
  ·have h1:=H.mem e (List.mem_append_left _ he)
   unfold Blk at h1 ⊢
   rw [H'.fr.2 e.b (hlt e he) (hap e he)]
   exact h1
  ·exact H'.mem e he
 ·rcases List.mem_append.1 he with he | he
  ·exact H.memw e (List.mem_append_left _ he) hwt
  ·rcases H'.memw e he hwt with h1 | h1
   ·exact hown _ h1
   ·exact .inr (Nat.le_trans H.fr.1 h1)
 ·refine List.pairwise_append.2 ⟨H.pre.pw,H'.pw,fun e he e' he' hb=>?_⟩
  rcases H'.memw e' he' (hSw' e' he') with h1 | h1
  ·exact hap e he (hb ▸ h1)
  ·have:=hlt e he
   omega
end
end Go.Den
namespace Go.Bm
open Go Go.Den Go.Den.YtfaclehehhgpcaaGreat
def bitsN:Nat->List Bool->Nat
 | n,[]=>n
 | n,b::l=>bitsN (2*n+b.toNat) l
theorem toNat_le (b:Bool):b.toNat<=1:=by cases b <;> decide
theorem bitsN_lt:∀ (l:List Bool) (n m:Nat),n<2 ^ m->bitsN n l<2 ^ (m+l.length)
 | [],n,m,h=>h
 | b::l,n,m,h=>by
  have:=bitsN_lt l (2*n+b.toNat) (m+1) (by rw [Nat.pow_succ]; have:=toNat_le b; omega)
  rw [show m+(b::l).length=m+1+l.length by simp; omega]
  exact this
theorem bitsN_app:∀ (l l':List Bool) (n:Nat),bitsN n (l++l')=bitsN (bitsN n l) l'
 | [],_,_=>rfl
 | b::l,l',n=>bitsN_app l l' _
theorem orI (a b:Nat) (ha:a<9223372036854775808) (hb:b<9223372036854775808):bitI .or .i64 a b=((a ||| b:Nat):Int):=(bits_nat .i64 63 (by decide) wr63 a b ha hb).2
theorem or_add {i a b:Nat} (hb:b<2 ^ i):(a*2 ^ i) ||| b=a*2 ^ i+b:=by
 rw [Nat.mul_comm]
 exact (Nat.two_pow_add_eq_or_of_lt hb a).symm
theorem shlI_of {a i:Nat} (hi:i<=64) (ha:a*2 ^ i<9223372036854775808):shlI .i64 (a:Int) (i:Int)=((a*2 ^ i:Nat):Int):=shl_of hi (i64_in _ (by omega) (by omega))
theorem orA {i A B:Nat} (hi:i<=62) (hA:A % 2 ^ i=0) (hB:B<2 ^ i) (hA2:A<9223372036854775808):bitI .or .i64 (A:Int) (B:Int)=((A+B:Nat):Int):=by
 have:2 ^ i<=2 ^ 62:=Nat.pow_le_pow_right (by decide) hi
 rw [orI _ _ hA2 (by omega)]
 have e:A=A / 2 ^ i*2 ^ i:=by have:=Nat.div_add_mod A (2 ^ i); rw [hA,Nat.add_zero,Nat.mul_comm] at this; exact this.symm
 rw [e,or_add hB]
theorem shl1 {a:Nat} (h:a<100000000000):shlI .i64 (a:Int) 1=((a*2:Nat):Int):=shlI_of (i:=1) (by decide) (by omega)
section
variable {h0 h:Heap} {FF:List Nat} {L:List Ent} {p q c W X r1 ry:Nat} {w:Bool} {t1 t2:TypeId} {ws:List Nat} {rest:List Value} {K:VK} {Kp:PK}
end
end Go.Bm
namespace Go.Bm
open Go Go.Den Go.Den.YtfaclehehhgpcaaGreat
def upd (G:Int->Int->Bool) (a b:Int) (bit:Bool):Int->Int->Bool:=fun x y=>if x=a/\y=b then bit else G x y
section
variable {σ:Type}
theorem recD_iface {t:TypeId} {x:Value} {older:List PanicEntry} {KN:FrameMode->Prop} {KI:TypeId->Value->FrameMode->Prop} (h:KI t x (.panicking ({ v := .iface t x,recovered:=true }::older))):recD (.panicking ({ v := .iface t x,recovered:=false }::older)) KN KI:=h
end
end Go.Bm
namespace Go.Bm
open Go Go.Den Go.Den.YtfaclehehhgpcaaGreat
def PadZ (W X:Nat) (ws:List Nat):Prop:=∀ y,y<X->∀ x,W<=x->x<64*wds W->pix ws (wds W) x y=false
theorem getP_set {W X a b:Nat} {bit:Bool} {ws R:List Nat} (ha:a<W) (hb:b<X) (h:∀ y,y<X->∀ x,x<64*wds W->pix R (wds W) x y=if y=b/\x=a then bit else pix ws (wds W) x y):getP R W X=upd (getP ws W X) (a:Int) (b:Int) bit:=by
 funext x y
 show (decide (0<=x/\0<=y/\x<(W:Int)/\y<(X:Int)) && pix R (wds W) x.toNat y.toNat)=if x=(a:Int)/\y=(b:Int) then bit else (decide (0<=x/\0<=y/\x<(W:Int)/\y<(X:Int)) && pix ws (wds W) x.toNat y.toNat)
 by_cases h1:0<=x/\0<=y/\x<W/\y<X
 ·rw [decide_eq_true h1,Bool.true_and,Bool.true_and,h _ (by omega) _ (by unfold wds; omega)]
  by_cases h2:x=a/\y=b
  ·rw [if_pos (by omega),if_pos h2]
  ·rw [if_neg (by omega),if_neg h2]
 ·rw [decide_eq_false h1,Bool.false_and,Bool.false_and,if_neg (by omega)]
theorem PadZ.set {W X a b:Nat} {bit:Bool} {ws R:List Nat} (hz:PadZ W X ws) (ha:a<W) (h:∀ y,y<X->∀ x,x<64*wds W->pix R (wds W) x y=if y=b/\x=a then bit else pix ws (wds W) x y):PadZ W X R:=fun y hy x h1 h2=>by
 rw [h y hy x h2,if_neg (by omega)]
 exact hz y hy x h1 h2
end Go.Bm
namespace Go.Ar
def qTab:List Nat:=[0x5601,0x3401,0x1801,0x0ac1,0x0521,0x0221,0x5601,0x5401,0x4801,0x3801,0x3001,0x2401,0x1c01,0x1601,0x5601,0x5401,0x5101,0x4801,0x3801,0x3401,0x3001,0x2801,0x2401,0x2201,0x1c01,0x1801,0x1601,0x1401,0x1201,0x1101,0x0ac1,0x09c1,0x08a1,0x0521,0x0441,0x02a1,0x0221,0x0141,0x0111,0x0085,0x0049,0x0025,0x0015,0x0009,0x0005,0x0001,0x5601]
def mTab:List Nat:=[1,2,3,4,5,38,7,8,9,10,11,12,13,29,15,16,17,18,19,20,21,22,23,24,25,26,27,28,29,30,31,32,33,34,35,36,37,38,39,40,41,42,43,44,45,45,46]
def lTab:List Nat:=[1,6,9,12,29,33,6,14,14,14,17,18,20,21,14,14,15,16,17,18,19,19,20,21,22,23,24,25,26,27,28,29,30,31,32,33,34,35,36,37,38,39,40,41,42,43,46]
def cTab:List Nat:=[1,0,0,0,0,0,1,0,0,0,0,0,0,0,1,0,0,0,0,0,0,0,0,0,0,0,0,0,0,0,0,0,0,0,0,0,0,0,0,0,0,0,0,0,0,0,0]
def qOf (r:Nat):Nat:=qTab.getD r 0
def mOf (r:Nat):Nat:=mTab.getD r 0
def lOf (r:Nat):Nat:=lTab.getD r 0
def cOf (r:Nat):Nat:=cTab.getD r 0
theorem forall_lt_47 {p:Nat->Prop} (h:∀ r∈List.range 47,p r) {r:Nat} (hr:r<47):p r:=h r (List.mem_range.2 hr)
theorem qOf_pos {r:Nat} (hr:r<47):1<=qOf r:=forall_lt_47 (p:=fun r=>1<=qOf r) (by decide) hr
theorem qOf_le {r:Nat} (hr:r<47):qOf r<=0x5601:=forall_lt_47 (p:=fun r=>qOf r<=0x5601) (by decide) hr
theorem mOf_lt {r:Nat} (hr:r<47):mOf r<47:=forall_lt_47 (p:=fun r=>mOf r<47) (by decide) hr
theorem lOf_lt {r:Nat} (hr:r<47):lOf r<47:=forall_lt_47 (p:=fun r=>lOf r<47) (by decide) hr
theorem cOf_le {r:Nat} (hr:r<47):cOf r<=1:=forall_lt_47 (p:=fun r=>cOf r<=1) (by decide) hr
def upM (x:Nat):Nat:=2*mOf (x / 2)+x % 2
def upL (x:Nat):Nat:=2*lOf (x / 2)+(x % 2+cOf (x / 2)) % 2
theorem upM_lt {x:Nat} (hx:x<94):upM x<94:=by have:=mOf_lt (r:=x / 2) (by omega); unfold upM; omega
theorem upL_lt {x:Nat} (hx:x<94):upL x<94:=by have:=lOf_lt (r:=x / 2) (by omega); unfold upL; omega
structure Cod where
 a:Nat
 c:Nat
 t:Nat
 n:Nat
 st:List Nat
 bs:List Nat
 l:Nat
 done:Bool
def newC (n:Nat):Cod:={ a:=0x8000,c:=0,t:=12,n:=0,st:=List.replicate n 0,bs:=[],l:=0,done:=false }
def outTail (s:Cod) (l c:Nat):Cod :=
 if l=255 then { s with bs:=s.bs++[l],l:=c / 1048576 % 256,c:=c % 1048576,t:=7 }
 else { s with bs:=s.bs++[l],l:=c / 524288 % 256,c:=c % 524288,t:=8 }
def outM (s:Cod):Cod:=if s.l≠255/\134217728<=s.c then outTail s (s.l+1) (s.c % 134217728) else outTail s s.l s.c
def shiftM (s:Cod):Cod :=
 let s1:Cod:={ s with a:=2*s.a,c:=2*s.c,t:=s.t-1 }
 if s1.t=0 then outM s1 else s1
def renewM:Nat->Cod->Cod
 | 0,s=>s
 | n+1,s=>let s1:=shiftM s; if 0x8000<=s1.a then s1 else renewM n s1
def putM (s:Cod) (k bit:Nat):Cod :=
 let x:=s.st.getD k 0
 let q:=qOf (x / 2)
 let a:=s.a-q
 if bit=x % 2 then
  if 0x8000<=a then { s with a:=a,c:=s.c+q,n:=s.n+1 }
  else if a<q then renewM 17 { s with a:=q,n:=s.n+1,st:=s.st.set k (upM x) }
  else renewM 17 { s with a:=a,c:=s.c+q,n:=s.n+1,st:=s.st.set k (upM x) }
 else
  if a<q then renewM 17 { s with a:=a,c:=s.c+q,n:=s.n+1,st:=s.st.set k (upL x) }
  else renewM 17 { s with a:=q,n:=s.n+1,st:=s.st.set k (upL x) }
def flushC (s:Cod):Nat:=let c:=s.c / 65536*65536+65535; if s.c+s.a<=c then c-0x8000 else c
def flushS (s:Cod):Cod:=outM { s with c:=s.c*2 ^ s.t }
def flushM (s:Cod):Cod:=flushS (flushS { s with c:=flushC s,done:=true })
def bytesM (s:Cod):List Nat:=let b:=(s.bs++[s.l]).drop 1; if s.l=255 then b.dropLast else b
structure Mid (s:Cod):Prop where
 t1:1<=s.t
 t12:s.t<=12
 ca:s.c+s.a<2 ^ (28-s.t)
 l:s.l<256
 bs:∀ x∈s.bs,x<256
 st:∀ x∈s.st,x<94
structure Wf (s:Cod):Prop extends Mid s where
 len:s.bs.length<=17*s.n
 n:s.n<=16777216
 lo:0x8000<=s.a
 hi:s.a<0x10000
theorem pow_split {t:Nat} (h1:1<=t) (h2:t<=12):2 ^ (28-(t-1))=2*2 ^ (28-t):=by
 have:28-(t-1)=(28-t)+1:=by omega
 rw [this,Nat.pow_succ]; omega
theorem pow_le {t:Nat} (h1:1<=t):2 ^ (28-t)<=134217728:=by
 have:(2:Nat) ^ (28-t)<=2 ^ 27:=Nat.pow_le_pow_right (by omega) (by omega)
 simpa using this
theorem outTail_same (s:Cod) (l c:Nat):(outTail s l c).a=s.a/\(outTail s l c).n=s.n/\(outTail s l c).st=s.st/\(outTail s l c).done=s.done/\(outTail s l c).bs=s.bs++[l]:=by
 unfold outTail; split <;> exact ⟨rfl,rfl,rfl,rfl,rfl⟩
theorem outM_same (s:Cod):(outM s).a=s.a/\(outM s).n=s.n/\(outM s).st=s.st/\(outM s).done=s.done/\(outM s).bs.length=s.bs.length+1:=by
 unfold outM
 split
 ·obtain ⟨h1,h2,h3,h4,h5⟩:=outTail_same s (s.l+1) (s.c % 134217728)
  exact ⟨h1,h2,h3,h4,by rw [h5]; simp⟩
 ·obtain ⟨h1,h2,h3,h4,h5⟩:=outTail_same s s.l s.c
  exact ⟨h1,h2,h3,h4,by rw [h5]; simp⟩
theorem outTail_mid {s:Cod} {l c:Nat} (ha:s.a<0x10000) (hl:l<256) (hbs:∀ x∈s.bs,x<256) (hst:∀ x∈s.st,x<94):Mid (outTail s l c):=by
 have hb:∀ x∈s.bs++[l],x<256:=fun x hx=>by
  rcases List.mem_append.1 hx with h | h
  ·exact hbs x h
  ·rw [List.mem_singleton.1 h]; exact hl
 unfold outTail
 split
 ·refine ⟨by simp,by simp,?_,Nat.mod_lt _ (by omega),hb,hst⟩
  show c % 1048576+s.a<2 ^ 21
  have:=Nat.mod_lt c (show 1048576 > 0 by omega)
  omega
 ·refine ⟨by simp,by simp,?_,Nat.mod_lt _ (by omega),hb,hst⟩
  show c % 524288+s.a<2 ^ 20
  have:=Nat.mod_lt c (show 524288 > 0 by omega)
  omega
theorem outM_mid {s:Cod} (ha:s.a<0x10000) (hl:s.l<256) (hbs:∀ x∈s.bs,x<256) (hst:∀ x∈s.st,x<94):Mid (outM s):=by
 unfold outM
 split
 ·rename_i h; exact outTail_mid ha (by omega) hbs hst
 ·exact outTail_mid ha hl hbs hst
theorem shiftM_mid {s:Cod} (h:Mid s) (ha:s.a<0x8000):Mid (shiftM s)/\(shiftM s).a=2*s.a/\(shiftM s).n=s.n/\(shiftM s).st=s.st/\(shiftM s).done=s.done/\(shiftM s).bs.length<=s.bs.length+1:=by
 have h1:=h.t1
 have h2:=h.t12
 unfold shiftM
 simp only []
 split
 ·rename_i ht
  obtain ⟨e1,e2,e3,e4,e5⟩:=outM_same { s with a:=2*s.a,c:=2*s.c,t:=s.t-1 }
  exact ⟨outM_mid (by show 2*s.a<0x10000; omega) h.l h.bs h.st,e1,e2,e3,e4,by rw [e5]; exact Nat.le_refl _⟩
 ·rename_i ht
  have ht:s.t-1≠0:=ht
  refine ⟨⟨by show 1<=s.t-1; omega,by show s.t-1<=12; omega,?_,h.l,h.bs,h.st⟩,rfl,rfl,rfl,rfl,Nat.le_succ _⟩
  show 2*s.c+2*s.a<2 ^ (28-(s.t-1))
  rw [pow_split h1 h2]
  have:=h.ca
  omega
theorem renewM_mid:∀ (k:Nat) {s:Cod},Mid s->s.a<0x8000->0x8000<=s.a*2 ^ k ->
  Mid (renewM k s)/\0x8000<=(renewM k s).a/\(renewM k s).a<0x10000/\(renewM k s).n=s.n/\(renewM k s).st=s.st/\(renewM k s).done=s.done/\(renewM k s).bs.length<=s.bs.length+k
 | 0,s,h,ha,hk=>by simp at hk; omega
 | k+1,s,h,ha,hk=>by
  obtain ⟨h1,h2,h3,h4,h5,h6⟩:=shiftM_mid h ha
  unfold renewM
  simp only []
  split
  ·rename_i hge
   exact ⟨h1,hge,by omega,h3,h4,h5,by omega⟩
  ·rename_i hlt
   have hk':0x8000<=(shiftM s).a*2 ^ k:=by
    rw [h2]
    rw [Nat.pow_succ] at hk
    have:s.a*(2 ^ k*2)=2*s.a*2 ^ k:=by rw [Nat.mul_comm (2 ^ k) 2,<- Nat.mul_assoc,Nat.mul_comm s.a 2]
    omega
   obtain ⟨g1,g2,g3,g4,g5,g6,g7⟩:=renewM_mid k h1 (by omega) hk'
   exact ⟨g1,g2,g3,g4.trans h3,g5.trans h4,g6.trans h5,by omega⟩
theorem getD_lt {st:List Nat} (h:∀ x∈st,x<94) (k:Nat):st.getD k 0<94:=by
 rw [List.getD_eq_getElem?_getD]
 cases hk:st[k]? with
 | none=>simp
 | some x=>exact h x (List.mem_of_getElem? hk)
theorem set_lt {st:List Nat} (h:∀ x∈st,x<94) {k v:Nat} (hv:v<94):∀ x∈st.set k v,x<94:=fun x hx=>by
 rcases List.mem_or_eq_of_mem_set hx with h1 | h1
 ·exact h x h1
 ·rw [h1]; exact hv
theorem renew_wf {s:Cod} (h:Mid s) (ha:1<=s.a) (ha':s.a<0x8000) (hl:s.bs.length<=17*(s.n-1)) (hn1:1<=s.n) (hn:s.n<=16777216):Wf (renewM 17 s):=by
 obtain ⟨g1,g2,g3,g4,g5,g6,g7⟩:=renewM_mid 17 h ha' (by have:(2:Nat) ^ 17=131072:=rfl; omega)
 exact ⟨g1,by omega,by omega,g2,g3⟩
theorem putM_wf {s:Cod} (h:Wf s) (k bit:Nat) (hn:s.n<16777216):Wf (putM s k bit):=by
 have hx:=getD_lt h.st k
 have hr:s.st.getD k 0 / 2<47:=by omega
 have hq1:=qOf_pos hr
 have hq2:=qOf_le hr
 have hM:=set_lt h.st (k:=k) (upM_lt hx)
 have hL:=set_lt h.st (k:=k) (upL_lt hx)
 have h1:=h.lo
 have h2:=h.hi
 have h3:=h.ca
 have h4:=h.len
 unfold putM
 simp only []
 split
 ·split
  ·exact ⟨⟨h.t1,h.t12,by show s.c+qOf _+(s.a-qOf _)<2 ^ (28-s.t); omega,h.l,h.bs,h.st⟩,by show s.bs.length<=17*(s.n+1); omega,by show s.n+1<=_; omega,by assumption,by show s.a-_<_; omega⟩
  ·split
   ·exact renew_wf ⟨h.t1,h.t12,by show s.c+qOf _<2 ^ (28-s.t); omega,h.l,h.bs,hM⟩ hq1 (by show qOf _<_; omega) (by show s.bs.length<=17*(s.n+1-1); omega) (by show 1<=s.n+1; omega) (by show s.n+1<=_; omega)
   ·exact renew_wf ⟨h.t1,h.t12,by show s.c+qOf _+(s.a-qOf _)<2 ^ (28-s.t); omega,h.l,h.bs,hM⟩ (by show 1<=s.a-qOf _; omega) (by show s.a-qOf _<_; omega) (by show s.bs.length<=17*(s.n+1-1); omega) (by show 1<=s.n+1; omega) (by show s.n+1<=_; omega)
 ·split
  ·exact renew_wf ⟨h.t1,h.t12,by show s.c+qOf _+(s.a-qOf _)<2 ^ (28-s.t); omega,h.l,h.bs,hL⟩ (by show 1<=s.a-qOf _; omega) (by show s.a-qOf _<_; omega) (by show s.bs.length<=17*(s.n+1-1); omega) (by show 1<=s.n+1; omega) (by show s.n+1<=_; omega)
  ·exact renew_wf ⟨h.t1,h.t12,by show s.c+qOf _<2 ^ (28-s.t); omega,h.l,h.bs,hL⟩ hq1 (by show qOf _<_; omega) (by show s.bs.length<=17*(s.n+1-1); omega) (by show 1<=s.n+1; omega) (by show s.n+1<=_; omega)
theorem newC_wf (n:Nat):Wf (newC n) :=
 ⟨⟨by simp [newC],by simp [newC],by simp [newC],by simp [newC],by simp [newC],fun x hx=>by simp only [newC,List.mem_replicate] at hx; omega⟩,by simp [newC],by simp [newC],by simp [newC],by simp [newC]⟩
theorem renewM_st:∀ (k:Nat) (s:Cod),(renewM k s).st=s.st/\(renewM k s).n=s.n/\(renewM k s).done=s.done:=by
 have hs:∀ s:Cod,(shiftM s).st=s.st/\(shiftM s).n=s.n/\(shiftM s).done=s.done:=fun s=>by
  unfold shiftM
  simp only []
  split
  ·obtain ⟨_,e2,e3,e4,_⟩:=outM_same { s with a:=2*s.a,c:=2*s.c,t:=s.t-1 }
   exact ⟨e3,e2,e4⟩
  ·exact ⟨rfl,rfl,rfl⟩
 intro k
 induction k with
 | zero=>intro s; exact ⟨rfl,rfl,rfl⟩
 | succ k ih =>
  intro s
  obtain ⟨h1,h2,h3⟩:=hs s
  unfold renewM
  simp only []
  split
  ·exact ⟨h1,h2,h3⟩
  ·obtain ⟨g1,g2,g3⟩:=ih (shiftM s)
   exact ⟨g1.trans h1,g2.trans h2,g3.trans h3⟩
theorem putM_n (s:Cod) (k bit:Nat):(putM s k bit).n=s.n+1/\(putM s k bit).st.length=s.st.length/\(putM s k bit).done=s.done:=by
 unfold putM
 simp only []
 split
 ·split
  ·exact ⟨rfl,rfl,rfl⟩
  ·split
   ·obtain ⟨h1,h2,h3⟩:=renewM_st 17 { s with a:=qOf (s.st.getD k 0 / 2),n:=s.n+1,st:=s.st.set k (upM (s.st.getD k 0)) }
    exact ⟨h2,by rw [h1]; simp,h3⟩
   ·obtain ⟨h1,h2,h3⟩:=renewM_st 17 { s with a:=s.a-qOf (s.st.getD k 0 / 2),c:=s.c+qOf (s.st.getD k 0 / 2),n:=s.n+1,st:=s.st.set k (upM (s.st.getD k 0)) }
    exact ⟨h2,by rw [h1]; simp,h3⟩
 ·split
  ·obtain ⟨h1,h2,h3⟩:=renewM_st 17 { s with a:=s.a-qOf (s.st.getD k 0 / 2),c:=s.c+qOf (s.st.getD k 0 / 2),n:=s.n+1,st:=s.st.set k (upL (s.st.getD k 0)) }
   exact ⟨h2,by rw [h1]; simp,h3⟩
  ·obtain ⟨h1,h2,h3⟩:=renewM_st 17 { s with a:=qOf (s.st.getD k 0 / 2),n:=s.n+1,st:=s.st.set k (upL (s.st.getD k 0)) }
   exact ⟨h2,by rw [h1]; simp,h3⟩
structure Dec where
 a:Nat
 c:Nat
 t:Nat
 n:Nat
 st:List Nat
 b:List Nat
 i:Nat
def M32:Nat:=4294967296
def byteD (s:Dec) (i:Nat):Nat:=s.b.getD i 255
def inD (s:Dec):Dec :=
 if byteD s s.i≠255 then { s with i:=s.i+1,c:=(s.c+byteD s (s.i+1)*256) % M32,t:=8 }
 else if byteD s (s.i+1) > 143 then { s with c:=(s.c+65280) % M32,t:=8 }
 else { s with i:=s.i+1,c:=(s.c+byteD s (s.i+1)*512) % M32,t:=7 }
def newD (b:List Nat) (n:Nat):Dec :=
 let s:Dec:=inD { a:=0x8000,c:=b.getD 0 255*65536,t:=0,n:=0,st:=List.replicate n 0,b:=b,i:=0 }
 { s with c:=s.c*128 % M32,t:=s.t-7 }
def shiftD (s:Dec):Dec :=
 let s1:=if s.t=0 then inD s else s
 { s1 with a:=2*s1.a,c:=2*s1.c % M32,t:=s1.t-1 }
def renewD:Nat->Dec->Dec
 | 0,s=>s
 | n+1,s=>let s1:=shiftD s; if 0x8000<=s1.a then s1 else renewD n s1
def getD (s:Dec) (k:Nat):Dec × Nat :=
 let x:=s.st.getD k 0
 let q:=qOf (x / 2)
 let a:=s.a-q
 if s.c / 65536<q then
  if a<q then (renewD 17 { s with a:=q,n:=s.n+1,st:=s.st.set k (upM x) },x % 2)
  else (renewD 17 { s with a:=q,n:=s.n+1,st:=s.st.set k (upL x) },1-x % 2)
 else
  let c:=s.c-q*65536
  if 0x8000<=a then ({ s with a:=a,c:=c,n:=s.n+1 },x % 2)
  else if a<q then (renewD 17 { s with a:=a,c:=c,n:=s.n+1,st:=s.st.set k (upL x) },1-x % 2)
  else (renewD 17 { s with a:=a,c:=c,n:=s.n+1,st:=s.st.set k (upM x) },x % 2)
structure MidD (s:Dec):Prop where
 t8:s.t<=8
 c:s.c<M32
 b:∀ x∈s.b,x<256
 st:∀ x∈s.st,x<94
 i:s.i<=s.b.length
structure WfD (s:Dec):Prop extends MidD s where
 n:s.n<=16777216
 lo:0x8000<=s.a
 hi:s.a<0x10000
theorem byteD_lt {s:Dec} (h:∀ x∈s.b,x<256) (i:Nat):byteD s i<256:=by
 unfold byteD
 rw [List.getD_eq_getElem?_getD]
 cases hk:s.b[i]? with
 | none=>simp
 | some x=>exact h x (List.mem_of_getElem? hk)
theorem byteD_ne {s:Dec} {i:Nat} (h:byteD s i≠255):i<s.b.length:=by
 unfold byteD at h
 rw [List.getD_eq_getElem?_getD] at h
 rcases Nat.lt_or_ge i s.b.length with h1 | h1
 ·exact h1
 ·rw [List.getElem?_eq_none h1] at h; simp at h
theorem inD_mid {s:Dec} (h:MidD s):MidD (inD s)/\(inD s).a=s.a/\(inD s).n=s.n/\(inD s).st=s.st/\(inD s).b=s.b/\1<=(inD s).t:=by
 have hm:∀ x,x % M32<M32:=fun x=>Nat.mod_lt _ (by decide)
 unfold inD
 split
 ·rename_i h1
  have:=byteD_ne h1
  exact ⟨⟨by simp,hm _,h.b,h.st,by show s.i+1<=s.b.length; omega⟩,rfl,rfl,rfl,rfl,by simp⟩
 ·split
  ·exact ⟨⟨by simp,hm _,h.b,h.st,h.i⟩,rfl,rfl,rfl,rfl,by simp⟩
  ·rename_i h2
   have:s.i+1<s.b.length:=byteD_ne (s:=s) (by omega)
   exact ⟨⟨by simp,hm _,h.b,h.st,by show s.i+1<=s.b.length; omega⟩,rfl,rfl,rfl,rfl,by simp⟩
theorem shiftD_mid {s:Dec} (h:MidD s):MidD (shiftD s)/\(shiftD s).a=2*s.a/\(shiftD s).n=s.n/\(shiftD s).st=s.st/\(shiftD s).b=s.b:=by
 have hm:∀ x,x % M32<M32:=fun x=>Nat.mod_lt _ (by decide)
 unfold shiftD
 simp only []
 split
 ·obtain ⟨h1,h2,h3,h4,h5,h6⟩:=inD_mid h
  exact ⟨⟨by show (inD s).t-1<=8; have:=h1.t8; omega,hm _,by rw [show ({ inD s with a:=2*(inD s).a,c:=2*(inD s).c % M32,t:=(inD s).t-1 }:Dec).b=(inD s).b from rfl]; exact h1.b,h1.st,h1.i⟩,by show 2*(inD s).a=_; rw [h2],h3,h4,h5⟩
 ·exact ⟨⟨by show s.t-1<=8; have:=h.t8; omega,hm _,h.b,h.st,h.i⟩,rfl,rfl,rfl,rfl⟩
theorem renewD_mid:∀ (k:Nat) {s:Dec},MidD s->s.a<0x8000->0x8000<=s.a*2 ^ k ->
  MidD (renewD k s)/\0x8000<=(renewD k s).a/\(renewD k s).a<0x10000/\(renewD k s).n=s.n/\(renewD k s).st=s.st/\(renewD k s).b=s.b
 | 0,s,h,ha,hk=>by simp at hk; omega
 | k+1,s,h,ha,hk=>by
  obtain ⟨h1,h2,h3,h4,h5⟩:=shiftD_mid h
  unfold renewD
  simp only []
  split
  ·rename_i hge
   exact ⟨h1,hge,by omega,h3,h4,h5⟩
  ·rename_i hlt
   have hk':0x8000<=(shiftD s).a*2 ^ k:=by
    rw [h2]
    rw [Nat.pow_succ] at hk
    have:s.a*(2 ^ k*2)=2*s.a*2 ^ k:=by rw [Nat.mul_comm (2 ^ k) 2,<- Nat.mul_assoc,Nat.mul_comm s.a 2]
    omega
   obtain ⟨g1,g2,g3,g4,g5,g6⟩:=renewD_mid k h1 (by omega) hk'
   exact ⟨g1,g2,g3,g4.trans h3,g5.trans h4,g6.trans h5⟩
theorem renewD_wf {s:Dec} (h:MidD s) (ha:1<=s.a) (ha':s.a<0x8000) (hn:s.n<=16777216):WfD (renewD 17 s):=by
 obtain ⟨g1,g2,g3,g4,g5,g6⟩:=renewD_mid 17 h ha' (by have:(2:Nat) ^ 17=131072:=rfl; omega)
 exact ⟨g1,by omega,g2,g3⟩
theorem getD_wf {s:Dec} (h:WfD s) (k:Nat) (hn:s.n<16777216):WfD (getD s k).1:=by
 have hx:=getD_lt h.st k
 have hr:s.st.getD k 0 / 2<47:=by omega
 have hq1:=qOf_pos hr
 have hq2:=qOf_le hr
 have hM:=set_lt h.st (k:=k) (upM_lt hx)
 have hL:=set_lt h.st (k:=k) (upL_lt hx)
 have h1:=h.lo
 have h2:=h.hi
 have h3:=h.c
 have hc:∀ q,s.c-q*65536<M32:=fun q=>Nat.lt_of_le_of_lt (Nat.sub_le _ _) h3
 unfold getD
 simp only []
 split
 ·split
  ·exact renewD_wf ⟨h.t8,h3,h.b,hM,h.i⟩ hq1 (by show qOf _<_; omega) (by show s.n+1<=_; omega)
  ·exact renewD_wf ⟨h.t8,h3,h.b,hL,h.i⟩ hq1 (by show qOf _<_; omega) (by show s.n+1<=_; omega)
 ·split
  ·exact ⟨⟨h.t8,hc _,h.b,h.st,h.i⟩,by show s.n+1<=_; omega,by assumption,by show s.a-_<_; omega⟩
  ·split
   ·exact renewD_wf ⟨h.t8,hc _,h.b,hL,h.i⟩ (by show 1<=s.a-qOf _; omega) (by show s.a-qOf _<_; omega) (by show s.n+1<=_; omega)
   ·exact renewD_wf ⟨h.t8,hc _,h.b,hM,h.i⟩ (by show 1<=s.a-qOf _; omega) (by show s.a-qOf _<_; omega) (by show s.n+1<=_; omega)
end Go.Ar
namespace Go.Den.YtfaclehehhgpcaaGreat
open Go Go.Den
def arith_New (C:CallP) (contexts:Int) (h:Heap) (K:VK) (Kp:PK):Prop :=
C F_arith_made #[.int .i64 contexts] h (fun v_1 h_2 =>
∃ (cs_3:List Value),cs_3.length=190/\∃ (r_4:Bool),v_1 = .tuple #[.agg (cs_3).toArray, .bool r_4]/\(
newC h_2 Z_arith_table T_arith_table fun r_5 h_6 =>
needs ((cs_3).length=190)<|stVs h_6 (⟨r_5,0,none⟩:Addr) 0 (cs_3) fun h_7 =>
bcase (!r_4) (
K (.tuple #[.pointer none, .int .i64 40]) h_7) <|
ldAll h_7 (⟨r_5,0,none⟩:Addr) 190 fun cs_8 =>
newC h_7 [.int .u8 0] T_uint8 fun r_9 h_10 =>
needs ((cs_8).length=190/\0+190<=(Z_arith_Coder).length) <|
needs ((([.int .u32 32768]:List Value)).length=1/\190+1<=((putL Z_arith_Coder 0 cs_8)).length) <|
needs ((([.int .i64 12]:List Value)).length=1/\192+1<=((putL (putL Z_arith_Coder 0 cs_8) 190 ([.int .u32 32768]:List Value))).length) <|
needs ((([.slice (some ⟨r_9,0,none⟩) 1 1]:List Value)).length=1/\193+1<=((putL (putL (putL Z_arith_Coder 0 cs_8) 190 ([.int .u32 32768]:List Value)) 192 ([.int .i64 12]:List Value))).length) <|
newC h_10 ((putL (putL (putL (putL Z_arith_Coder 0 cs_8) 190 ([.int .u32 32768]:List Value)) 192 ([.int .i64 12]:List Value)) 193 ([.slice (some ⟨r_9,0,none⟩) 1 1]:List Value))) T_arith_Coder fun r_11 h_12 =>
K (.tuple #[.pointer (some ⟨r_11,0,none⟩), .int .i64 0]) h_12)) (Kp)
def arith_Coder_Flush (C:CallP) (a0:Option Addr) (h:Heap) (K:VK) (Kp:PK):Prop :=
ptr a0 fun a_1 =>
ldB h (a_1.add 194) fun x_2 =>
bcase x_2 (
K (.tuple #[.slice none 0 0, .int .i64 43]) h) <|
ptr a0 fun a_3 =>
stV h (a_3.add 194) (.bool true) fun h_4 =>
ptr a0 fun a_5 =>
ptr a0 fun a_6 =>
ldI h_4 (a_5.add 191) .u32 fun x_7 =>
ldI h_4 (a_6.add 190) .u32 fun x_8 =>
bindI (IntKind.u32.wrap (x_7+x_8)) fun z_9 =>
∃ K_10:List Value->Heap->Prop,(
ptr a0 fun a_13 =>
ldI h_4 (a_13.add 191) .u32 fun x_14 =>
bindI (bitI .or .u32 x_14 (65535:Int)) fun z_15 =>
ptr a0 fun a_16 =>
stV h_4 (a_16.add 191) (.int .u32 z_15) fun h_17 =>
ptr a0 fun a_18 =>
ldI h_17 (a_18.add 191) .u32 fun x_19 =>
bcase (decide (x_19≥z_9)) (
ptr a0 fun a_20 =>
ldI h_17 (a_20.add 191) .u32 fun x_21 =>
bindI (IntKind.u32.wrap (x_21-(32768:Int))) fun z_22 =>
ptr a0 fun a_23 =>
stV h_17 (a_23.add 191) (.int .u32 z_22) fun h_24 =>
K_10 [] h_24) <|
K_10 [] h_17)/\∀ (h_11:Heap) (u_12:Nat->Value) ,K_10 [] h_11->(
∃ J_25:Nat->List Value->Heap->Prop,(∃ n_27,J_25 n_27 [.int .i64 0] h_11)/\∀ (n_27:Nat) (h_28:Heap) (u_29:Nat->Value) (x_30:Int),J_25 n_27 [.int .i64 x_30] h_28->(
bcase (decide (x_30<(2:Int))) (
ptr a0 fun a_31 =>
ptr a0 fun a_32 =>
ldI h_28 (a_31.add 191) .u32 fun x_33 =>
ldI h_28 (a_32.add 192) .i64 fun x_34 =>
needs (0<=x_34) <|
bindI (shlI .u32 x_33 x_34) fun z_35 =>
ptr a0 fun a_36 =>
stV h_28 (a_36.add 191) (.int .u32 z_35) fun h_37 =>
C F_arith_Coder_out #[.pointer a0] h_37 (fun v_38 h_39 =>
bindI (IntKind.i64.wrap (x_30+(1:Int))) fun z_40 =>
∃ m_26,m_26<n_27/\J_25 m_26 [.int .i64 z_40] h_39) (Kp)) <|
ptr a0 fun a_41 =>
ldS h_28 (a_41.add 193) fun x_42 x_42n x_42c =>
needs (0<=(1:Int)/\(1:Int)<=((x_42n:Nat):Int)) <|
bindI (IntKind.i64.wrap ((((x_42n-(1:Int).toNat):Nat):Int)-(1:Int))) fun z_43 =>
needs (0<=z_43/\z_43<(((x_42n-(1:Int).toNat):Nat):Int)) <|
ptr (subA x_42 (x_42c) ((1:Int).toNat) 1) fun a_44 =>
ldI h_28 (a_44.add (z_43.toNat*1)) .u8 fun x_45 =>
bcase (x_45 == (255:Int)) (
bindI (IntKind.i64.wrap ((((x_42n-(1:Int).toNat):Nat):Int)-(1:Int))) fun z_46 =>
needs (0<=z_46/\z_46<=(((x_42c-(1:Int).toNat):Nat):Int)) <|
appC h_28 T_uint8 1 1 [.int .u8 0] none (0) (0) (subA (subA x_42 (x_42c) ((1:Int).toNat) 1) ((x_42c-(1:Int).toNat)) (0) 1) ((z_46.toNat-0)) fun q_47 q_47n q_47c h_48 =>
K (.tuple #[.slice q_47 q_47n q_47c, .int .i64 0]) h_48) <|
appC h_28 T_uint8 1 1 [.int .u8 0] none (0) (0) (subA x_42 (x_42c) ((1:Int).toNat) 1) ((x_42n-(1:Int).toNat)) fun q_49 q_49n q_49c h_50 =>
K (.tuple #[.slice q_49 q_49n q_49c, .int .i64 0]) h_50))
def arith_NewDecoder (C:CallP) (b:Option Addr) (bn:Nat) (bc:Nat) (contexts:Int) (h:Heap) (K:VK) (Kp:PK):Prop :=
C F_arith_made #[.int .i64 contexts] h (fun v_1 h_2 =>
∃ (cs_3:List Value),cs_3.length=190/\∃ (r_4:Bool),v_1 = .tuple #[.agg (cs_3).toArray, .bool r_4]/\(
newC h_2 Z_arith_table T_arith_table fun r_5 h_6 =>
needs ((cs_3).length=190)<|stVs h_6 (⟨r_5,0,none⟩:Addr) 0 (cs_3) fun h_7 =>
bcase (!r_4) (
K (.tuple #[.pointer none, .int .i64 40]) h_7) <|
ldAll h_7 (⟨r_5,0,none⟩:Addr) 190 fun cs_8 =>
appC h_7 T_uint8 1 1 [.int .u8 0] none (0) (0) b (bn) fun q_9 q_9n q_9c h_10 =>
hext h_7 h_10/\(
needs ((cs_8).length=190/\0+190<=(Z_arith_Decoder).length) <|
needs ((([.int .u32 32768]:List Value)).length=1/\190+1<=((putL Z_arith_Decoder 0 cs_8)).length) <|
needs ((([.slice q_9 q_9n q_9c]:List Value)).length=1/\193+1<=((putL (putL Z_arith_Decoder 0 cs_8) 190 ([.int .u32 32768]:List Value))).length) <|
newC h_10 ((putL (putL (putL Z_arith_Decoder 0 cs_8) 190 ([.int .u32 32768]:List Value)) 193 ([.slice q_9 q_9n q_9c]:List Value))) T_arith_Decoder fun r_11 h_12 =>
C F_arith_Decoder_byte #[.pointer (some ⟨r_11,0,none⟩), .int .i64 0] h_12 (fun v_13 h_14 =>
∃ (r_15:Int),v_13 = .int .u32 r_15/\(
bindI (shlI .u32 r_15 (16:Int)) fun z_16 =>
stV h_14 ((⟨r_11,0,none⟩:Addr).add 191) (.int .u32 z_16) fun h_17 =>
C F_arith_Decoder_in #[.pointer (some ⟨r_11,0,none⟩)] h_17 (fun v_18 h_19 =>
ldI h_19 ((⟨r_11,0,none⟩:Addr).add 191) .u32 fun x_20 =>
bindI (shlI .u32 x_20 (7:Int)) fun z_21 =>
stV h_19 ((⟨r_11,0,none⟩:Addr).add 191) (.int .u32 z_21) fun h_22 =>
ldI h_22 ((⟨r_11,0,none⟩:Addr).add 192) .i64 fun x_23 =>
bindI (IntKind.i64.wrap (x_23-(7:Int))) fun z_24 =>
stV h_22 ((⟨r_11,0,none⟩:Addr).add 192) (.int .i64 z_24) fun h_25 =>
K (.tuple #[.pointer (some ⟨r_11,0,none⟩), .int .i64 0]) h_25) (Kp))) (Kp)))) (Kp)
def arith_made (C:CallP) (contexts:Int) (h:Heap) (K:VK) (Kp:PK):Prop :=
newC h Z_arith_table T_arith_table fun r_1 h_2 =>
bcase (decide (contexts<(1:Int))) (
stVs h_2 (⟨r_1,0,none⟩:Addr) 0 [.int .u32 0, .int .u8 0, .int .u8 0, .int .u8 0, .int .u32 0, .int .u8 0, .int .u8 0, .int .u8 0, .int .u32 0, .int .u8 0, .int .u8 0, .int .u8 0, .int .u32 0, .int .u8 0, .int .u8 0, .int .u8 0, .int .u32 0, .int .u8 0, .int .u8 0, .int .u8 0, .int .u32 0, .int .u8 0, .int .u8 0, .int .u8 0, .int .u32 0, .int .u8 0, .int .u8 0, .int .u8 0, .int .u32 0, .int .u8 0, .int .u8 0, .int .u8 0, .int .u32 0, .int .u8 0, .int .u8 0, .int .u8 0, .int .u32 0, .int .u8 0, .int .u8 0, .int .u8 0, .int .u32 0, .int .u8 0, .int .u8 0, .int .u8 0, .int .u32 0, .int .u8 0, .int .u8 0, .int .u8 0, .int .u32 0, .int .u8 0, .int .u8 0, .int .u8 0, .int .u32 0, .int .u8 0, .int .u8 0, .int .u8 0, .int .u32 0, .int .u8 0, .int .u8 0, .int .u8 0, .int .u32 0, .int .u8 0, .int .u8 0, .int .u8 0, .int .u32 0, .int .u8 0, .int .u8 0, .int .u8 0, .int .u32 0, .int .u8 0, .int .u8 0, .int .u8 0, .int .u32 0, .int .u8 0, .int .u8 0, .int .u8 0, .int .u32 0, .int .u8 0, .int .u8 0, .int .u8 0, .int .u32 0, .int .u8 0, .int .u8 0, .int .u8 0, .int .u32 0, .int .u8 0, .int .u8 0, .int .u8 0, .int .u32 0, .int .u8 0, .int .u8 0, .int .u8 0, .int .u32 0, .int .u8 0, .int .u8 0, .int .u8 0, .int .u32 0, .int .u8 0, .int .u8 0, .int .u8 0, .int .u32 0, .int .u8 0, .int .u8 0, .int .u8 0, .int .u32 0, .int .u8 0, .int .u8 0, .int .u8 0, .int .u32 0, .int .u8 0, .int .u8 0, .int .u8 0, .int .u32 0, .int .u8 0, .int .u8 0, .int .u8 0, .int .u32 0, .int .u8 0, .int .u8 0, .int .u8 0, .int .u32 0, .int .u8 0, .int .u8 0, .int .u8 0, .int .u32 0, .int .u8 0, .int .u8 0, .int .u8 0, .int .u32 0, .int .u8 0, .int .u8 0, .int .u8 0, .int .u32 0, .int .u8 0, .int .u8 0, .int .u8 0, .int .u32 0, .int .u8 0, .int .u8 0, .int .u8 0, .int .u32 0, .int .u8 0, .int .u8 0, .int .u8 0, .int .u32 0, .int .u8 0, .int .u8 0, .int .u8 0, .int .u32 0, .int .u8 0, .int .u8 0, .int .u8 0, .int .u32 0, .int .u8 0, .int .u8 0, .int .u8 0, .int .u32 0, .int .u8 0, .int .u8 0, .int .u8 0, .int .u32 0, .int .u8 0, .int .u8 0, .int .u8 0, .int .u32 0, .int .u8 0, .int .u8 0, .int .u8 0, .int .u32 0, .int .u8 0, .int .u8 0, .int .u8 0, .int .u32 0, .int .u8 0, .int .u8 0, .int .u8 0, .int .u32 0, .int .u8 0, .int .u8 0, .int .u8 0, .int .u32 0, .int .u8 0, .int .u8 0, .int .u8 0, .int .u32 0, .int .u8 0, .int .u8 0, .int .u8 0, .slice none 0 0, .int .i64 0] fun h_3 =>
ldAll h_3 (⟨r_1,0,none⟩:Addr) 190 fun cs_4 =>
K (.tuple #[.agg (cs_4).toArray, .bool false]) h_3) <|
bcase (decide (contexts > (131072:Int))) (
stVs h_2 (⟨r_1,0,none⟩:Addr) 0 [.int .u32 0, .int .u8 0, .int .u8 0, .int .u8 0, .int .u32 0, .int .u8 0, .int .u8 0, .int .u8 0, .int .u32 0, .int .u8 0, .int .u8 0, .int .u8 0, .int .u32 0, .int .u8 0, .int .u8 0, .int .u8 0, .int .u32 0, .int .u8 0, .int .u8 0, .int .u8 0, .int .u32 0, .int .u8 0, .int .u8 0, .int .u8 0, .int .u32 0, .int .u8 0, .int .u8 0, .int .u8 0, .int .u32 0, .int .u8 0, .int .u8 0, .int .u8 0, .int .u32 0, .int .u8 0, .int .u8 0, .int .u8 0, .int .u32 0, .int .u8 0, .int .u8 0, .int .u8 0, .int .u32 0, .int .u8 0, .int .u8 0, .int .u8 0, .int .u32 0, .int .u8 0, .int .u8 0, .int .u8 0, .int .u32 0, .int .u8 0, .int .u8 0, .int .u8 0, .int .u32 0, .int .u8 0, .int .u8 0, .int .u8 0, .int .u32 0, .int .u8 0, .int .u8 0, .int .u8 0, .int .u32 0, .int .u8 0, .int .u8 0, .int .u8 0, .int .u32 0, .int .u8 0, .int .u8 0, .int .u8 0, .int .u32 0, .int .u8 0, .int .u8 0, .int .u8 0, .int .u32 0, .int .u8 0, .int .u8 0, .int .u8 0, .int .u32 0, .int .u8 0, .int .u8 0, .int .u8 0, .int .u32 0, .int .u8 0, .int .u8 0, .int .u8 0, .int .u32 0, .int .u8 0, .int .u8 0, .int .u8 0, .int .u32 0, .int .u8 0, .int .u8 0, .int .u8 0, .int .u32 0, .int .u8 0, .int .u8 0, .int .u8 0, .int .u32 0, .int .u8 0, .int .u8 0, .int .u8 0, .int .u32 0, .int .u8 0, .int .u8 0, .int .u8 0, .int .u32 0, .int .u8 0, .int .u8 0, .int .u8 0, .int .u32 0, .int .u8 0, .int .u8 0, .int .u8 0, .int .u32 0, .int .u8 0, .int .u8 0, .int .u8 0, .int .u32 0, .int .u8 0, .int .u8 0, .int .u8 0, .int .u32 0, .int .u8 0, .int .u8 0, .int .u8 0, .int .u32 0, .int .u8 0, .int .u8 0, .int .u8 0, .int .u32 0, .int .u8 0, .int .u8 0, .int .u8 0, .int .u32 0, .int .u8 0, .int .u8 0, .int .u8 0, .int .u32 0, .int .u8 0, .int .u8 0, .int .u8 0, .int .u32 0, .int .u8 0, .int .u8 0, .int .u8 0, .int .u32 0, .int .u8 0, .int .u8 0, .int .u8 0, .int .u32 0, .int .u8 0, .int .u8 0, .int .u8 0, .int .u32 0, .int .u8 0, .int .u8 0, .int .u8 0, .int .u32 0, .int .u8 0, .int .u8 0, .int .u8 0, .int .u32 0, .int .u8 0, .int .u8 0, .int .u8 0, .int .u32 0, .int .u8 0, .int .u8 0, .int .u8 0, .int .u32 0, .int .u8 0, .int .u8 0, .int .u8 0, .int .u32 0, .int .u8 0, .int .u8 0, .int .u8 0, .int .u32 0, .int .u8 0, .int .u8 0, .int .u8 0, .int .u32 0, .int .u8 0, .int .u8 0, .int .u8 0, .int .u32 0, .int .u8 0, .int .u8 0, .int .u8 0, .slice none 0 0, .int .i64 0] fun h_5 =>
ldAll h_5 (⟨r_1,0,none⟩:Addr) 190 fun cs_6 =>
K (.tuple #[.agg (cs_6).toArray, .bool false]) h_5) <|
(
C F_arith_rows #[] h_2 (fun v_7 h_8 =>
∃ (cs_9:List Value),cs_9.length=188/\v_7 = .agg (cs_9).toArray/\(
hext h_2 h_8/\(
needs (0<=contexts/\contexts<=contexts/\contexts<=9223372036854775807/\((1:Nat):Int)*contexts<=281474976710656) <|
newC h_8 (repZ [.int .u8 0] contexts.toNat) T_uint8 fun r_10 h_11 =>
needs ((cs_9).length=188/\0+188<=(Z_arith_table).length) <|
needs ((([.slice (some ⟨r_10,0,none⟩) contexts.toNat contexts.toNat]:List Value)).length=1/\188+1<=((putL Z_arith_table 0 cs_9)).length) <|
needs (((putL (putL Z_arith_table 0 cs_9) 188 ([.slice (some ⟨r_10,0,none⟩) contexts.toNat contexts.toNat]:List Value))).length=190)<|stVs h_11 (⟨r_1,0,none⟩:Addr) 0 ((putL (putL Z_arith_table 0 cs_9) 188 ([.slice (some ⟨r_10,0,none⟩) contexts.toNat contexts.toNat]:List Value))) fun h_12 =>
ldAll h_12 (⟨r_1,0,none⟩:Addr) 190 fun cs_13 =>
K (.tuple #[.agg (cs_13).toArray, .bool true]) h_12))) (Kp))/\(
needs (0<=contexts/\contexts<=contexts/\contexts<=9223372036854775807/\((1:Nat):Int)*contexts<=281474976710656) <|
newC h_2 (repZ [.int .u8 0] contexts.toNat) T_uint8 fun r_14 h_15 =>
C F_arith_rows #[] h_15 (fun v_16 h_17 =>
∃ (cs_18:List Value),cs_18.length=188/\v_16 = .agg (cs_18).toArray/\(
hext h_15 h_17/\(
needs ((cs_18).length=188/\0+188<=(Z_arith_table).length) <|
needs ((([.slice (some ⟨r_14,0,none⟩) contexts.toNat contexts.toNat]:List Value)).length=1/\188+1<=((putL Z_arith_table 0 cs_18)).length) <|
needs (((putL (putL Z_arith_table 0 cs_18) 188 ([.slice (some ⟨r_14,0,none⟩) contexts.toNat contexts.toNat]:List Value))).length=190)<|stVs h_17 (⟨r_1,0,none⟩:Addr) 0 ((putL (putL Z_arith_table 0 cs_18) 188 ([.slice (some ⟨r_14,0,none⟩) contexts.toNat contexts.toNat]:List Value))) fun h_19 =>
ldAll h_19 (⟨r_1,0,none⟩:Addr) 190 fun cs_20 =>
K (.tuple #[.agg (cs_20).toArray, .bool true]) h_19))) (Kp))
def arith_Coder_out (C:CallP) (a0:Option Addr) (h:Heap) (K:VK) (Kp:PK):Prop :=
ptr a0 fun a_1 =>
ptr a0 fun a_2 =>
ldS h (a_1.add 193) fun x_3 x_3n x_3c =>
ldS h (a_2.add 193) fun x_4 x_4n x_4c =>
bindI (IntKind.i64.wrap ((x_4n:Int)-(1:Int))) fun z_5 =>
needs (0<=z_5/\z_5<(x_3n:Int)) <|
ptr x_3 fun a_6 =>
∃ K_7:List Value->Heap->Prop,(
∃ K_10:List Value->Heap->Prop,(
ldI h (a_6.add (z_5.toNat*1)) .u8 fun x_13 =>
bcase (x_13 != (255:Int)) (
ptr a0 fun a_14 =>
ldI h (a_14.add 191) .u32 fun x_15 =>
K_10 [.bool (decide (x_15≥(134217728:Int)))] h) <|
K_10 [.bool false] h)/\∀ (h_11:Heap) (u_12:Nat->Value) (x_16:Bool),K_10 [.bool x_16] h_11->(
bcase x_16 (
ldI h_11 (a_6.add (z_5.toNat*1)) .u8 fun x_17 =>
bindI (IntKind.u8.wrap (x_17+(1:Int))) fun z_18 =>
stV h_11 (a_6.add (z_5.toNat*1)) (.int .u8 z_18) fun h_19 =>
ptr a0 fun a_20 =>
ldI h_19 (a_20.add 191) .u32 fun x_21 =>
bindI (bitI .and .u32 x_21 (134217727:Int)) fun z_22 =>
ptr a0 fun a_23 =>
stV h_19 (a_23.add 191) (.int .u32 z_22) fun h_24 =>
K_7 [] h_24) <|
K_7 [] h_11))/\∀ (h_8:Heap) (u_9:Nat->Value) ,K_7 [] h_8->(
∃ K_25:List Value->Heap->Prop,(
ldI h_8 (a_6.add (z_5.toNat*1)) .u8 fun x_28 =>
bcase (x_28 != (255:Int)) (
bindI (IntKind.i64.wrap ((20:Int)-(1:Int))) fun z_29 =>
K_25 [.int .i64 z_29] h_8) <|
K_25 [.int .i64 20] h_8)/\∀ (h_26:Heap) (u_27:Nat->Value) (x_30:Int),K_25 [.int .i64 x_30] h_26->(
ptr a0 fun a_31 =>
ptr a0 fun a_32 =>
ldS h_26 (a_31.add 193) fun x_33 x_33n x_33c =>
ldI h_26 (a_32.add 191) .u32 fun x_34 =>
needs (0<=x_30) <|
bindI (shrI .u32 x_34 x_30) fun z_35 =>
bindI (IntKind.u8.wrap z_35) fun z_36 =>
newC h_26 [.int .u8 z_36] T_uint8 fun r_37 h_38 =>
appC h_38 T_uint8 1 1 [.int .u8 0] x_33 (x_33n) (x_33c) (some ⟨r_37,0,none⟩) (1) fun q_39 q_39n q_39c h_40 =>
ptr a0 fun a_41 =>
stV h_40 (a_41.add 193) (.slice q_39 q_39n q_39c) fun h_42 =>
ptr a0 fun a_43 =>
needs (0<=x_30) <|
bindI (shlI .u32 (1:Int) x_30) fun z_44 =>
bindI (IntKind.u32.wrap (z_44-(1:Int))) fun z_45 =>
ldI h_42 (a_43.add 191) .u32 fun x_46 =>
bindI (bitI .and .u32 x_46 z_45) fun z_47 =>
ptr a0 fun a_48 =>
stV h_42 (a_48.add 191) (.int .u32 z_47) fun h_49 =>
bindI (IntKind.i64.wrap ((27:Int)-x_30)) fun z_50 =>
ptr a0 fun a_51 =>
stV h_49 (a_51.add 192) (.int .i64 z_50) fun h_52 =>
K (.tuple #[]) h_52))
def arith_Decoder_byte (C:CallP) (d:Option Addr) (i:Int) (h:Heap) (K:VK) (Kp:PK):Prop :=
ptr d fun a_1 =>
ldS h (a_1.add 193) fun x_2 x_2n x_2c =>
bcase (decide (i<(x_2n:Int))) (
ptr d fun a_3 =>
ldS h (a_3.add 193) fun x_4 x_4n x_4c =>
needs (0<=i/\i<(x_4n:Int)) <|
ptr x_4 fun a_5 =>
ldI h (a_5.add (i.toNat*1)) .u8 fun x_6 =>
bindI (IntKind.u32.wrap x_6) fun z_7 =>
K (.int .u32 z_7) h) <|
K (.int .u32 255) h
def arith_Decoder_in (C:CallP) (a0:Option Addr) (h:Heap) (K:VK) (Kp:PK):Prop :=
ptr a0 fun a_1 =>
ldI h (a_1.add 194) .i64 fun x_2 =>
C F_arith_Decoder_byte #[.pointer a0, .int .i64 x_2] h (fun v_3 h_4 =>
∃ (r_5:Int),v_3 = .int .u32 r_5/\(
bcase (r_5 != (255:Int)) (
ptr a0 fun a_6 =>
ldI h_4 (a_6.add 194) .i64 fun x_7 =>
bindI (IntKind.i64.wrap (x_7+(1:Int))) fun z_8 =>
ptr a0 fun a_9 =>
stV h_4 (a_9.add 194) (.int .i64 z_8) fun h_10 =>
ptr a0 fun a_11 =>
ptr a0 fun a_12 =>
ldI h_10 (a_11.add 191) .u32 fun x_13 =>
ldI h_10 (a_12.add 194) .i64 fun x_14 =>
C F_arith_Decoder_byte #[.pointer a0, .int .i64 x_14] h_10 (fun v_15 h_16 =>
∃ (r_17:Int),v_15 = .int .u32 r_17/\(
hext h_10 h_16/\(
bindI (shlI .u32 r_17 (8:Int)) fun z_18 =>
bindI (IntKind.u32.wrap (x_13+z_18)) fun z_19 =>
ptr a0 fun a_20 =>
stV h_16 (a_20.add 191) (.int .u32 z_19) fun h_21 =>
ptr a0 fun a_22 =>
stV h_21 (a_22.add 192) (.int .i64 8) fun h_23 =>
K (.tuple #[]) h_23))) (Kp)) <|
ptr a0 fun a_24 =>
ldI h_4 (a_24.add 194) .i64 fun x_25 =>
bindI (IntKind.i64.wrap (x_25+(1:Int))) fun z_26 =>
C F_arith_Decoder_byte #[.pointer a0, .int .i64 z_26] h_4 (fun v_27 h_28 =>
∃ (r_29:Int),v_27 = .int .u32 r_29/\(
bcase (decide (r_29 > (143:Int))) (
ptr a0 fun a_30 =>
ldI h_28 (a_30.add 191) .u32 fun x_31 =>
bindI (IntKind.u32.wrap (x_31+(65280:Int))) fun z_32 =>
ptr a0 fun a_33 =>
stV h_28 (a_33.add 191) (.int .u32 z_32) fun h_34 =>
ptr a0 fun a_35 =>
stV h_34 (a_35.add 192) (.int .i64 8) fun h_36 =>
K (.tuple #[]) h_36) <|
ptr a0 fun a_37 =>
ldI h_28 (a_37.add 194) .i64 fun x_38 =>
bindI (IntKind.i64.wrap (x_38+(1:Int))) fun z_39 =>
ptr a0 fun a_40 =>
stV h_28 (a_40.add 194) (.int .i64 z_39) fun h_41 =>
ptr a0 fun a_42 =>
ptr a0 fun a_43 =>
ldI h_41 (a_42.add 191) .u32 fun x_44 =>
ldI h_41 (a_43.add 194) .i64 fun x_45 =>
C F_arith_Decoder_byte #[.pointer a0, .int .i64 x_45] h_41 (fun v_46 h_47 =>
∃ (r_48:Int),v_46 = .int .u32 r_48/\(
hext h_41 h_47/\(
bindI (shlI .u32 r_48 (9:Int)) fun z_49 =>
bindI (IntKind.u32.wrap (x_44+z_49)) fun z_50 =>
ptr a0 fun a_51 =>
stV h_47 (a_51.add 191) (.int .u32 z_50) fun h_52 =>
ptr a0 fun a_53 =>
stV h_52 (a_53.add 192) (.int .i64 7) fun h_54 =>
K (.tuple #[]) h_54))) (Kp))) (Kp))) (Kp)
def arith_table_Contexts (C:CallP) (t:Option Addr) (h:Heap) (K:VK) (Kp:PK):Prop :=
ptr t fun a_1 =>
ldS h (a_1.add 188) fun x_2 x_2n x_2c =>
K (.int .i64 (x_2n:Int)) h
def arith_rows (C:CallP)  (h:Heap) (K:VK) (Kp:PK):Prop :=
newC h Z_47_arith_row T_47_arith_row fun r_1 h_2 =>
stVs h_2 (⟨r_1,0,none⟩:Addr) 0 [.int .u32 22017, .int .u8 1, .int .u8 1, .int .u8 1, .int .u32 13313, .int .u8 2, .int .u8 6, .int .u8 0, .int .u32 6145, .int .u8 3, .int .u8 9, .int .u8 0, .int .u32 2753, .int .u8 4, .int .u8 12, .int .u8 0, .int .u32 1313, .int .u8 5, .int .u8 29, .int .u8 0, .int .u32 545, .int .u8 38, .int .u8 33, .int .u8 0, .int .u32 22017, .int .u8 7, .int .u8 6, .int .u8 1, .int .u32 21505, .int .u8 8, .int .u8 14, .int .u8 0, .int .u32 18433, .int .u8 9, .int .u8 14, .int .u8 0, .int .u32 14337, .int .u8 10, .int .u8 14, .int .u8 0, .int .u32 12289, .int .u8 11, .int .u8 17, .int .u8 0, .int .u32 9217, .int .u8 12, .int .u8 18, .int .u8 0, .int .u32 7169, .int .u8 13, .int .u8 20, .int .u8 0, .int .u32 5633, .int .u8 29, .int .u8 21, .int .u8 0, .int .u32 22017, .int .u8 15, .int .u8 14, .int .u8 1, .int .u32 21505, .int .u8 16, .int .u8 14, .int .u8 0, .int .u32 20737, .int .u8 17, .int .u8 15, .int .u8 0, .int .u32 18433, .int .u8 18, .int .u8 16, .int .u8 0, .int .u32 14337, .int .u8 19, .int .u8 17, .int .u8 0, .int .u32 13313, .int .u8 20, .int .u8 18, .int .u8 0, .int .u32 12289, .int .u8 21, .int .u8 19, .int .u8 0, .int .u32 10241, .int .u8 22, .int .u8 19, .int .u8 0, .int .u32 9217, .int .u8 23, .int .u8 20, .int .u8 0, .int .u32 8705, .int .u8 24, .int .u8 21, .int .u8 0, .int .u32 7169, .int .u8 25, .int .u8 22, .int .u8 0, .int .u32 6145, .int .u8 26, .int .u8 23, .int .u8 0, .int .u32 5633, .int .u8 27, .int .u8 24, .int .u8 0, .int .u32 5121, .int .u8 28, .int .u8 25, .int .u8 0, .int .u32 4609, .int .u8 29, .int .u8 26, .int .u8 0, .int .u32 4353, .int .u8 30, .int .u8 27, .int .u8 0, .int .u32 2753, .int .u8 31, .int .u8 28, .int .u8 0, .int .u32 2497, .int .u8 32, .int .u8 29, .int .u8 0, .int .u32 2209, .int .u8 33, .int .u8 30, .int .u8 0, .int .u32 1313, .int .u8 34, .int .u8 31, .int .u8 0, .int .u32 1089, .int .u8 35, .int .u8 32, .int .u8 0, .int .u32 673, .int .u8 36, .int .u8 33, .int .u8 0, .int .u32 545, .int .u8 37, .int .u8 34, .int .u8 0, .int .u32 321, .int .u8 38, .int .u8 35, .int .u8 0, .int .u32 273, .int .u8 39, .int .u8 36, .int .u8 0, .int .u32 133, .int .u8 40, .int .u8 37, .int .u8 0, .int .u32 73, .int .u8 41, .int .u8 38, .int .u8 0, .int .u32 37, .int .u8 42, .int .u8 39, .int .u8 0, .int .u32 21, .int .u8 43, .int .u8 40, .int .u8 0, .int .u32 9, .int .u8 44, .int .u8 41, .int .u8 0, .int .u32 5, .int .u8 45, .int .u8 42, .int .u8 0, .int .u32 1, .int .u8 45, .int .u8 43, .int .u8 0, .int .u32 22017, .int .u8 46, .int .u8 46, .int .u8 0] fun h_3 =>
ldAll h_3 (⟨r_1,0,none⟩:Addr) 188 fun cs_4 =>
K (.agg (cs_4).toArray) h_3
def arith_Coder_Put (C:CallP) (a0:Option Addr) (a1:Int) (a2:Int) (h:Heap) (K:VK) (Kp:PK):Prop :=
∃ K_1:List Value->Heap->Prop,(
ptr a0 fun a_4 =>
ldB h (a_4.add 194) fun x_5 =>
bcase x_5 (
K (.int .i64 43) h) <|
bcase (a2 != (0:Int)) (
bcase (a2 != (1:Int)) (
K (.int .i64 42) h) <|
ptr a0 fun a_6 =>
ldI h ((a_6.add 0).add 189) .i64 fun x_7 =>
bcase (decide (x_7≥(16777216:Int))) (
K (.int .i64 41) h) <|
K_1 [] h) <|
ptr a0 fun a_8 =>
ldI h ((a_8.add 0).add 189) .i64 fun x_9 =>
bcase (decide (x_9≥(16777216:Int))) (
K (.int .i64 41) h) <|
K_1 [] h)/\∀ (h_2:Heap) (u_3:Nat->Value) ,K_1 [] h_2->(
ptr a0 fun a_10 =>
ldI h_2 ((a_10.add 0).add 189) .i64 fun x_11 =>
bindI (IntKind.i64.wrap (x_11+(1:Int))) fun z_12 =>
ptr a0 fun a_13 =>
stV h_2 ((a_13.add 0).add 189) (.int .i64 z_12) fun h_14 =>
ptr a0 fun a_15 =>
C F_arith_table_at #[.pointer (some (a_15.add 0)), .int .i64 a1] h_14 (fun v_16 h_17 =>
∃ (r_18:Option Addr),∃ (r_19:Int) (r_20:Int) (r_21:Int) (r_22:Int),v_16 = .tuple #[.pointer r_18, .agg #[.int .u32 r_19, .int .u8 r_20, .int .u8 r_21, .int .u8 r_22]]/\(
newC h_17 [.int .u32 0, .int .u8 0, .int .u8 0, .int .u8 0] T_arith_row fun r_23 h_24 =>
stV h_24 ((⟨r_23,0,none⟩:Addr).add 0) (.int .u32 r_19) fun h_25 =>
stV h_25 ((⟨r_23,0,none⟩:Addr).add 1) (.int .u8 r_20) fun h_26 =>
stV h_26 ((⟨r_23,0,none⟩:Addr).add 2) (.int .u8 r_21) fun h_27 =>
stV h_27 ((⟨r_23,0,none⟩:Addr).add 3) (.int .u8 r_22) fun h_28 =>
ptr a0 fun a_29 =>
ldI h_28 (a_29.add 190) .u32 fun x_30 =>
ldI h_28 ((⟨r_23,0,none⟩:Addr).add 0) .u32 fun x_31 =>
bindI (IntKind.u32.wrap (x_30-x_31)) fun z_32 =>
ptr a0 fun a_33 =>
stV h_28 (a_33.add 190) (.int .u32 z_32) fun h_34 =>
ptr r_18 fun a_35 =>
ldI h_34 a_35 .u8 fun x_36 =>
bindI (bitI .and .u8 x_36 (1:Int)) fun z_37 =>
bindI (IntKind.i64.wrap z_37) fun z_38 =>
bcase (a2 == z_38) (
ptr a0 fun a_39 =>
ldI h_34 (a_39.add 190) .u32 fun x_40 =>
bcase (decide (x_40≥(32768:Int))) (
ptr a0 fun a_41 =>
ldI h_34 (a_41.add 191) .u32 fun x_42 =>
ldI h_34 ((⟨r_23,0,none⟩:Addr).add 0) .u32 fun x_43 =>
bindI (IntKind.u32.wrap (x_42+x_43)) fun z_44 =>
ptr a0 fun a_45 =>
stV h_34 (a_45.add 191) (.int .u32 z_44) fun h_46 =>
K (.int .i64 0) h_46) <|
ptr a0 fun a_47 =>
ldI h_34 (a_47.add 190) .u32 fun x_48 =>
ldI h_34 ((⟨r_23,0,none⟩:Addr).add 0) .u32 fun x_49 =>
bcase (decide (x_48<x_49)) (
ldI h_34 ((⟨r_23,0,none⟩:Addr).add 0) .u32 fun x_50 =>
ptr a0 fun a_51 =>
stV h_34 (a_51.add 190) (.int .u32 x_50) fun h_52 =>
ldI h_52 ((⟨r_23,0,none⟩:Addr).add 0) .u32 fun x_53 =>
ldI h_52 ((⟨r_23,0,none⟩:Addr).add 1) .u8 fun x_54 =>
ldI h_52 ((⟨r_23,0,none⟩:Addr).add 2) .u8 fun x_55 =>
ldI h_52 ((⟨r_23,0,none⟩:Addr).add 3) .u8 fun x_56 =>
C F_arith_likely #[.pointer r_18, .agg #[.int .u32 x_53, .int .u8 x_54, .int .u8 x_55, .int .u8 x_56]] h_52 (fun v_57 h_58 =>
C F_arith_Coder_renew #[.pointer a0] h_58 (fun v_59 h_60 =>
K (.int .i64 0) h_60) (Kp)) (Kp)) <|
ptr a0 fun a_61 =>
ldI h_34 (a_61.add 191) .u32 fun x_62 =>
ldI h_34 ((⟨r_23,0,none⟩:Addr).add 0) .u32 fun x_63 =>
bindI (IntKind.u32.wrap (x_62+x_63)) fun z_64 =>
ptr a0 fun a_65 =>
stV h_34 (a_65.add 191) (.int .u32 z_64) fun h_66 =>
ldI h_66 ((⟨r_23,0,none⟩:Addr).add 0) .u32 fun x_67 =>
ldI h_66 ((⟨r_23,0,none⟩:Addr).add 1) .u8 fun x_68 =>
ldI h_66 ((⟨r_23,0,none⟩:Addr).add 2) .u8 fun x_69 =>
ldI h_66 ((⟨r_23,0,none⟩:Addr).add 3) .u8 fun x_70 =>
C F_arith_likely #[.pointer r_18, .agg #[.int .u32 x_67, .int .u8 x_68, .int .u8 x_69, .int .u8 x_70]] h_66 (fun v_71 h_72 =>
C F_arith_Coder_renew #[.pointer a0] h_72 (fun v_73 h_74 =>
K (.int .i64 0) h_74) (Kp)) (Kp)) <|
ptr a0 fun a_75 =>
ldI h_34 (a_75.add 190) .u32 fun x_76 =>
ldI h_34 ((⟨r_23,0,none⟩:Addr).add 0) .u32 fun x_77 =>
bcase (decide (x_76<x_77)) (
ptr a0 fun a_78 =>
ldI h_34 (a_78.add 191) .u32 fun x_79 =>
ldI h_34 ((⟨r_23,0,none⟩:Addr).add 0) .u32 fun x_80 =>
bindI (IntKind.u32.wrap (x_79+x_80)) fun z_81 =>
ptr a0 fun a_82 =>
stV h_34 (a_82.add 191) (.int .u32 z_81) fun h_83 =>
ldI h_83 ((⟨r_23,0,none⟩:Addr).add 0) .u32 fun x_84 =>
ldI h_83 ((⟨r_23,0,none⟩:Addr).add 1) .u8 fun x_85 =>
ldI h_83 ((⟨r_23,0,none⟩:Addr).add 2) .u8 fun x_86 =>
ldI h_83 ((⟨r_23,0,none⟩:Addr).add 3) .u8 fun x_87 =>
C F_arith_unlikely #[.pointer r_18, .agg #[.int .u32 x_84, .int .u8 x_85, .int .u8 x_86, .int .u8 x_87]] h_83 (fun v_88 h_89 =>
C F_arith_Coder_renew #[.pointer a0] h_89 (fun v_90 h_91 =>
K (.int .i64 0) h_91) (Kp)) (Kp)) <|
ldI h_34 ((⟨r_23,0,none⟩:Addr).add 0) .u32 fun x_92 =>
ptr a0 fun a_93 =>
stV h_34 (a_93.add 190) (.int .u32 x_92) fun h_94 =>
ldI h_94 ((⟨r_23,0,none⟩:Addr).add 0) .u32 fun x_95 =>
ldI h_94 ((⟨r_23,0,none⟩:Addr).add 1) .u8 fun x_96 =>
ldI h_94 ((⟨r_23,0,none⟩:Addr).add 2) .u8 fun x_97 =>
ldI h_94 ((⟨r_23,0,none⟩:Addr).add 3) .u8 fun x_98 =>
C F_arith_unlikely #[.pointer r_18, .agg #[.int .u32 x_95, .int .u8 x_96, .int .u8 x_97, .int .u8 x_98]] h_94 (fun v_99 h_100 =>
C F_arith_Coder_renew #[.pointer a0] h_100 (fun v_101 h_102 =>
K (.int .i64 0) h_102) (Kp)) (Kp))) (Kp))
def arith_table_at (C:CallP) (t:Option Addr) (context:Int) (h:Heap) (K:VK) (Kp:PK):Prop :=
newC h [.int .u32 0, .int .u8 0, .int .u8 0, .int .u8 0] T_arith_row fun r_1 h_2 =>
ptr t fun a_3 =>
ldS h_2 (a_3.add 188) fun x_4 x_4n x_4c =>
ptr t fun a_5 =>
needs (IntKind.i64=IntKind.i64/\(x_4n:Int)≠0) <|
bindI (context.tmod (x_4n:Int)) fun z_6 =>
bindI (IntKind.i64.wrap (z_6+(x_4n:Int))) fun z_7 =>
needs (IntKind.i64=IntKind.i64/\(x_4n:Int)≠0) <|
bindI (z_7.tmod (x_4n:Int)) fun z_8 =>
ldS h_2 (a_5.add 188) fun x_9 x_9n x_9c =>
needs (0<=z_8/\z_8<(x_9n:Int)) <|
ptr x_9 fun a_10 =>
ptr t fun a_11 =>
ldI h_2 (a_10.add (z_8.toNat*1)) .u8 fun x_12 =>
bindI (shrI .u8 x_12 (1:Int)) fun z_13 =>
needs (0<=z_13/\z_13<((47:Nat):Int)) <|
ldI h_2 (((a_11.add 0).add (z_13.toNat*4)).add 0) .u32 fun x_14 =>
ldI h_2 (((a_11.add 0).add (z_13.toNat*4)).add 1) .u8 fun x_15 =>
ldI h_2 (((a_11.add 0).add (z_13.toNat*4)).add 2) .u8 fun x_16 =>
ldI h_2 (((a_11.add 0).add (z_13.toNat*4)).add 3) .u8 fun x_17 =>
stV h_2 ((⟨r_1,0,none⟩:Addr).add 0) (.int .u32 x_14) fun h_18 =>
stV h_18 ((⟨r_1,0,none⟩:Addr).add 1) (.int .u8 x_15) fun h_19 =>
stV h_19 ((⟨r_1,0,none⟩:Addr).add 2) (.int .u8 x_16) fun h_20 =>
stV h_20 ((⟨r_1,0,none⟩:Addr).add 3) (.int .u8 x_17) fun h_21 =>
ldI h_21 ((⟨r_1,0,none⟩:Addr).add 0) .u32 fun r_22 =>
ldI h_21 ((⟨r_1,0,none⟩:Addr).add 1) .u8 fun r_23 =>
ldI h_21 ((⟨r_1,0,none⟩:Addr).add 2) .u8 fun r_24 =>
ldI h_21 ((⟨r_1,0,none⟩:Addr).add 3) .u8 fun r_25 =>
K (.tuple #[.pointer (some (a_10.add (z_8.toNat*1))), .agg #[.int .u32 r_22, .int .u8 r_23, .int .u8 r_24, .int .u8 r_25]]) h_21
def arith_likely (C:CallP) (s:Option Addr) (r_1:Int) (r_2:Int) (r_3:Int) (r_4:Int) (h:Heap) (K:VK) (Kp:PK):Prop :=
newC h [.int .u32 r_1, .int .u8 r_2, .int .u8 r_3, .int .u8 r_4] T_arith_row fun r_5 h_6 =>
ptr s fun a_7 =>
ldI h_6 ((⟨r_5,0,none⟩:Addr).add 1) .u8 fun x_8 =>
bindI (shlI .u8 x_8 (1:Int)) fun z_9 =>
ldI h_6 a_7 .u8 fun x_10 =>
bindI (bitI .and .u8 x_10 (1:Int)) fun z_11 =>
bindI (bitI .or .u8 z_9 z_11) fun z_12 =>
ptr s fun a_13 =>
stV h_6 a_13 (.int .u8 z_12) fun h_14 =>
K (.tuple #[]) h_14
def arith_unlikely (C:CallP) (s:Option Addr) (r_1:Int) (r_2:Int) (r_3:Int) (r_4:Int) (h:Heap) (K:VK) (Kp:PK):Prop :=
newC h [.int .u32 r_1, .int .u8 r_2, .int .u8 r_3, .int .u8 r_4] T_arith_row fun r_5 h_6 =>
ptr s fun a_7 =>
ldI h_6 ((⟨r_5,0,none⟩:Addr).add 2) .u8 fun x_8 =>
bindI (shlI .u8 x_8 (1:Int)) fun z_9 =>
ldI h_6 a_7 .u8 fun x_10 =>
bindI (bitI .and .u8 x_10 (1:Int)) fun z_11 =>
bindI (bitI .or .u8 z_9 z_11) fun z_12 =>
ldI h_6 ((⟨r_5,0,none⟩:Addr).add 3) .u8 fun x_13 =>
bindI (bitI .xor .u8 z_12 x_13) fun z_14 =>
ptr s fun a_15 =>
stV h_6 a_15 (.int .u8 z_14) fun h_16 =>
K (.tuple #[]) h_16
def arith_Coder_renew (C:CallP) (c:Option Addr) (h:Heap) (K:VK) (Kp:PK):Prop :=
∃ J_1:Nat->List Value->Heap->Prop,(∃ n_3,J_1 n_3 [] h)/\∀ (n_3:Nat) (h_4:Heap) (u_5:Nat->Value) ,J_1 n_3 [] h_4->(
ptr c fun a_6 =>
ldI h_4 (a_6.add 190) .u32 fun x_7 =>
bindI (shlI .u32 x_7 (1:Int)) fun z_8 =>
ptr c fun a_9 =>
stV h_4 (a_9.add 190) (.int .u32 z_8) fun h_10 =>
ptr c fun a_11 =>
ldI h_10 (a_11.add 191) .u32 fun x_12 =>
bindI (shlI .u32 x_12 (1:Int)) fun z_13 =>
ptr c fun a_14 =>
stV h_10 (a_14.add 191) (.int .u32 z_13) fun h_15 =>
ptr c fun a_16 =>
ldI h_15 (a_16.add 192) .i64 fun x_17 =>
bindI (IntKind.i64.wrap (x_17-(1:Int))) fun z_18 =>
ptr c fun a_19 =>
stV h_15 (a_19.add 192) (.int .i64 z_18) fun h_20 =>
ptr c fun a_21 =>
ldI h_20 (a_21.add 192) .i64 fun x_22 =>
bcase (x_22 == (0:Int)) (
C F_arith_Coder_out #[.pointer c] h_20 (fun v_23 h_24 =>
ptr c fun a_25 =>
ldI h_24 (a_25.add 190) .u32 fun x_26 =>
bcase (decide (x_26≥(32768:Int))) (
K (.tuple #[]) h_24) <|
∃ m_2,m_2<n_3/\J_1 m_2 [] h_24) (Kp)) <|
ptr c fun a_27 =>
ldI h_20 (a_27.add 190) .u32 fun x_28 =>
bcase (decide (x_28≥(32768:Int))) (
K (.tuple #[]) h_20) <|
∃ m_2,m_2<n_3/\J_1 m_2 [] h_20)
def arith_Decoder_Get (C:CallP) (a0:Option Addr) (a1:Int) (h:Heap) (K:VK) (Kp:PK):Prop :=
ptr a0 fun a_1 =>
ldI h ((a_1.add 0).add 189) .i64 fun x_2 =>
bcase (decide (x_2≥(16777216:Int))) (
K (.tuple #[.int .i64 0, .int .i64 41]) h) <|
ptr a0 fun a_3 =>
ldI h ((a_3.add 0).add 189) .i64 fun x_4 =>
bindI (IntKind.i64.wrap (x_4+(1:Int))) fun z_5 =>
ptr a0 fun a_6 =>
stV h ((a_6.add 0).add 189) (.int .i64 z_5) fun h_7 =>
ptr a0 fun a_8 =>
C F_arith_table_at #[.pointer (some (a_8.add 0)), .int .i64 a1] h_7 (fun v_9 h_10 =>
∃ (r_11:Option Addr),∃ (r_12:Int) (r_13:Int) (r_14:Int) (r_15:Int),v_9 = .tuple #[.pointer r_11, .agg #[.int .u32 r_12, .int .u8 r_13, .int .u8 r_14, .int .u8 r_15]]/\(
newC h_10 [.int .u32 0, .int .u8 0, .int .u8 0, .int .u8 0] T_arith_row fun r_16 h_17 =>
stV h_17 ((⟨r_16,0,none⟩:Addr).add 0) (.int .u32 r_12) fun h_18 =>
stV h_18 ((⟨r_16,0,none⟩:Addr).add 1) (.int .u8 r_13) fun h_19 =>
stV h_19 ((⟨r_16,0,none⟩:Addr).add 2) (.int .u8 r_14) fun h_20 =>
stV h_20 ((⟨r_16,0,none⟩:Addr).add 3) (.int .u8 r_15) fun h_21 =>
ptr r_11 fun a_22 =>
ldI h_21 a_22 .u8 fun x_23 =>
bindI (bitI .and .u8 x_23 (1:Int)) fun z_24 =>
bindI (IntKind.i64.wrap z_24) fun z_25 =>
ptr a0 fun a_26 =>
ldI h_21 (a_26.add 190) .u32 fun x_27 =>
ldI h_21 ((⟨r_16,0,none⟩:Addr).add 0) .u32 fun x_28 =>
bindI (IntKind.u32.wrap (x_27-x_28)) fun z_29 =>
ptr a0 fun a_30 =>
stV h_21 (a_30.add 190) (.int .u32 z_29) fun h_31 =>
ptr a0 fun a_32 =>
ldI h_31 (a_32.add 191) .u32 fun x_33 =>
bindI (shrI .u32 x_33 (16:Int)) fun z_34 =>
ldI h_31 ((⟨r_16,0,none⟩:Addr).add 0) .u32 fun x_35 =>
∃ K_36:List Value->Heap->Prop,(
bcase (!(decide (z_34<x_35))) (
ptr a0 fun a_39 =>
ldI h_31 (a_39.add 191) .u32 fun x_40 =>
ldI h_31 ((⟨r_16,0,none⟩:Addr).add 0) .u32 fun x_41 =>
bindI (shlI .u32 x_41 (16:Int)) fun z_42 =>
bindI (IntKind.u32.wrap (x_40-z_42)) fun z_43 =>
ptr a0 fun a_44 =>
stV h_31 (a_44.add 191) (.int .u32 z_43) fun h_45 =>
ptr a0 fun a_46 =>
ldI h_45 (a_46.add 190) .u32 fun x_47 =>
bcase (decide (x_47≥(32768:Int))) (
K (.tuple #[.int .i64 z_25, .int .i64 0]) h_45) <|
K_36 [] h_45) <|
K_36 [] h_31)/\∀ (h_37:Heap) (u_38:Nat->Value) ,K_36 [] h_37->(
∃ K_48:List Value->Heap->Prop,(
ptr a0 fun a_51 =>
ldI h_37 (a_51.add 190) .u32 fun x_52 =>
ldI h_37 ((⟨r_16,0,none⟩:Addr).add 0) .u32 fun x_53 =>
bcase ((decide (z_34<x_35)) == (decide (x_52<x_53))) (
ldI h_37 ((⟨r_16,0,none⟩:Addr).add 0) .u32 fun x_54 =>
ldI h_37 ((⟨r_16,0,none⟩:Addr).add 1) .u8 fun x_55 =>
ldI h_37 ((⟨r_16,0,none⟩:Addr).add 2) .u8 fun x_56 =>
ldI h_37 ((⟨r_16,0,none⟩:Addr).add 3) .u8 fun x_57 =>
C F_arith_likely #[.pointer r_11, .agg #[.int .u32 x_54, .int .u8 x_55, .int .u8 x_56, .int .u8 x_57]] h_37 (fun v_58 h_59 =>
K_48 [.int .i64 z_25] h_59) (Kp)) <|
bindI (bitI .xor .i64 z_25 (1:Int)) fun z_60 =>
ldI h_37 ((⟨r_16,0,none⟩:Addr).add 0) .u32 fun x_61 =>
ldI h_37 ((⟨r_16,0,none⟩:Addr).add 1) .u8 fun x_62 =>
ldI h_37 ((⟨r_16,0,none⟩:Addr).add 2) .u8 fun x_63 =>
ldI h_37 ((⟨r_16,0,none⟩:Addr).add 3) .u8 fun x_64 =>
C F_arith_unlikely #[.pointer r_11, .agg #[.int .u32 x_61, .int .u8 x_62, .int .u8 x_63, .int .u8 x_64]] h_37 (fun v_65 h_66 =>
K_48 [.int .i64 z_60] h_66) (Kp))/\∀ (h_49:Heap) (u_50:Nat->Value) (x_67:Int),K_48 [.int .i64 x_67] h_49->(
bcase (decide (z_34<x_35)) (
ldI h_49 ((⟨r_16,0,none⟩:Addr).add 0) .u32 fun x_68 =>
ptr a0 fun a_69 =>
stV h_49 (a_69.add 190) (.int .u32 x_68) fun h_70 =>
C F_arith_Decoder_renew #[.pointer a0] h_70 (fun v_71 h_72 =>
K (.tuple #[.int .i64 x_67, .int .i64 0]) h_72) (Kp)) <|
C F_arith_Decoder_renew #[.pointer a0] h_49 (fun v_73 h_74 =>
K (.tuple #[.int .i64 x_67, .int .i64 0]) h_74) (Kp))))) (Kp)
def arith_Decoder_renew (C:CallP) (d:Option Addr) (h:Heap) (K:VK) (Kp:PK):Prop :=
∃ J_1:Nat->List Value->Heap->Prop,(∃ n_3,J_1 n_3 [] h)/\∀ (n_3:Nat) (h_4:Heap) (u_5:Nat->Value) ,J_1 n_3 [] h_4->(
∃ K_6:List Value->Heap->Prop,(
ptr d fun a_9 =>
ldI h_4 (a_9.add 192) .i64 fun x_10 =>
bcase (x_10 == (0:Int)) (
C F_arith_Decoder_in #[.pointer d] h_4 (fun v_11 h_12 =>
K_6 [] h_12) (Kp)) <|
K_6 [] h_4)/\∀ (h_7:Heap) (u_8:Nat->Value) ,K_6 [] h_7->(
ptr d fun a_13 =>
ldI h_7 (a_13.add 190) .u32 fun x_14 =>
bindI (shlI .u32 x_14 (1:Int)) fun z_15 =>
ptr d fun a_16 =>
stV h_7 (a_16.add 190) (.int .u32 z_15) fun h_17 =>
ptr d fun a_18 =>
ldI h_17 (a_18.add 191) .u32 fun x_19 =>
bindI (shlI .u32 x_19 (1:Int)) fun z_20 =>
ptr d fun a_21 =>
stV h_17 (a_21.add 191) (.int .u32 z_20) fun h_22 =>
ptr d fun a_23 =>
ldI h_22 (a_23.add 192) .i64 fun x_24 =>
bindI (IntKind.i64.wrap (x_24-(1:Int))) fun z_25 =>
ptr d fun a_26 =>
stV h_22 (a_26.add 192) (.int .i64 z_25) fun h_27 =>
ptr d fun a_28 =>
ldI h_27 (a_28.add 190) .u32 fun x_29 =>
bcase (decide (x_29≥(32768:Int))) (
K (.tuple #[]) h_27) <|
∃ m_2,m_2<n_3/\J_1 m_2 [] h_27))
end Go.Den.YtfaclehehhgpcaaGreat
namespace Go.Den.YtfaclehehhgpcaaGreat
open Go Go.Den
theorem call_arith_New {contexts:Int} {h:Heap} {K:VK} {Kp:PK} (H:arith_New (CallsHP Go.Proofs.Tryz.prog) contexts h K Kp):CallsHP Go.Proofs.Tryz.prog F_arith_New #[.int .i64 contexts] h K Kp :=
 callsHP_ofE (Hints.mk (fun i=>none) (fun i=>none) (fun i=>none) []) (by kernel_rfl) Go.Proofs.Tryz.func89 (by kernel_rfl) (fun C=>arith_New C contexts h K Kp) (fun C=>by kernel_rfl) H
theorem call_arith_Coder_Flush {a0:Option Addr} {h:Heap} {K:VK} {Kp:PK} (H:arith_Coder_Flush (CallsHP Go.Proofs.Tryz.prog) a0 h K Kp):CallsHP Go.Proofs.Tryz.prog F_arith_Coder_Flush #[.pointer a0] h K Kp :=
 callsHP_ofE (Hints.mk (fun i=>bif Nat.beq i 4 then some ([], .take 0 <| .take 1 <| .take 2 <| .take 4 <| .take 5 <| .take 6 <| .take 3 <| .take 7 <| .take 8 <| .take 9 <| .done) else (bif Nat.beq i 10 then some ([11], .take 0 <| .take 1 <| .take 2 <| .take 4 <| .take 5 <| .take 6 <| .take 3 <| .take 7 <| .take 8 <| .take 9 <| .take 10 <| .bar 11 [] <| .done) else (none))) (fun i=>bif Nat.beq i 9 then some ([(42, .int .i64)],288225978105200640) else (none)) (fun i=>bif Nat.beq i 8 then some ([],4398042316800) else (none)) []) (by kernel_rfl) Go.Proofs.Tryz.func92 (by kernel_rfl) (fun C=>arith_Coder_Flush C a0 h K Kp) (fun C=>by kernel_rfl) H
theorem call_arith_NewDecoder {b:Option Addr} {bn:Nat} {bc:Nat} {contexts:Int} {h:Heap} {K:VK} {Kp:PK} (H:arith_NewDecoder (CallsHP Go.Proofs.Tryz.prog) b bn bc contexts h K Kp):CallsHP Go.Proofs.Tryz.prog F_arith_NewDecoder #[.slice b bn bc, .int .i64 contexts] h K Kp :=
 callsHP_ofE (Hints.mk (fun i=>bif Nat.beq i 4 then some ([4], .take 1 <| .take 0 <| .go 2 <| .take 3 <| .bar 4 [] <| .take 5 <| .done) else (none)) (fun i=>none) (fun i=>none) []) (by kernel_rfl) Go.Proofs.Tryz.func110 (by kernel_rfl) (fun C=>arith_NewDecoder C b bn bc contexts h K Kp) (fun C=>by kernel_rfl) H
theorem call_arith_made {contexts:Int} {h:Heap} {K:VK} {Kp:PK} (H:arith_made (CallsHP Go.Proofs.Tryz.prog) contexts h K Kp):CallsHP Go.Proofs.Tryz.prog F_arith_made #[.int .i64 contexts] h K Kp :=
 callsHP_ofE (Hints.mk (fun i=>bif Nat.beq i 3 then some ([4], .take 1 <| .alt 0 (.go 2 <| .take 3 <| .bar 4 [] <| .take 5 <| .done) <| .go 2 <| .go 0 <| .take 3 <| .bar 4 [] <| .take 5 <| .done) else (none)) (fun i=>none) (fun i=>none) []) (by kernel_rfl) Go.Proofs.Tryz.func141 (by kernel_rfl) (fun C=>arith_made C contexts h K Kp) (fun C=>by kernel_rfl) H
theorem call_arith_Coder_out {a0:Option Addr} {h:Heap} {K:VK} {Kp:PK} (H:arith_Coder_out (CallsHP Go.Proofs.Tryz.prog) a0 h K Kp):CallsHP Go.Proofs.Tryz.prog F_arith_Coder_out #[.pointer a0] h K Kp :=
 callsHP_ofE (Hints.mk (fun i=>bif Nat.beq i 0 then some ([], .take 0 <| .take 1 <| .take 2 <| .take 4 <| .take 5 <| .take 6 <| .take 3 <| .take 7 <| .take 8 <| .take 9 <| .take 10 <| .take 11 <| .done) else (bif Nat.beq i 7 then some ([13,16], .take 0 <| .take 1 <| .take 2 <| .take 3 <| .take 5 <| .take 6 <| .take 7 <| .take 9 <| .take 4 <| .take 8 <| .take 10 <| .take 11 <| .go 12 <| .bar 13 [16] <| .take 14 <| .take 15 <| .bar 16 [] <| .done) else (bif Nat.beq i 8 then some ([10], .take 0 <| .take 1 <| .take 2 <| .take 4 <| .take 5 <| .take 6 <| .take 3 <| .take 7 <| .take 8 <| .take 9 <| .bar 10 [] <| .done) else (none)))) (fun i=>none) (fun i=>bif Nat.beq i 2 then some ([(25, .bool)],67076096) else (bif Nat.beq i 4 then some ([],274877874176) else (bif Nat.beq i 7 then some ([(3, .int .i64)],34909494181896) else (none)))) []) (by kernel_rfl) Go.Proofs.Tryz.func145 (by kernel_rfl) (fun C=>arith_Coder_out C a0 h K Kp) (fun C=>by kernel_rfl) H
theorem call_arith_Decoder_byte {d:Option Addr} {i:Int} {h:Heap} {K:VK} {Kp:PK} (H:arith_Decoder_byte (CallsHP Go.Proofs.Tryz.prog) d i h K Kp):CallsHP Go.Proofs.Tryz.prog F_arith_Decoder_byte #[.pointer d, .int .i64 i] h K Kp :=
 callsHP_ofE (Hints.mk (fun i=>none) (fun i=>none) (fun i=>none) []) (by kernel_rfl) Go.Proofs.Tryz.func162 (by kernel_rfl) (fun C=>arith_Decoder_byte C d i h K Kp) (fun C=>by kernel_rfl) H
theorem call_arith_Decoder_in {a0:Option Addr} {h:Heap} {K:VK} {Kp:PK} (H:arith_Decoder_in (CallsHP Go.Proofs.Tryz.prog) a0 h K Kp):CallsHP Go.Proofs.Tryz.prog F_arith_Decoder_in #[.pointer a0] h K Kp :=
 callsHP_ofE (Hints.mk (fun i=>bif Nat.beq i 1 then some ([14], .take 0 <| .take 1 <| .take 2 <| .take 4 <| .take 5 <| .take 6 <| .take 7 <| .take 3 <| .take 8 <| .go 9 <| .take 10 <| .take 11 <| .take 12 <| .take 13 <| .bar 14 [] <| .done) else (bif Nat.beq i 5 then some ([14], .take 0 <| .take 1 <| .take 2 <| .take 4 <| .take 5 <| .take 6 <| .take 7 <| .take 3 <| .take 8 <| .go 9 <| .take 10 <| .take 11 <| .take 12 <| .take 13 <| .bar 14 [] <| .done) else (none))) (fun i=>none) (fun i=>none) []) (by kernel_rfl) Go.Proofs.Tryz.func163 (by kernel_rfl) (fun C=>arith_Decoder_in C a0 h K Kp) (fun C=>by kernel_rfl) H
theorem call_arith_table_Contexts {t:Option Addr} {h:Heap} {K:VK} {Kp:PK} (H:arith_table_Contexts (CallsHP Go.Proofs.Tryz.prog) t h K Kp):CallsHP Go.Proofs.Tryz.prog F_arith_table_Contexts #[.pointer t] h K Kp :=
 callsHP_ofE (Hints.mk (fun i=>none) (fun i=>none) (fun i=>none) []) (by kernel_rfl) Go.Proofs.Tryz.func170 (by kernel_rfl) (fun C=>arith_table_Contexts C t h K Kp) (fun C=>by kernel_rfl) H
theorem call_arith_rows  {h:Heap} {K:VK} {Kp:PK} (H:arith_rows (CallsHP Go.Proofs.Tryz.prog)  h K Kp):CallsHP Go.Proofs.Tryz.prog F_arith_rows #[] h K Kp :=
 callsHP_ofE (Hints.mk (fun i=>none) (fun i=>none) (fun i=>none) []) (by kernel_rfl) Go.Proofs.Tryz.func182 (by kernel_rfl) (fun C=>arith_rows C  h K Kp) (fun C=>by kernel_rfl) H
theorem call_arith_Coder_Put {a0:Option Addr} {a1:Int} {a2:Int} {h:Heap} {K:VK} {Kp:PK} (H:arith_Coder_Put (CallsHP Go.Proofs.Tryz.prog) a0 a1 a2 h K Kp):CallsHP Go.Proofs.Tryz.prog F_arith_Coder_Put #[.pointer a0, .int .i64 a1, .int .i64 a2] h K Kp :=
 callsHP_ofE (Hints.mk (fun i=>bif Nat.beq i 9 then some ([9], .take 0 <| .take 1 <| .take 2 <| .take 4 <| .take 3 <| .take 5 <| .take 6 <| .take 7 <| .take 8 <| .bar 9 [] <| .done) else (bif Nat.beq i 12 then some ([9], .take 0 <| .take 1 <| .take 2 <| .take 4 <| .take 3 <| .take 5 <| .take 6 <| .take 7 <| .take 8 <| .bar 9 [] <| .done) else (bif Nat.beq i 14 then some ([], .take 0 <| .take 1 <| .take 2 <| .take 4 <| .take 3 <| .take 5 <| .take 6 <| .done) else (bif Nat.beq i 16 then some ([9], .take 0 <| .take 1 <| .take 2 <| .take 4 <| .take 3 <| .take 5 <| .take 6 <| .take 7 <| .take 8 <| .bar 9 [] <| .done) else (bif Nat.beq i 18 then some ([], .take 0 <| .take 1 <| .take 2 <| .take 4 <| .take 3 <| .take 5 <| .take 6 <| .done) else (bif Nat.beq i 19 then some ([9], .take 0 <| .take 1 <| .take 2 <| .take 4 <| .take 3 <| .take 5 <| .take 6 <| .take 7 <| .take 8 <| .bar 9 [] <| .done) else (none))))))) (fun i=>none) (fun i=>bif Nat.beq i 7 then some ([],268435008) else (none)) []) (by kernel_rfl) Go.Proofs.Tryz.func187 (by kernel_rfl) (fun C=>arith_Coder_Put C a0 a1 a2 h K Kp) (fun C=>by kernel_rfl) H
theorem call_arith_table_at {t:Option Addr} {context:Int} {h:Heap} {K:VK} {Kp:PK} (H:arith_table_at (CallsHP Go.Proofs.Tryz.prog) t context h K Kp):CallsHP Go.Proofs.Tryz.prog F_arith_table_at #[.pointer t, .int .i64 context] h K Kp :=
 callsHP_ofE (Hints.mk (fun i=>bif Nat.beq i 2 then some ([], .take 0 <| .take 1 <| .take 2 <| .take 4 <| .take 5 <| .take 6 <| .take 7 <| .take 8 <| .take 9 <| .take 10 <| .take 3 <| .take 11 <| .take 12 <| .done) else (bif Nat.beq i 3 then some ([11], .take 0 <| .take 1 <| .take 2 <| .take 3 <| .take 6 <| .take 7 <| .take 10 <| .take 4 <| .take 5 <| .take 8 <| .take 9 <| .bar 11 [] <| .done) else (none))) (fun i=>none) (fun i=>none) []) (by kernel_rfl) Go.Proofs.Tryz.func210 (by kernel_rfl) (fun C=>arith_table_at C t context h K Kp) (fun C=>by kernel_rfl) H
theorem call_arith_likely {s:Option Addr} {r_1:Int} {r_2:Int} {r_3:Int} {r_4:Int} {h:Heap} {K:VK} {Kp:PK} (H:arith_likely (CallsHP Go.Proofs.Tryz.prog) s r_1 r_2 r_3 r_4 h K Kp):CallsHP Go.Proofs.Tryz.prog F_arith_likely #[.pointer s, .agg #[.int .u32 r_1, .int .u8 r_2, .int .u8 r_3, .int .u8 r_4]] h K Kp :=
 callsHP_ofE (Hints.mk (fun i=>bif Nat.beq i 1 then some ([10], .take 0 <| .take 1 <| .take 4 <| .take 5 <| .take 2 <| .take 3 <| .take 6 <| .take 7 <| .take 8 <| .take 9 <| .bar 10 [] <| .done) else (none)) (fun i=>none) (fun i=>none) []) (by kernel_rfl) Go.Proofs.Tryz.func211 (by kernel_rfl) (fun C=>arith_likely C s r_1 r_2 r_3 r_4 h K Kp) (fun C=>by kernel_rfl) H
theorem call_arith_unlikely {s:Option Addr} {r_1:Int} {r_2:Int} {r_3:Int} {r_4:Int} {h:Heap} {K:VK} {Kp:PK} (H:arith_unlikely (CallsHP Go.Proofs.Tryz.prog) s r_1 r_2 r_3 r_4 h K Kp):CallsHP Go.Proofs.Tryz.prog F_arith_unlikely #[.pointer s, .agg #[.int .u32 r_1, .int .u8 r_2, .int .u8 r_3, .int .u8 r_4]] h K Kp :=
 callsHP_ofE (Hints.mk (fun i=>bif Nat.beq i 1 then some ([13], .take 0 <| .take 1 <| .take 4 <| .take 5 <| .take 9 <| .take 2 <| .take 3 <| .take 6 <| .take 7 <| .take 8 <| .take 10 <| .take 11 <| .take 12 <| .bar 13 [] <| .done) else (none)) (fun i=>none) (fun i=>none) []) (by kernel_rfl) Go.Proofs.Tryz.func212 (by kernel_rfl) (fun C=>arith_unlikely C s r_1 r_2 r_3 r_4 h K Kp) (fun C=>by kernel_rfl) H
theorem call_arith_Coder_renew {c:Option Addr} {h:Heap} {K:VK} {Kp:PK} (H:arith_Coder_renew (CallsHP Go.Proofs.Tryz.prog) c h K Kp):CallsHP Go.Proofs.Tryz.prog F_arith_Coder_renew #[.pointer c] h K Kp :=
 callsHP_ofE (Hints.mk (fun i=>none) (fun i=>bif Nat.beq i 0 then some ([],34359738364) else (none)) (fun i=>none) []) (by kernel_rfl) Go.Proofs.Tryz.func213 (by kernel_rfl) (fun C=>arith_Coder_renew C c h K Kp) (fun C=>by kernel_rfl) H
theorem call_arith_Decoder_Get {a0:Option Addr} {a1:Int} {h:Heap} {K:VK} {Kp:PK} (H:arith_Decoder_Get (CallsHP Go.Proofs.Tryz.prog) a0 a1 h K Kp):CallsHP Go.Proofs.Tryz.prog F_arith_Decoder_Get #[.pointer a0, .int .i64 a1] h K Kp :=
 callsHP_ofE (Hints.mk (fun i=>bif Nat.beq i 6 then some ([9], .take 0 <| .take 1 <| .take 2 <| .take 4 <| .take 3 <| .take 5 <| .take 6 <| .take 7 <| .take 8 <| .bar 9 [] <| .done) else (bif Nat.beq i 7 then some ([], .take 0 <| .take 1 <| .take 2 <| .take 5 <| .take 3 <| .take 4 <| .take 6 <| .take 7 <| .take 8 <| .done) else (bif Nat.beq i 9 then some ([10], .take 0 <| .take 1 <| .take 2 <| .take 4 <| .take 3 <| .take 5 <| .take 6 <| .take 7 <| .take 8 <| .take 9 <| .bar 10 [] <| .done) else (bif Nat.beq i 12 then some ([], .take 0 <| .take 1 <| .take 2 <| .take 3 <| .take 5 <| .take 4 <| .take 6 <| .take 7 <| .take 8 <| .done) else (none))))) (fun i=>none) (fun i=>bif Nat.beq i 12 then some ([],9444696936942271463472) else (bif Nat.beq i 16 then some ([(8, .int .i64)],1237930594552414535608697088) else (none))) []) (by kernel_rfl) Go.Proofs.Tryz.func215 (by kernel_rfl) (fun C=>arith_Decoder_Get C a0 a1 h K Kp) (fun C=>by kernel_rfl) H
theorem call_arith_Decoder_renew {d:Option Addr} {h:Heap} {K:VK} {Kp:PK} (H:arith_Decoder_renew (CallsHP Go.Proofs.Tryz.prog) d h K Kp):CallsHP Go.Proofs.Tryz.prog F_arith_Decoder_renew #[.pointer d] h K Kp :=
 callsHP_ofE (Hints.mk (fun i=>none) (fun i=>bif Nat.beq i 0 then some ([],34359738364) else (none)) (fun i=>bif Nat.beq i 2 then some ([],508) else (none)) []) (by kernel_rfl) Go.Proofs.Tryz.func220 (by kernel_rfl) (fun C=>arith_Decoder_renew C d h K Kp) (fun C=>by kernel_rfl) H
end Go.Den.YtfaclehehhgpcaaGreat
