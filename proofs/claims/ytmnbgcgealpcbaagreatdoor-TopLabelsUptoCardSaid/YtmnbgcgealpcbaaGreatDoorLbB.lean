/- Nm VLab Heap LabP LabQ Rows2 Base Crc Byt LbA LbB -/
import Derived.Test.YtmnbgcgealpcbaaGreatDoorVcb
import Derived.Test.YtmnbgcgealpcbaaGreatDoorProg
import Derived.KernelRfl
import GoSem.Op.String
import Derived.Lib.SlBytesConst
/- The numbers of this seat's functions and types. -/
namespace Go.Proofs.YtmnbgcgealpcbaaGreatDoor
open Go

abbrev fn_top_TopLabels : FuncId := 3
abbrev fn_top_reads : FuncId := 4
abbrev fn_tree_Check : FuncId := 5
abbrev fn_ref05_Small : FuncId := 6
abbrev fn_ref05_Paths : FuncId := 7
abbrev fn_top_parent : FuncId := 8
abbrev fn_label_Between : FuncId := 9
abbrev fn_label_Compare : FuncId := 10
abbrev fn_trail_Compare : FuncId := 11
abbrev fn_label_Above : FuncId := 12
abbrev fn_trail_Under : FuncId := 13
abbrev fn_label_Level : FuncId := 14
abbrev fn_parse_Parse : FuncId := 15
abbrev fn_canon_Write : FuncId := 16
abbrev fn_tree_flat : FuncId := 17
abbrev fn_slices_ContainsFunc_sl_api_Node_api_Node : FuncId := 18
abbrev fn_tree_odd : FuncId := 19
abbrev fn_tree_deep : FuncId := 20
abbrev fn_tree_great : FuncId := 21
abbrev fn_tree_misnamed : FuncId := 22
abbrev fn_tree_spoilt : FuncId := 23
abbrev fn_tree_unordered : FuncId := 24
abbrev fn_tree_wrongText : FuncId := 25
abbrev fn_ref05_Flat : FuncId := 26
abbrev fn_ref05_SameInts : FuncId := 27
abbrev fn_label_Check : FuncId := 28
abbrev fn_label_kid : FuncId := 29
abbrev fn_slices_Clone_sl_int_int : FuncId := 30
abbrev fn_label_behind : FuncId := 31
abbrev fn_label_ahead : FuncId := 32
abbrev fn_label_amid : FuncId := 33
abbrev fn_slices_Compare_sl_int_int : FuncId := 34
abbrev fn_cmp_Compare_int : FuncId := 35
abbrev fn_tree_Order : FuncId := 36
abbrev fn_slices_Equal_sl_int_int : FuncId := 37
abbrev fn_label_odd : FuncId := 38
abbrev fn_scan_All : FuncId := 39
abbrev fn_scope_New : FuncId := 40
abbrev fn_parse_reader_take : FuncId := 41
abbrev fn_scan_Plain : FuncId := 42
abbrev fn_canon_Prefixes : FuncId := 43
abbrev fn_canon_writer_node : FuncId := 44
abbrev fn_strings_Builder_WriteByte : FuncId := 45
abbrev fn_strings_Builder_Len : FuncId := 46
abbrev fn_strings_Builder_String : FuncId := 47
abbrev fn_slices_IndexFunc_sl_api_Node_api_Node : FuncId := 48
abbrev fn_tree_odd_1 : FuncId := 49
abbrev fn_tree_may : FuncId := 50
abbrev fn_tree_deep_1 : FuncId := 51
abbrev fn_tree_great_1 : FuncId := 52
abbrev fn_slices_ContainsFunc_sl_api_Attr_api_Attr : FuncId := 53
abbrev fn_tree_misnamed_1 : FuncId := 54
abbrev fn_tree_wrongName : FuncId := 55
abbrev fn_char_Name : FuncId := 56
abbrev fn_strings_EqualFold : FuncId := 57
abbrev fn_tree_bad : FuncId := 58
abbrev fn_tree_spoilt_1 : FuncId := 59
abbrev fn_strings_Contains : FuncId := 60
abbrev fn_strings_HasSuffix : FuncId := 61
abbrev fn_strings_TrimLeft : FuncId := 62
abbrev fn_label_Bytes : FuncId := 63
abbrev fn_label_Up : FuncId := 64
abbrev fn_cmp_isNaN_int : FuncId := 65
abbrev fn_cmp_Or_int : FuncId := 66
abbrev fn_cmp_Compare_string : FuncId := 67
abbrev fn_char_Fault : FuncId := 68
abbrev fn_scan_scanner_token : FuncId := 69
abbrev fn_parse_reader_put : FuncId := 70
abbrev fn_parse_reader_text : FuncId := 71
abbrev fn_parse_reader_begin : FuncId := 72
abbrev fn_parse_reader_close : FuncId := 73
abbrev fn_parse_reader_top : FuncId := 74
abbrev fn_char_Lines : FuncId := 75
abbrev fn_bytes_TrimPrefix : FuncId := 76
abbrev fn_slices_DeleteFunc_sl_string_string : FuncId := 77
abbrev fn_tree_Spaces : FuncId := 78
abbrev fn_canon_Prefixes_1 : FuncId := 79
abbrev fn_canon_writer_put : FuncId := 80
abbrev fn_refer_Text : FuncId := 81
abbrev fn_canon_writer_element : FuncId := 82
abbrev fn_strings_Builder_copyCheck : FuncId := 83
abbrev fn_slices_IndexFunc_sl_api_Attr_api_Attr : FuncId := 84
abbrev fn_unicode_utf8_ValidString : FuncId := 85
abbrev fn_char_IsStart : FuncId := 86
abbrev fn_char_IsPart : FuncId := 87
abbrev fn_unicode_utf8_DecodeRuneInString : FuncId := 88
abbrev fn_unicode_SimpleFold : FuncId := 89
abbrev fn_strings_Index : FuncId := 90
abbrev fn_internal_stringslite_HasSuffix : FuncId := 91
abbrev fn_strings_trimLeftByte : FuncId := 92
abbrev fn_strings_makeASCIISet : FuncId := 93
abbrev fn_strings_trimLeftASCII : FuncId := 94
abbrev fn_strings_trimLeftUnicode : FuncId := 95
abbrev fn_slices_ContainsFunc_sl_int_int : FuncId := 96
abbrev fn_label_Bytes_1 : FuncId := 97
abbrev fn_label_writer_number : FuncId := 98
abbrev fn_cmp_isNaN_string : FuncId := 99
abbrev fn_char_Next : FuncId := 100
abbrev fn_scan_scanner_here : FuncId := 101
abbrev fn_scan_scanner_spaces : FuncId := 102
abbrev fn_scan_scanner_upTo : FuncId := 104
abbrev fn_scan_scanner_sign : FuncId := 105
abbrev fn_scan_scanner_closing : FuncId := 107
abbrev fn_scan_scanner_tag : FuncId := 108
abbrev fn_scan_scanner_text : FuncId := 109
abbrev fn_scope_Scope_Open : FuncId := 111
abbrev fn_scope_Scope_Element : FuncId := 112
abbrev fn_scope_Scope_Attrs : FuncId := 113
abbrev fn_bytes_HasPrefix : FuncId := 114
abbrev fn_slices_IndexFunc_sl_string_string : FuncId := 115
abbrev fn_tree_spaces : FuncId := 116
abbrev fn_slices_Sort_sl_string_string : FuncId := 117
abbrev fn_slices_Compact_sl_string_string : FuncId := 118
abbrev fn_strings_Builder_WriteString : FuncId := 119
abbrev fn_strings_NewReplacer : FuncId := 120
abbrev fn_canon_writer_name : FuncId := 122
abbrev fn_canon_prefix : FuncId := 123
abbrev fn_refer_Quote : FuncId := 124
abbrev fn_internal_abi_NoEscape : FuncId := 125
abbrev fn_unicode_utf8_word_string : FuncId := 126
abbrev fn_char_in : FuncId := 127
abbrev fn_unicode_utf8_decodeRuneInStringSlow : FuncId := 128
abbrev fn_unicode_lookupCaseRange : FuncId := 129
abbrev fn_unicode_convertCase : FuncId := 130
abbrev fn_internal_stringslite_Index : FuncId := 131
abbrev fn_strings_asciiSet_contains : FuncId := 132
abbrev fn_strings_ContainsRune : FuncId := 133
abbrev fn_slices_IndexFunc_sl_int_int : FuncId := 134
abbrev fn_label_writer_bit : FuncId := 135
abbrev fn_math_bits_Len : FuncId := 136
abbrev fn_unicode_utf8_DecodeRune : FuncId := 137
abbrev fn_char_IsChar : FuncId := 138
abbrev fn_strings_IndexByte : FuncId := 139
abbrev fn_scan_scanner_equals : FuncId := 140
abbrev fn_scan_scanner_quoted : FuncId := 141
abbrev fn_bytes_Index : FuncId := 143
abbrev fn_scan_scanner_name : FuncId := 144
abbrev fn_refer_ReadValue : FuncId := 145
abbrev fn_bytes_IndexByte : FuncId := 146
abbrev fn_refer_ReadText : FuncId := 147
abbrev fn_bytes_Count : FuncId := 148
abbrev fn_slices_Clone_sl_scope_bind_scope_bind : FuncId := 152
abbrev fn_scope_declares : FuncId := 153
abbrev fn_scope_wrong : FuncId := 154
abbrev fn_slices_Contains_sl_string_string : FuncId := 155
abbrev fn_slices_DeleteFunc_sl_scope_bind_scope_bind : FuncId := 156
abbrev fn_char_Split : FuncId := 158
abbrev fn_scope_Scope_Bound : FuncId := 159
abbrev fn_slices_SortStableFunc_sl_api_Attr_api_Attr : FuncId := 160
abbrev fn_bytes_Equal : FuncId := 162
abbrev fn_slices_pdqsortOrdered_string : FuncId := 163
abbrev fn_sync_Once_Do : FuncId := 164
abbrev fn_strings_Replacer_buildOnce : FuncId := 165
abbrev fn_slices_BinarySearch_sl_string_string : FuncId := 166
abbrev fn_strconv_Itoa : FuncId := 167
abbrev fn_internal_stringslite_IndexByte : FuncId := 168
abbrev fn_internal_bytealg_IndexString : FuncId := 169
abbrev fn_internal_bytealg_Cutover : FuncId := 170
abbrev fn_internal_bytealg_IndexRabinKarp_string : FuncId := 171
abbrev fn_strings_IndexRune : FuncId := 172
abbrev fn_math_bits_Len64 : FuncId := 174
abbrev fn_unicode_utf8_decodeRuneSlow : FuncId := 175
abbrev fn_internal_bytealg_Index : FuncId := 177
abbrev fn_internal_bytealg_IndexRabinKarp_sl_byte : FuncId := 178
abbrev fn_refer_read : FuncId := 179
abbrev fn_internal_bytealg_IndexByte : FuncId := 180
abbrev fn_internal_bytealg_Count : FuncId := 182
abbrev fn_slices_Index_sl_string_string : FuncId := 184
abbrev fn_slices_IndexFunc_sl_scope_bind_scope_bind : FuncId := 185
abbrev fn_strings_Cut : FuncId := 186
abbrev fn_slices_stableCmpFunc_api_Attr : FuncId := 187
abbrev fn_slices_insertionSortOrdered_string : FuncId := 188
abbrev fn_cmp_Less_string : FuncId := 194
abbrev fn_sync_atomic_Bool_Load : FuncId := 197
abbrev fn_sync_Once_doSlow : FuncId := 198
abbrev fn_strings_Replacer_build : FuncId := 199
abbrev fn_internal_strconv_Itoa : FuncId := 201
abbrev fn_internal_bytealg_IndexByteString : FuncId := 202
abbrev fn_internal_bytealg_hashStr_string : FuncId := 203
abbrev fn_unicode_utf8_ValidRune : FuncId := 204
abbrev fn_internal_bytealg_hashStr_sl_byte : FuncId := 206
abbrev fn_refer_Expand : FuncId := 207
abbrev fn_internal_stringslite_Cut : FuncId := 210
abbrev fn_slices_insertionSortCmpFunc_api_Attr : FuncId := 211
abbrev fn_sync_atomic_LoadUint32 : FuncId := 218
abbrev fn_sync_Mutex_Lock : FuncId := 219
abbrev fn_internal_strconv_FormatInt : FuncId := 224
abbrev fn_refer_meant : FuncId := 226
abbrev fn_internal_sync_Mutex_Lock : FuncId := 229
abbrev fn_internal_strconv_small : FuncId := 235
abbrev fn_internal_race_Disable : FuncId := 241
abbrev fn_internal_race_Enable : FuncId := 243
abbrev fn_internal_race_Acquire : FuncId := 244
abbrev fn_internal_race_ReleaseMerge : FuncId := 246
abbrev fn_strings_byteStringReplacer_Replace : FuncId := 293
abbrev fn_internal_bytealg_CountString : FuncId := 296
abbrev T_x : TypeId := 0
abbrev T_int : TypeId := 3
abbrev T_bool : TypeId := 4
abbrev T_uint8 : TypeId := 5
abbrev T_string : TypeId := 9
abbrev T_int32 : TypeId := 21
abbrev T_api_Name : TypeId := 23
abbrev T_sl_api_Attr : TypeId := 24
abbrev T_sl_api_Node : TypeId := 25
abbrev T_api_Node : TypeId := 27
abbrev T_sl_int : TypeId := 28
abbrev T_sl_sl_int : TypeId := 33
abbrev T_uint : TypeId := 36
abbrev T_trail_Trail : TypeId := 40
abbrev T_sl_uint8 : TypeId := 49
abbrev T_ptr_strings_Builder : TypeId := 84
abbrev T_strings_Builder : TypeId := 86
abbrev T_canon_writer : TypeId := 88
abbrev T_api_Attr : TypeId := 98
abbrev T_ptr_uint8 : TypeId := 121
abbrev T_int32_int : TypeId := 124
abbrev T_strings_asciiSet : TypeId := 129
abbrev T_strings_asciiSet_bool : TypeId := 130
abbrev T_ptr_strings_asciiSet : TypeId := 133
abbrev T_label_writer : TypeId := 137
abbrev T_unsafe_Pointer : TypeId := 160
abbrev T_256_uint8 : TypeId := 163
abbrev T_utf8_acceptRange : TypeId := 165
abbrev T_16_utf8_acceptRange : TypeId := 166
abbrev T_char_span : TypeId := 169
abbrev T_uint16 : TypeId := 171
abbrev T_128_uint16 : TypeId := 172
abbrev T_uint32 : TypeId := 215
abbrev T_uint32_uint32 : TypeId := 255
abbrev T_ptr_strings_byteStringReplacer : TypeId := 279
end Go.Proofs.YtmnbgcgealpcbaaGreatDoor

/- What the conditions of these functions are, reckoned by the reading; printed by program. -/
set_option maxRecDepth 100000
set_option linter.unusedVariables false
namespace Go.Proofs.YtmnbgcgealpcbaaGreatDoor
open Go Go.Vc

/-- lectern/label.Bytes -/
def VC_label_Bytes (l0p : Option Addr) (l0l : Nat) (l0c : Nat) (w : World) (J : Option Addr → Nat → Nat → Int → World → Prop) : Prop :=
  withJ (fun (x23 : Bool) (w1 : World) =>
  condB x23 (
  J none 0 0 (11 : Int) w1) (
  newB w1 (.cells ⟨[.slice none 0 0, .int .i64 (0 : Int)]⟩ T_label_writer) fun b25 w2 =>
  ∃ I_28 : Int → World → Nat → Prop, (∃ m : Nat, I_28 (0 : Int) w2 m) ∧ ∀ (x28 : Int) (w3 : World) (m : Nat), I_28 x28 w3 m → (
  condB (decide (x28 < ((l0l : Nat) : Int))) (
  idxA l0p l0l x28 fun a30 =>
  ldI .i64 w3 ((a30.add (x28.toNat * 1))) fun x31 =>
  callJ Tryz.prog fn_label_writer_number #[.pointer (some ⟨b25, 0, none⟩), .int .i64 x31] w3 [] fun (w4 : World) =>
  ldS w4 ⟨b25, 0, none⟩ fun x38p x38l x38c =>
  condB (decide (((x38l : Nat) : Int) > (120 : Int))) (
  J none 0 0 (5 : Int) w4) (
  ∃ m' : Nat, m' < m ∧ I_28 (w64 (x28 + (1 : Int))) w4 m')) (
  ldS w3 ⟨b25, 0, none⟩ fun x45p x45l x45c =>
  J x45p x45l x45c (0 : Int) w3)))) fun J_23 =>
  callJ Tryz.prog fn_slices_ContainsFunc_sl_int_int #[.slice l0p l0l l0c, .func (.func 97) #[] #[]] w [.one .bool] fun (r8 : Bool) (w5 : World) =>
  condB r8 (
  J_23 true w5) (
  condB (decide (((l0l : Nat) : Int) > (0 : Int))) (
  idxA l0p l0l (w64 (((l0l : Nat) : Int) - (1 : Int))) fun a18 =>
  ldI .i64 w5 ((a18.add ((w64 (((l0l : Nat) : Int) - (1 : Int))).toNat * 1))) fun x19 =>
  callJ Tryz.prog fn_label_odd #[.int .i64 x19] w5 [.one .bool] fun (r20 : Bool) (w6 : World) =>
  J_23 (!r20) w6) (
  J_23 false w5))
def ann_label_Bytes : Ann := .s (.o) (.s (.j [(23, .bool)] (.o) (.c (.s (.o) (.o)) (.o))) (.s (.o) (.s (.s (.o) (.b (.l [(28, .int .i64)] (.s (.o) (.s (.c (.o) (.o)) (.s (.b (.s (.o) (.s (.o) (.s (.o) (.c (.s (.o) (.o)) (.o)))))) (.o))))))) (.s (.o) (.o)))))
theorem eq_label_Bytes (l0p : Option Addr) (l0l : Nat) (l0c : Nat) (w : World) (J : Option Addr → Nat → Nat → Int → World → Prop) : vcFun Tryz.prog Tryz.f63 ann_label_Bytes [.one .slice, .one (.int .i64)] [.slice l0p l0l l0c] w J = VC_label_Bytes l0p l0l l0c w J := by kernel_rfl
theorem c_label_Bytes {l0p : Option Addr} {l0l : Nat} {l0c : Nat} {w : World} {J : Option Addr → Nat → Nat → Int → World → Prop} (h : VC_label_Bytes l0p l0l l0c w J) : callJ Tryz.prog fn_label_Bytes #[.slice l0p l0l l0c] w [.one .slice, .one (.int .i64)] J := vc_calls Tryz.func63 ann_label_Bytes (Eq.mpr (eq_label_Bytes l0p l0l l0c w J) h)

/-- slices.ContainsFunc[[]int,int] -/
def VC_slices_ContainsFunc_sl_int_int_f1_97 (s0p : Option Addr) (s0l : Nat) (s0c : Nat) (w : World) (J : Bool → World → Prop) : Prop :=
  callJ Tryz.prog fn_slices_IndexFunc_sl_int_int #[.slice s0p s0l s0c, .func (.func 97) #[] #[]] w [.one (.int .i64)] fun (r7 : Int) (w1 : World) =>
  J (decide (r7 ≥ (0 : Int))) w1
def ann_slices_ContainsFunc_sl_int_int_f1_97 : Ann := .s (.o) (.s (.o) (.o))
theorem eq_slices_ContainsFunc_sl_int_int_f1_97 (s0p : Option Addr) (s0l : Nat) (s0c : Nat) (w : World) (J : Bool → World → Prop) : vcFun Tryz.prog Tryz.f96 ann_slices_ContainsFunc_sl_int_int_f1_97 [.one .bool] [.slice s0p s0l s0c, .func (.func 97) #[] #[]] w J = VC_slices_ContainsFunc_sl_int_int_f1_97 s0p s0l s0c w J := by kernel_rfl
theorem c_slices_ContainsFunc_sl_int_int_f1_97 {s0p : Option Addr} {s0l : Nat} {s0c : Nat} {w : World} {J : Bool → World → Prop} (h : VC_slices_ContainsFunc_sl_int_int_f1_97 s0p s0l s0c w J) : callJ Tryz.prog fn_slices_ContainsFunc_sl_int_int #[.slice s0p s0l s0c, .func (.func 97) #[] #[]] w [.one .bool] J := vc_calls Tryz.func96 ann_slices_ContainsFunc_sl_int_int_f1_97 (Eq.mpr (eq_slices_ContainsFunc_sl_int_int_f1_97 s0p s0l s0c w J) h)

/-- slices.IndexFunc[[]int,int] -/
def VC_slices_IndexFunc_sl_int_int_f1_97 (s0p : Option Addr) (s0l : Nat) (s0c : Nat) (w : World) (J : Int → World → Prop) : Prop :=
  ∃ I_8 : Int → World → Nat → Prop, (∃ m : Nat, I_8 (0 : Int) w m) ∧ ∀ (x8 : Int) (w1 : World) (m : Nat), I_8 x8 w1 m → (
  condB (decide (x8 < ((s0l : Nat) : Int))) (
  idxA s0p s0l x8 fun a14 =>
  ldI .i64 w1 ((a14.add (x8.toNat * 1))) fun x15 =>
  callJ Tryz.prog fn_label_Bytes_1 #[.int .i64 x15] w1 [.one .bool] fun (r16 : Bool) (w2 : World) =>
  condB r16 (
  J x8 w2) (
  ∃ m' : Nat, m' < m ∧ I_8 (w64 (x8 + (1 : Int))) w2 m')) (
  J (-1 : Int) w1))
def ann_slices_IndexFunc_sl_int_int_f1_97 : Ann := .s (.o) (.s (.s (.o) (.b (.l [(8, .int .i64)] (.s (.o) (.s (.c (.o) (.o)) (.s (.b (.s (.o) (.s (.o) (.c (.s (.o) (.o)) (.o))))) (.o))))))) (.s (.o) (.o)))
theorem eq_slices_IndexFunc_sl_int_int_f1_97 (s0p : Option Addr) (s0l : Nat) (s0c : Nat) (w : World) (J : Int → World → Prop) : vcFun Tryz.prog Tryz.f134 ann_slices_IndexFunc_sl_int_int_f1_97 [.one (.int .i64)] [.slice s0p s0l s0c, .func (.func 97) #[] #[]] w J = VC_slices_IndexFunc_sl_int_int_f1_97 s0p s0l s0c w J := by kernel_rfl
theorem c_slices_IndexFunc_sl_int_int_f1_97 {s0p : Option Addr} {s0l : Nat} {s0c : Nat} {w : World} {J : Int → World → Prop} (h : VC_slices_IndexFunc_sl_int_int_f1_97 s0p s0l s0c w J) : callJ Tryz.prog fn_slices_IndexFunc_sl_int_int #[.slice s0p s0l s0c, .func (.func 97) #[] #[]] w [.one (.int .i64)] J := vc_calls Tryz.func134 ann_slices_IndexFunc_sl_int_int_f1_97 (Eq.mpr (eq_slices_IndexFunc_sl_int_int_f1_97 s0p s0l s0c w J) h)

/-- lectern/label.Bytes$1 -/
def VC_label_Bytes_1 (v0 : Int) (w : World) (J : Bool → World → Prop) : Prop :=
  withJ (fun (x2 : Bool) (w1 : World) =>
  J x2 w1) fun J_2 =>
  condB (decide (v0 < (-1073741824 : Int))) (
  J_2 true w) (
  J_2 (decide (v0 > (1073741824 : Int))) w)
def ann_label_Bytes_1 : Ann := .s (.o) (.j [(2, .bool)] (.o) (.o))
theorem eq_label_Bytes_1 (v0 : Int) (w : World) (J : Bool → World → Prop) : vcFun Tryz.prog Tryz.f97 ann_label_Bytes_1 [.one .bool] [.int .i64 v0] w J = VC_label_Bytes_1 v0 w J := by kernel_rfl
theorem c_label_Bytes_1 {v0 : Int} {w : World} {J : Bool → World → Prop} (h : VC_label_Bytes_1 v0 w J) : callJ Tryz.prog fn_label_Bytes_1 #[.int .i64 v0] w [.one .bool] J := vc_calls Tryz.func97 ann_label_Bytes_1 (Eq.mpr (eq_label_Bytes_1 v0 w J) h)

/-- lectern/label.odd -/
def VC_label_odd (n0 : Int) (w : World) (J : Bool → World → Prop) : Prop :=
  J ((bAnd .i64 n0 (1 : Int)) == (1 : Int)) w
def ann_label_odd : Ann := .s (.o) (.s (.o) (.o))
theorem eq_label_odd (n0 : Int) (w : World) (J : Bool → World → Prop) : vcFun Tryz.prog Tryz.f38 ann_label_odd [.one .bool] [.int .i64 n0] w J = VC_label_odd n0 w J := by kernel_rfl
theorem c_label_odd {n0 : Int} {w : World} {J : Bool → World → Prop} (h : VC_label_odd n0 w J) : callJ Tryz.prog fn_label_odd #[.int .i64 n0] w [.one .bool] J := vc_calls Tryz.func38 ann_label_odd (Eq.mpr (eq_label_odd n0 w J) h)

/-- (lectern/label.writer).number -/
def VC_label_writer_number_n0 (ww0 : Addr) (v1 : Int) (w : World) (J : World → Prop) : Prop :=
  withJ (fun (n5 : Int) (w1 : World) =>
  callJ Tryz.prog fn_label_writer_bit #[.pointer (some ww0), .bool (!(decide (v1 < (0 : Int))))] w1 [] fun (w2 : World) =>
  callJ Tryz.prog fn_math_bits_Len #[.int .u64 n5] w2 [.one (.int .i64)] fun (r22 : Int) (w3 : World) =>
  ∃ I_25 : Int → World → Nat → Prop, (∃ m : Nat, I_25 (0 : Int) w3 m) ∧ ∀ (x25 : Int) (w4 : World) (m : Nat), I_25 x25 w4 m → (
  condB (decide (x25 < (w64 (r22 - (1 : Int))))) (
  callJ Tryz.prog fn_label_writer_bit #[.pointer (some ww0), .bool (!(decide (v1 < (0 : Int))))] w4 [] fun (w5 : World) =>
  ∃ m' : Nat, m' < m ∧ I_25 (w64 (x25 + (1 : Int))) w5 m') (
  callJ Tryz.prog fn_label_writer_bit #[.pointer (some ww0), .bool (decide (v1 < (0 : Int)))] w4 [] fun (w6 : World) =>
  ∃ I_7 : Int → World → Nat → Prop, (∃ m : Nat, I_7 (w64 (r22 - (2 : Int))) w6 m) ∧ ∀ (i7 : Int) (w7 : World) (m_1 : Nat), I_7 i7 w7 m_1 → (
  condB (decide (i7 ≥ (0 : Int))) (
  0 ≤ i7 ∧
  callJ Tryz.prog fn_label_writer_bit #[.pointer (some ww0), .bool (!(((bAnd .u64 (shrI .u64 n5 i7) (1 : Int)) == (1 : Int)) == (decide (v1 < (0 : Int)))))] w7 [] fun (w8 : World) =>
  ∃ m' : Nat, m' < m_1 ∧ I_7 (w64 (i7 - (1 : Int))) w8 m') (
  J w7))))) fun J_5 =>
  condB (decide (v1 < (0 : Int))) (
  J_5 (IntKind.u64.wrap (w64 (0 - v1))) w) (
  J_5 (IntKind.u64.wrap (w64 (v1 + (1 : Int)))) w)
def ann_label_writer_number_n0 : Ann := .s (.o) (.s (.o) (.j [(5, .int .u64)] (.s (.o) (.c (.o) (.o))) (.s (.o) (.s (.o) (.s (.s (.o) (.b (.l [(25, .int .i64)] (.s (.o) (.s (.c (.o) (.o)) (.s (.b (.o)) (.o))))))) (.s (.o) (.s (.o) (.b (.l [(7, .int .i64)] (.s (.s (.o) (.c (.o) (.o))) (.s (.b (.o)) (.o))))))))))))
theorem eq_label_writer_number_n0 (ww0 : Addr) (v1 : Int) (w : World) (J : World → Prop) : vcFun Tryz.prog Tryz.f98 ann_label_writer_number_n0 [] [.pointer (some ww0), .int .i64 v1] w J = VC_label_writer_number_n0 ww0 v1 w J := by kernel_rfl
theorem c_label_writer_number_n0 {ww0 : Addr} {v1 : Int} {w : World} {J : World → Prop} (h : VC_label_writer_number_n0 ww0 v1 w J) : callJ Tryz.prog fn_label_writer_number #[.pointer (some ww0), .int .i64 v1] w [] J := vc_calls Tryz.func98 ann_label_writer_number_n0 (Eq.mpr (eq_label_writer_number_n0 ww0 v1 w J) h)

/-- (lectern/label.writer).bit -/
def VC_label_writer_bit_n0 (ww0 : Addr) (on1 : Bool) (w : World) (J : World → Prop) : Prop :=
  withJ (fun (w1 : World) =>
  withJ (fun (w2 : World) =>
  ldI .i64 w2 ((ww0.add 1)) fun x42 =>
  stV w2 ((ww0.add 1)) (.int .i64 (w64 (x42 + (1 : Int)))) fun w3 =>
  J w3) fun J_0_1 =>
  condB on1 (
  ldS w1.drew ww0 fun x23p x23l x23c =>
  ldI .i64 w1.drew ((ww0.add 1)) fun x27 =>
  (8 : Int) ≠ 0 ∧
  idxA x23p x23l (w64 (Int.tdiv x27 (8 : Int))) fun a29 =>
  ldI .u8 w1.drew ((a29.add ((w64 (Int.tdiv x27 (8 : Int))).toNat * 1))) fun x30 =>
  ldI .i64 w1.drew ((ww0.add 1)) fun x34 =>
  (8 : Int) ≠ 0 ∧
  0 ≤ (Int.tmod x34 (8 : Int)) ∧
  idxA x23p x23l (w64 (Int.tdiv x27 (8 : Int))) fun a38 =>
  stV w1.drew ((a38.add ((w64 (Int.tdiv x27 (8 : Int))).toNat * 1))) (.int .u8 (bOr .u8 x30 (shrI .u8 (128 : Int) (Int.tmod x34 (8 : Int))))) fun w4 =>
  J_0_1 w4) (
  J_0_1 w1)) fun J_0 =>
  ldI .i64 w ((ww0.add 1)) fun x7 =>
  (8 : Int) ≠ 0 ∧
  condB ((Int.tmod x7 (8 : Int)) == (0 : Int)) (
  ldS w ww0 fun x14p x14l x14c =>
  newB w (.cells ⟨[.int .u8 (0 : Int)]⟩ T_uint8) fun b15 w5 =>
  appJ Tryz.prog T_sl_uint8 T_sl_uint8 (.slice x14p x14l x14c) (.slice (some ⟨b15, 0, none⟩) 1 1) w5 fun q16p q16l q16c w6 =>
  stV w6 ww0 (.slice q16p q16l q16c) fun w7 =>
  J_0 w7) (
  J_0 w)
def ann_label_writer_bit_n0 : Ann := .j [] (.s (.o) (.c (.o) (.o))) (.j [] (.s (.o) (.c (.d (.take 0 (.take 1 (.take 2 (.take 3 (.take 4 (.take 5 (.take 6 (.take 7 (.take 8 (.take 9 (.take 10 (.take 11 (.take 12 (.take 13 (.take 14 (.take 15 (.take 16 (.take 17 (.take 18 (.eff 19 (.done) (.none)))))))))))))))))))))) (.o))) (.o))
theorem eq_label_writer_bit_n0 (ww0 : Addr) (on1 : Bool) (w : World) (J : World → Prop) : vcFun Tryz.prog Tryz.f135 ann_label_writer_bit_n0 [] [.pointer (some ww0), .bool on1] w J = VC_label_writer_bit_n0 ww0 on1 w J := by kernel_rfl
theorem c_label_writer_bit_n0 {ww0 : Addr} {on1 : Bool} {w : World} {J : World → Prop} (h : VC_label_writer_bit_n0 ww0 on1 w J) : callJ Tryz.prog fn_label_writer_bit #[.pointer (some ww0), .bool on1] w [] J := vc_calls Tryz.func135 ann_label_writer_bit_n0 (Eq.mpr (eq_label_writer_bit_n0 ww0 on1 w J) h)

/-- math/bits.Len -/
def VC_math_bits_Len (x0 : Int) (w : World) (J : Int → World → Prop) : Prop :=
  callJ Tryz.prog fn_math_bits_Len64 #[.int .u64 x0] w [.one (.int .i64)] fun (r7 : Int) (w1 : World) =>
  J r7 w1
def ann_math_bits_Len : Ann := .s (.o) (.s (.c .u (.o)) (.s (.o) (.o)))
theorem eq_math_bits_Len (x0 : Int) (w : World) (J : Int → World → Prop) : vcFun Tryz.prog Tryz.f136 ann_math_bits_Len [.one (.int .i64)] [.int .u64 x0] w J = VC_math_bits_Len x0 w J := by kernel_rfl
theorem c_math_bits_Len {x0 : Int} {w : World} {J : Int → World → Prop} (h : VC_math_bits_Len x0 w J) : callJ Tryz.prog fn_math_bits_Len #[.int .u64 x0] w [.one (.int .i64)] J := vc_calls Tryz.func136 ann_math_bits_Len (Eq.mpr (eq_math_bits_Len x0 w J) h)

/-- math/bits.Len64 -/
def VC_math_bits_Len64 (x0 : Int) (w : World) (J : Int → World → Prop) : Prop :=
  withJ (fun (x0 : Int) (n2 : Int) (w1 : World) =>
  withJ (fun (x0_1 : Int) (n2_1 : Int) (w2 : World) =>
  withJ (fun (x0_2 : Int) (n2_2 : Int) (w3 : World) =>
  idxStr ⟨#[0, 1, 2, 2, 3, 3, 3, 3, 4, 4, 4, 4, 4, 4, 4, 4, 5, 5, 5, 5, 5, 5, 5, 5, 5, 5, 5, 5, 5, 5, 5, 5, 6, 6, 6, 6, 6, 6, 6, 6, 6, 6, 6, 6, 6, 6, 6, 6, 6, 6, 6, 6, 6, 6, 6, 6, 6, 6, 6, 6, 6, 6, 6, 6, 7, 7, 7, 7, 7, 7, 7, 7, 7, 7, 7, 7, 7, 7, 7, 7, 7, 7, 7, 7, 7, 7, 7, 7, 7, 7, 7, 7, 7, 7, 7, 7, 7, 7, 7, 7, 7, 7, 7, 7, 7, 7, 7, 7, 7, 7, 7, 7, 7, 7, 7, 7, 7, 7, 7, 7, 7, 7, 7, 7, 7, 7, 7, 7, 8, 8, 8, 8, 8, 8, 8, 8, 8, 8, 8, 8, 8, 8, 8, 8, 8, 8, 8, 8, 8, 8, 8, 8, 8, 8, 8, 8, 8, 8, 8, 8, 8, 8, 8, 8, 8, 8, 8, 8, 8, 8, 8, 8, 8, 8, 8, 8, 8, 8, 8, 8, 8, 8, 8, 8, 8, 8, 8, 8, 8, 8, 8, 8, 8, 8, 8, 8, 8, 8, 8, 8, 8, 8, 8, 8, 8, 8, 8, 8, 8, 8, 8, 8, 8, 8, 8, 8, 8, 8, 8, 8, 8, 8, 8, 8, 8, 8, 8, 8, 8, 8, 8, 8, 8, 8, 8, 8, 8, 8, 8, 8, 8, 8, 8, 8, 8, 8, 8, 8, 8, 8, 8, 8, 8, 8, 8, 8]⟩ (IntKind.u8.wrap x0_2) fun x22 =>
  J (w64 (n2_2 + (w64 x22))) w3) fun J_0_2 =>
  condB (decide (x0_1 ≥ (256 : Int))) (
  0 ≤ (8 : Int) ∧
  J_0_2 (shrI .u64 x0_1 (8 : Int)) (w64 (n2_1 + (8 : Int))) w2) (
  J_0_2 x0_1 n2_1 w2)) fun J_0_1 =>
  condB (decide (x0 ≥ (65536 : Int))) (
  0 ≤ (16 : Int) ∧
  J_0_1 (shrI .u64 x0 (16 : Int)) (w64 (n2 + (16 : Int))) w1) (
  J_0_1 x0 n2 w1)) fun J_0 =>
  condB (decide (x0 ≥ (4294967296 : Int))) (
  0 ≤ (32 : Int) ∧
  J_0 (shrI .u64 x0 (32 : Int)) (32 : Int) w) (
  J_0 x0 (0 : Int) w)
def ann_math_bits_Len64 : Ann := .s (.o) (.j [(0, .int .u64), (2, .int .i64)] (.s (.o) (.c (.s (.o) (.o)) (.o))) (.j [(0, .int .u64), (2, .int .i64)] (.s (.o) (.c (.s (.o) (.o)) (.o))) (.j [(0, .int .u64), (2, .int .i64)] (.s (.o) (.c (.s (.o) (.o)) (.o))) (.s (.o) (.o)))))
theorem eq_math_bits_Len64 (x0 : Int) (w : World) (J : Int → World → Prop) : vcFun Tryz.prog Tryz.f174 ann_math_bits_Len64 [.one (.int .i64)] [.int .u64 x0] w J = VC_math_bits_Len64 x0 w J := by kernel_rfl
theorem c_math_bits_Len64 {x0 : Int} {w : World} {J : Int → World → Prop} (h : VC_math_bits_Len64 x0 w J) : callJ Tryz.prog fn_math_bits_Len64 #[.int .u64 x0] w [.one (.int .i64)] J := vc_calls Tryz.func174 ann_math_bits_Len64 (Eq.mpr (eq_math_bits_Len64 x0 w J) h)

/-- lectern/label.Check -/
def VC_label_Check (l0p : Option Addr) (l0l : Nat) (l0c : Nat) (w : World) (J : Int → World → Prop) : Prop :=
  callJ Tryz.prog fn_label_Bytes #[.slice l0p l0l l0c] w [.one .slice, .one (.int .i64)] fun (r7_0p : Option Addr) (r7_0l : Nat) (r7_0c : Nat) (r7_1 : Int) (w1 : World) =>
  J r7_1 w1
def ann_label_Check : Ann := .s (.o) (.s (.o) (.s (.o) (.o)))
theorem eq_label_Check (l0p : Option Addr) (l0l : Nat) (l0c : Nat) (w : World) (J : Int → World → Prop) : vcFun Tryz.prog Tryz.f28 ann_label_Check [.one (.int .i64)] [.slice l0p l0l l0c] w J = VC_label_Check l0p l0l l0c w J := by kernel_rfl
theorem c_label_Check {l0p : Option Addr} {l0l : Nat} {l0c : Nat} {w : World} {J : Int → World → Prop} (h : VC_label_Check l0p l0l l0c w J) : callJ Tryz.prog fn_label_Check #[.slice l0p l0l l0c] w [.one (.int .i64)] J := vc_calls Tryz.func28 ann_label_Check (Eq.mpr (eq_label_Check l0p l0l l0c w J) h)

/-- lectern/label.Compare -/
def VC_label_Compare (a0p : Option Addr) (a0l : Nat) (a0c : Nat) (b1p : Option Addr) (b1l : Nat) (b1c : Nat) (w : World) (J : Int → World → Prop) : Prop :=
  callJ Tryz.prog fn_slices_Compare_sl_int_int #[.slice a0p a0l a0c, .slice b1p b1l b1c] w [.one (.int .i64)] fun (r7 : Int) (w1 : World) =>
  J r7 w1
def ann_label_Compare : Ann := .s (.o) (.s (.o) (.o))
theorem eq_label_Compare (a0p : Option Addr) (a0l : Nat) (a0c : Nat) (b1p : Option Addr) (b1l : Nat) (b1c : Nat) (w : World) (J : Int → World → Prop) : vcFun Tryz.prog Tryz.f10 ann_label_Compare [.one (.int .i64)] [.slice a0p a0l a0c, .slice b1p b1l b1c] w J = VC_label_Compare a0p a0l a0c b1p b1l b1c w J := by kernel_rfl
theorem c_label_Compare {a0p : Option Addr} {a0l : Nat} {a0c : Nat} {b1p : Option Addr} {b1l : Nat} {b1c : Nat} {w : World} {J : Int → World → Prop} (h : VC_label_Compare a0p a0l a0c b1p b1l b1c w J) : callJ Tryz.prog fn_label_Compare #[.slice a0p a0l a0c, .slice b1p b1l b1c] w [.one (.int .i64)] J := vc_calls Tryz.func10 ann_label_Compare (Eq.mpr (eq_label_Compare a0p a0l a0c b1p b1l b1c w J) h)

/-- slices.Compare[[]int,int] -/
def VC_slices_Compare_sl_int_int (s10p : Option Addr) (s10l : Nat) (s10c : Nat) (s21p : Option Addr) (s21l : Nat) (s21c : Nat) (w : World) (J : Int → World → Prop) : Prop :=
  ∃ I_11 : Int → World → Nat → Prop, (∃ m : Nat, I_11 (0 : Int) w m) ∧ ∀ (x11 : Int) (w1 : World) (m : Nat), I_11 x11 w1 m → (
  condB (decide (x11 < ((s10l : Nat) : Int))) (
  idxA s10p s10l x11 fun a14 =>
  ldI .i64 w1 ((a14.add (x11.toNat * 1))) fun x15 =>
  condB (decide (x11 ≥ ((s21l : Nat) : Int))) (
  J (1 : Int) w1) (
  idxA s21p s21l x11 fun a22 =>
  ldI .i64 w1 ((a22.add (x11.toNat * 1))) fun x23 =>
  callJ Tryz.prog fn_cmp_Compare_int #[.int .i64 x15, .int .i64 x23] w1 [.one (.int .i64)] fun (r26 : Int) (w2 : World) =>
  condB (r26 != (0 : Int)) (
  J r26 w2) (
  ∃ m' : Nat, m' < m ∧ I_11 (w64 (x11 + (1 : Int))) w2 m'))) (
  condB (decide (((s10l : Nat) : Int) < ((s21l : Nat) : Int))) (
  J (-1 : Int) w1) (
  J (0 : Int) w1)))
def ann_slices_Compare_sl_int_int : Ann := .s (.o) (.s (.s (.o) (.b (.l [(11, .int .i64)] (.s (.o) (.s (.c (.o) (.o)) (.s (.b (.s (.o) (.s (.s (.o) (.c (.s (.o) (.o)) (.o))) (.s (.o) (.s (.o) (.s (.o) (.c (.s (.o) (.o)) (.o)))))))) (.o))))))) (.s (.s (.o) (.c (.s (.o) (.o)) (.o))) (.s (.o) (.o))))
theorem eq_slices_Compare_sl_int_int (s10p : Option Addr) (s10l : Nat) (s10c : Nat) (s21p : Option Addr) (s21l : Nat) (s21c : Nat) (w : World) (J : Int → World → Prop) : vcFun Tryz.prog Tryz.f34 ann_slices_Compare_sl_int_int [.one (.int .i64)] [.slice s10p s10l s10c, .slice s21p s21l s21c] w J = VC_slices_Compare_sl_int_int s10p s10l s10c s21p s21l s21c w J := by kernel_rfl
theorem c_slices_Compare_sl_int_int {s10p : Option Addr} {s10l : Nat} {s10c : Nat} {s21p : Option Addr} {s21l : Nat} {s21c : Nat} {w : World} {J : Int → World → Prop} (h : VC_slices_Compare_sl_int_int s10p s10l s10c s21p s21l s21c w J) : callJ Tryz.prog fn_slices_Compare_sl_int_int #[.slice s10p s10l s10c, .slice s21p s21l s21c] w [.one (.int .i64)] J := vc_calls Tryz.func34 ann_slices_Compare_sl_int_int (Eq.mpr (eq_slices_Compare_sl_int_int s10p s10l s10c s21p s21l s21c w J) h)

/-- cmp.Compare[int] -/
def VC_cmp_Compare_int (x0 : Int) (y1 : Int) (w : World) (J : Int → World → Prop) : Prop :=
  callJ Tryz.prog fn_cmp_isNaN_int #[.int .i64 x0] w [.one .bool] fun (r8 : Bool) (w1 : World) =>
  callJ Tryz.prog fn_cmp_isNaN_int #[.int .i64 y1] w1 [.one .bool] fun (r10 : Bool) (w2 : World) =>
  condB r8 (
  condB r10 (
  J (0 : Int) w2) (
  J (-1 : Int) w2)) (
  condB r10 (
  J (1 : Int) w2) (
  condB (decide (x0 < y1)) (
  J (-1 : Int) w2) (
  condB (decide (x0 > y1)) (
  J (1 : Int) w2) (
  J (0 : Int) w2))))
def ann_cmp_Compare_int : Ann := .s (.o) (.s (.o) (.s (.o) (.s (.s (.o) (.c (.s (.s (.o) (.c (.s (.o) (.o)) (.o))) (.s (.o) (.o))) (.o))) (.s (.s (.o) (.c (.s (.o) (.o)) (.o))) (.s (.s (.o) (.c (.s (.o) (.o)) (.o))) (.s (.s (.o) (.c (.s (.o) (.o)) (.o))) (.s (.o) (.o))))))))
theorem eq_cmp_Compare_int (x0 : Int) (y1 : Int) (w : World) (J : Int → World → Prop) : vcFun Tryz.prog Tryz.f35 ann_cmp_Compare_int [.one (.int .i64)] [.int .i64 x0, .int .i64 y1] w J = VC_cmp_Compare_int x0 y1 w J := by kernel_rfl
theorem c_cmp_Compare_int {x0 : Int} {y1 : Int} {w : World} {J : Int → World → Prop} (h : VC_cmp_Compare_int x0 y1 w J) : callJ Tryz.prog fn_cmp_Compare_int #[.int .i64 x0, .int .i64 y1] w [.one (.int .i64)] J := vc_calls Tryz.func35 ann_cmp_Compare_int (Eq.mpr (eq_cmp_Compare_int x0 y1 w J) h)

/-- cmp.isNaN[int] -/
def VC_cmp_isNaN_int (x0 : Int) (w : World) (J : Bool → World → Prop) : Prop :=
  J (x0 != x0) w
def ann_cmp_isNaN_int : Ann := .s (.o) (.s (.o) (.o))
theorem eq_cmp_isNaN_int (x0 : Int) (w : World) (J : Bool → World → Prop) : vcFun Tryz.prog Tryz.f65 ann_cmp_isNaN_int [.one .bool] [.int .i64 x0] w J = VC_cmp_isNaN_int x0 w J := by kernel_rfl
theorem c_cmp_isNaN_int {x0 : Int} {w : World} {J : Bool → World → Prop} (h : VC_cmp_isNaN_int x0 w J) : callJ Tryz.prog fn_cmp_isNaN_int #[.int .i64 x0] w [.one .bool] J := vc_calls Tryz.func65 ann_cmp_isNaN_int (Eq.mpr (eq_cmp_isNaN_int x0 w J) h)

/-- slices.Equal[[]int,int] -/
def VC_slices_Equal_sl_int_int (s10p : Option Addr) (s10l : Nat) (s10c : Nat) (s21p : Option Addr) (s21l : Nat) (s21c : Nat) (w : World) (J : Bool → World → Prop) : Prop :=
  condB (((s10l : Nat) : Int) != ((s21l : Nat) : Int)) (
  J false w) (
  ∃ I_13 : Int → World → Nat → Prop, (∃ m : Nat, I_13 (0 : Int) w m) ∧ ∀ (x13 : Int) (w1 : World) (m : Nat), I_13 x13 w1 m → (
  condB (decide (x13 < ((s10l : Nat) : Int))) (
  idxA s10p s10l x13 fun a18 =>
  ldI .i64 w1.drew ((a18.add (x13.toNat * 1))) fun x19 =>
  idxA s21p s21l x13 fun a22 =>
  ldI .i64 w1.drew ((a22.add (x13.toNat * 1))) fun x23 =>
  condB (x19 != x23) (
  J false w1.drew) (
  ∃ m' : Nat, m' < m ∧ I_13 (w64 (x13 + (1 : Int))) w1.drew m')) (
  J true w1)))
def ann_slices_Equal_sl_int_int : Ann := .s (.o) (.s (.s (.o) (.c (.s (.o) (.o)) (.o))) (.s (.s (.o) (.b (.l [(13, .int .i64)] (.s (.o) (.s (.c (.o) (.o)) (.s (.b (.s (.o) (.s (.d (.take 0 (.take 1 (.take 2 (.take 3 (.take 4 (.take 5 (.take 6 (.take 7 (.take 8 (.done))))))))))) (.c (.s (.o) (.o)) (.o))))) (.o))))))) (.s (.o) (.o))))
theorem eq_slices_Equal_sl_int_int (s10p : Option Addr) (s10l : Nat) (s10c : Nat) (s21p : Option Addr) (s21l : Nat) (s21c : Nat) (w : World) (J : Bool → World → Prop) : vcFun Tryz.prog Tryz.f37 ann_slices_Equal_sl_int_int [.one .bool] [.slice s10p s10l s10c, .slice s21p s21l s21c] w J = VC_slices_Equal_sl_int_int s10p s10l s10c s21p s21l s21c w J := by kernel_rfl
theorem c_slices_Equal_sl_int_int {s10p : Option Addr} {s10l : Nat} {s10c : Nat} {s21p : Option Addr} {s21l : Nat} {s21c : Nat} {w : World} {J : Bool → World → Prop} (h : VC_slices_Equal_sl_int_int s10p s10l s10c s21p s21l s21c w J) : callJ Tryz.prog fn_slices_Equal_sl_int_int #[.slice s10p s10l s10c, .slice s21p s21l s21c] w [.one .bool] J := vc_calls Tryz.func37 ann_slices_Equal_sl_int_int (Eq.mpr (eq_slices_Equal_sl_int_int s10p s10l s10c s21p s21l s21c w J) h)

/-- slices.Clone[[]int,int] -/
def VC_slices_Clone_sl_int_int (s0p : Option Addr) (s0l : Nat) (s0c : Nat) (w : World) (J : Option Addr → Nat → Nat → World → Prop) : Prop :=
  condB s0p.isNone (
  J none 0 0 w) (
  newB w (.cells ⟨[]⟩ T_int) fun b5 w1 =>
  appJ Tryz.prog T_sl_int T_sl_int (.slice (some ⟨b5, 0, none⟩) 0 0) (.slice s0p s0l s0c) w1 fun q7p q7l q7c w2 =>
  J q7p q7l q7c w2)
def ann_slices_Clone_sl_int_int : Ann := .s (.o) (.s (.s (.o) (.c (.s (.o) (.o)) (.o))) (.s (.o) (.o)))
theorem eq_slices_Clone_sl_int_int (s0p : Option Addr) (s0l : Nat) (s0c : Nat) (w : World) (J : Option Addr → Nat → Nat → World → Prop) : vcFun Tryz.prog Tryz.f30 ann_slices_Clone_sl_int_int [.one .slice] [.slice s0p s0l s0c] w J = VC_slices_Clone_sl_int_int s0p s0l s0c w J := by kernel_rfl
theorem c_slices_Clone_sl_int_int {s0p : Option Addr} {s0l : Nat} {s0c : Nat} {w : World} {J : Option Addr → Nat → Nat → World → Prop} (h : VC_slices_Clone_sl_int_int s0p s0l s0c w J) : callJ Tryz.prog fn_slices_Clone_sl_int_int #[.slice s0p s0l s0c] w [.one .slice] J := vc_calls Tryz.func30 ann_slices_Clone_sl_int_int (Eq.mpr (eq_slices_Clone_sl_int_int s0p s0l s0c w J) h)

/-- lectern/label.Above -/
def VC_label_Above (a0p : Option Addr) (a0l : Nat) (a0c : Nat) (b1p : Option Addr) (b1l : Nat) (b1c : Nat) (w : World) (J : Bool → World → Prop) : Prop :=
  withJ (fun (x4 : Bool) (w1 : World) =>
  J x4 w1) fun J_4 =>
  condB (decide (((b1l : Nat) : Int) > ((a0l : Nat) : Int))) (
  slS b1p b1l b1c 1 none (some ((a0l : Nat) : Int)) none fun q15p q15l q15c =>
  callJ Tryz.prog fn_slices_Equal_sl_int_int #[.slice a0p a0l a0c, .slice q15p q15l q15c] w [.one .bool] fun (r16 : Bool) (w2 : World) =>
  J_4 r16 w2) (
  J_4 false w)
def ann_label_Above : Ann := .s (.o) (.j [(4, .bool)] (.o) (.o))
theorem eq_label_Above (a0p : Option Addr) (a0l : Nat) (a0c : Nat) (b1p : Option Addr) (b1l : Nat) (b1c : Nat) (w : World) (J : Bool → World → Prop) : vcFun Tryz.prog Tryz.f12 ann_label_Above [.one .bool] [.slice a0p a0l a0c, .slice b1p b1l b1c] w J = VC_label_Above a0p a0l a0c b1p b1l b1c w J := by kernel_rfl
theorem c_label_Above {a0p : Option Addr} {a0l : Nat} {a0c : Nat} {b1p : Option Addr} {b1l : Nat} {b1c : Nat} {w : World} {J : Bool → World → Prop} (h : VC_label_Above a0p a0l a0c b1p b1l b1c w J) : callJ Tryz.prog fn_label_Above #[.slice a0p a0l a0c, .slice b1p b1l b1c] w [.one .bool] J := vc_calls Tryz.func12 ann_label_Above (Eq.mpr (eq_label_Above a0p a0l a0c b1p b1l b1c w J) h)

/-- lectern/label.Level -/
def VC_label_Level (l0p : Option Addr) (l0l : Nat) (l0c : Nat) (w : World) (J : Int → World → Prop) : Prop :=
  ∃ I_3 : Int → Int → World → Nat → Prop, (∃ m : Nat, I_3 (0 : Int) (0 : Int) w m) ∧ ∀ (n3 : Int) (x8 : Int) (w1 : World) (m : Nat), I_3 n3 x8 w1 m → (
  condB (decide (x8 < ((l0l : Nat) : Int))) (
  withJ (fun (n3_1 : Int) (w2 : World) =>
  ∃ m' : Nat, m' < m ∧ I_3 n3_1 (w64 (x8 + (1 : Int))) w2 m') fun J_3 =>
  idxA l0p l0l x8 fun a10 =>
  ldI .i64 w1 ((a10.add (x8.toNat * 1))) fun x11 =>
  callJ Tryz.prog fn_label_odd #[.int .i64 x11] w1 [.one .bool] fun (r13 : Bool) (w3 : World) =>
  condB r13 (
  J_3 (w64 (n3 + (1 : Int))) w3) (
  J_3 n3 w3)) (
  J n3 w1))
def ann_label_Level : Ann := .s (.o) (.s (.o) (.s (.s (.o) (.b (.l [(3, .int .i64), (8, .int .i64)] (.s (.o) (.s (.c (.o) (.o)) (.j [(3, .int .i64)] (.b (.s (.o) (.s (.o) (.c (.o) (.o))))) (.o))))))) (.s (.o) (.o))))
theorem eq_label_Level (l0p : Option Addr) (l0l : Nat) (l0c : Nat) (w : World) (J : Int → World → Prop) : vcFun Tryz.prog Tryz.f14 ann_label_Level [.one (.int .i64)] [.slice l0p l0l l0c] w J = VC_label_Level l0p l0l l0c w J := by kernel_rfl
theorem c_label_Level {l0p : Option Addr} {l0l : Nat} {l0c : Nat} {w : World} {J : Int → World → Prop} (h : VC_label_Level l0p l0l l0c w J) : callJ Tryz.prog fn_label_Level #[.slice l0p l0l l0c] w [.one (.int .i64)] J := vc_calls Tryz.func14 ann_label_Level (Eq.mpr (eq_label_Level l0p l0l l0c w J) h)

/-- lectern/label.Up -/
def VC_label_Up (l0p : Option Addr) (l0l : Nat) (l0c : Nat) (w : World) (J : Option Addr → Nat → Nat → World → Prop) : Prop :=
  ∃ I_3 : Int → World → Nat → Prop, (∃ m : Nat, I_3 (w64 (((l0l : Nat) : Int) - (1 : Int))) w m) ∧ ∀ (n3 : Int) (w1 : World) (m : Nat), I_3 n3 w1 m → (
  withJ (fun (x17 : Bool) (w2 : World) =>
  condB x17 (
  ∃ m' : Nat, m' < m ∧ I_3 (w64 (n3 - (1 : Int))) w2 m') (
  slS l0p l0l l0c 1 none (some (if (0 : Int) > n3 then (0 : Int) else n3)) none fun q23p q23l q23c =>
  callJ Tryz.prog fn_slices_Clone_sl_int_int #[.slice q23p q23l q23c] w2 [.one .slice] fun (r24p : Option Addr) (r24l : Nat) (r24c : Nat) (w3 : World) =>
  J r24p r24l r24c w3)) fun J_17 =>
  condB (decide (n3 > (0 : Int))) (
  idxA l0p l0l (w64 (n3 - (1 : Int))) fun a13 =>
  ldI .i64 w1 ((a13.add ((w64 (n3 - (1 : Int))).toNat * 1))) fun x14 =>
  callJ Tryz.prog fn_label_odd #[.int .i64 x14] w1 [.one .bool] fun (r15 : Bool) (w4 : World) =>
  J_17 (!r15) w4) (
  J_17 false w1))
def ann_label_Up : Ann := .s (.o) (.s (.o) (.s (.b (.l [(3, .int .i64)] (.s (.j [(17, .bool)] (.o) (.c (.o) (.o))) (.b (.o))))) (.s (.o) (.o))))
theorem eq_label_Up (l0p : Option Addr) (l0l : Nat) (l0c : Nat) (w : World) (J : Option Addr → Nat → Nat → World → Prop) : vcFun Tryz.prog Tryz.f64 ann_label_Up [.one .slice] [.slice l0p l0l l0c] w J = VC_label_Up l0p l0l l0c w J := by kernel_rfl
theorem c_label_Up {l0p : Option Addr} {l0l : Nat} {l0c : Nat} {w : World} {J : Option Addr → Nat → Nat → World → Prop} (h : VC_label_Up l0p l0l l0c w J) : callJ Tryz.prog fn_label_Up #[.slice l0p l0l l0c] w [.one .slice] J := vc_calls Tryz.func64 ann_label_Up (Eq.mpr (eq_label_Up l0p l0l l0c w J) h)

/-- lectern/label.Between -/
def VC_label_Between (up0p : Option Addr) (up0l : Nat) (up0c : Nat) (l1p : Option Addr) (l1l : Nat) (l1c : Nat) (r2p : Option Addr) (r2l : Nat) (r2c : Nat) (w : World) (J : Option Addr → Nat → Nat → Int → World → Prop) : Prop :=
  withJ (fun (x50 : Bool) (w1 : World) =>
  condB x50 (
  J none 0 0 (1 : Int) w1) (
  callJ Tryz.prog fn_slices_Clone_sl_int_int #[.slice up0p up0l up0c] w1 [.one .slice] fun (r52p : Option Addr) (r52l : Nat) (r52c : Nat) (w2 : World) =>
  withJ (fun (n8p : Option Addr) (n8l : Nat) (n8c : Nat) (w3 : World) =>
  callJ Tryz.prog fn_label_Check #[.slice n8p n8l n8c] w3 [.one (.int .i64)] fun (r115 : Int) (w4 : World) =>
  condB (r115 != (0 : Int)) (
  J none 0 0 (5 : Int) w4) (
  J n8p n8l n8c (0 : Int) w4)) fun J_8 =>
  withJ (fun (x78 : Bool) (w5 : World) =>
  condB x78 (
  newB w5 (.cells ⟨[.int .i64 (1 : Int)]⟩ T_int) fun b88 w6 =>
  appJ Tryz.prog T_sl_int T_sl_int (.slice r52p r52l r52c) (.slice (some ⟨b88, 0, none⟩) 1 1) w6 fun q89p q89l q89c w7 =>
  J_8 q89p q89l q89c w7) (
  condB (((r2l : Nat) : Int) == (0 : Int)) (
  idxA l1p l1l ((up0l : Nat) : Int) fun a97 =>
  ldI .i64 w5 ((a97.add (((up0l : Nat) : Int).toNat * 1))) fun x98 =>
  callJ Tryz.prog fn_label_behind #[.int .i64 x98] w5 [.one (.int .i64)] fun (r99 : Int) (w8 : World) =>
  newB w8 (.cells ⟨[.int .i64 r99]⟩ T_int) fun b100 w9 =>
  appJ Tryz.prog T_sl_int T_sl_int (.slice r52p r52l r52c) (.slice (some ⟨b100, 0, none⟩) 1 1) w9 fun q101p q101l q101c w10 =>
  J_8 q101p q101l q101c w10) (
  condB (((l1l : Nat) : Int) == (0 : Int)) (
  idxA r2p r2l ((up0l : Nat) : Int) fun a109 =>
  ldI .i64 w5 ((a109.add (((up0l : Nat) : Int).toNat * 1))) fun x110 =>
  callJ Tryz.prog fn_label_ahead #[.int .i64 x110] w5 [.one (.int .i64)] fun (r111 : Int) (w11 : World) =>
  newB w11 (.cells ⟨[.int .i64 r111]⟩ T_int) fun b112 w12 =>
  appJ Tryz.prog T_sl_int T_sl_int (.slice r52p r52l r52c) (.slice (some ⟨b112, 0, none⟩) 1 1) w12 fun q113p q113l q113c w13 =>
  J_8 q113p q113l q113c w13) (
  ∃ I_9 : Int → World → Nat → Prop, (∃ m : Nat, I_9 ((up0l : Nat) : Int) w5 m) ∧ ∀ (k9 : Int) (w14 : World) (m : Nat), I_9 k9 w14 m → (
  idxA l1p l1l k9 fun a57 =>
  ldI .i64 w14.drew ((a57.add (k9.toNat * 1))) fun x58 =>
  idxA r2p r2l k9 fun a61 =>
  ldI .i64 w14.drew ((a61.add (k9.toNat * 1))) fun x62 =>
  condB (x58 == x62) (
  ∃ m' : Nat, m' < m ∧ I_9 (w64 (k9 + (1 : Int))) w14.drew m') (
  slS l1p l1l l1c 1 none (some k9) none fun q68p q68l q68c =>
  slS l1p l1l l1c 1 (some k9) none none fun q72p q72l q72c =>
  slS r2p r2l r2c 1 (some k9) none none fun q75p q75l q75c =>
  callJ Tryz.prog fn_slices_Clone_sl_int_int #[.slice q68p q68l q68c] w14.drew.drew [.one .slice] fun (r69p : Option Addr) (r69l : Nat) (r69c : Nat) (w15 : World) =>
  callJ Tryz.prog fn_label_amid #[.slice q72p q72l q72c, .slice q75p q75l q75c] w15 [.one .slice] fun (r76p : Option Addr) (r76l : Nat) (r76c : Nat) (w16 : World) =>
  appJ Tryz.prog T_sl_int T_sl_int (.slice r69p r69l r69c) (.slice r76p r76l r76c) w16 fun q77p q77l q77c w17 =>
  J_8 q77p q77l q77c w17)))))) fun J_78 =>
  condB (((l1l : Nat) : Int) == (0 : Int)) (
  J_78 (((r2l : Nat) : Int) == (0 : Int)) w2) (
  J_78 false w2))) fun J_50 =>
  callJ Tryz.prog fn_label_Check #[.slice up0p up0l up0c] w [.one (.int .i64)] fun (r11 : Int) (w18 : World) =>
  condB (r11 != (0 : Int)) (
  J_50 true w18) (
  condB (decide (((l1l : Nat) : Int) > (0 : Int))) (
  callJ Tryz.prog fn_label_kid #[.slice up0p up0l up0c, .slice l1p l1l l1c] w18 [.one .bool] fun (r20 : Bool) (w19 : World) =>
  condB (!r20) (
  J_50 true w19) (
  condB (decide (((r2l : Nat) : Int) > (0 : Int))) (
  callJ Tryz.prog fn_label_kid #[.slice up0p up0l up0c, .slice r2p r2l r2c] w19 [.one .bool] fun (r31 : Bool) (w20 : World) =>
  condB (!r31) (
  J_50 true w20) (
  condB (decide (((l1l : Nat) : Int) > (0 : Int))) (
  condB (decide (((r2l : Nat) : Int) > (0 : Int))) (
  callJ Tryz.prog fn_label_Compare #[.slice l1p l1l l1c, .slice r2p r2l r2c] w20 [.one (.int .i64)] fun (r47 : Int) (w21 : World) =>
  J_50 (decide (r47 ≥ (0 : Int))) w21) (
  J_50 false w20)) (
  J_50 false w20))) (
  condB (decide (((l1l : Nat) : Int) > (0 : Int))) (
  condB (decide (((r2l : Nat) : Int) > (0 : Int))) (
  callJ Tryz.prog fn_label_Compare #[.slice l1p l1l l1c, .slice r2p r2l r2c] w19 [.one (.int .i64)] fun (r47_1 : Int) (w22 : World) =>
  J_50 (decide (r47_1 ≥ (0 : Int))) w22) (
  J_50 false w19)) (
  J_50 false w19)))) (
  condB (decide (((r2l : Nat) : Int) > (0 : Int))) (
  callJ Tryz.prog fn_label_kid #[.slice up0p up0l up0c, .slice r2p r2l r2c] w18 [.one .bool] fun (r31_1 : Bool) (w23 : World) =>
  condB (!r31_1) (
  J_50 true w23) (
  condB (decide (((l1l : Nat) : Int) > (0 : Int))) (
  condB (decide (((r2l : Nat) : Int) > (0 : Int))) (
  callJ Tryz.prog fn_label_Compare #[.slice l1p l1l l1c, .slice r2p r2l r2c] w23 [.one (.int .i64)] fun (r47_2 : Int) (w24 : World) =>
  J_50 (decide (r47_2 ≥ (0 : Int))) w24) (
  J_50 false w23)) (
  J_50 false w23))) (
  condB (decide (((l1l : Nat) : Int) > (0 : Int))) (
  condB (decide (((r2l : Nat) : Int) > (0 : Int))) (
  callJ Tryz.prog fn_label_Compare #[.slice l1p l1l l1c, .slice r2p r2l r2c] w18 [.one (.int .i64)] fun (r47_3 : Int) (w25 : World) =>
  J_50 (decide (r47_3 ≥ (0 : Int))) w25) (
  J_50 false w18)) (
  J_50 false w18))))
def ann_label_Between : Ann := .s (.o) (.s (.j [(50, .bool)] (.o) (.c (.s (.o) (.o)) (.o))) (.s (.o) (.j [(8, .slice)] (.s (.o) (.b (.j [(78, .bool)] (.o) (.c (.o) (.s (.o) (.c (.o) (.s (.o) (.c (.o) (.s (.b (.l [(9, .int .i64)] (.s (.s (.d (.take 0 (.take 1 (.take 2 (.take 3 (.take 4 (.take 5 (.take 6 (.take 7 (.take 8 (.done))))))))))) (.c (.o) (.o))) (.b (.o))))) (.d (.take 0 (.take 1 (.take 2 (.take 4 (.take 5 (.take 6 (.take 7 (.take 8 (.take 9 (.eff 3 (.eff 10 (.eff 11 (.take 12 (.done)) (.none)) (.none)) (.none))))))))))))))))))))) (.s (.s (.o) (.c (.s (.o) (.o)) (.o))) (.s (.o) (.o))))))
theorem eq_label_Between (up0p : Option Addr) (up0l : Nat) (up0c : Nat) (l1p : Option Addr) (l1l : Nat) (l1c : Nat) (r2p : Option Addr) (r2l : Nat) (r2c : Nat) (w : World) (J : Option Addr → Nat → Nat → Int → World → Prop) : vcFun Tryz.prog Tryz.f9 ann_label_Between [.one .slice, .one (.int .i64)] [.slice up0p up0l up0c, .slice l1p l1l l1c, .slice r2p r2l r2c] w J = VC_label_Between up0p up0l up0c l1p l1l l1c r2p r2l r2c w J := by kernel_rfl
theorem c_label_Between {up0p : Option Addr} {up0l : Nat} {up0c : Nat} {l1p : Option Addr} {l1l : Nat} {l1c : Nat} {r2p : Option Addr} {r2l : Nat} {r2c : Nat} {w : World} {J : Option Addr → Nat → Nat → Int → World → Prop} (h : VC_label_Between up0p up0l up0c l1p l1l l1c r2p r2l r2c w J) : callJ Tryz.prog fn_label_Between #[.slice up0p up0l up0c, .slice l1p l1l l1c, .slice r2p r2l r2c] w [.one .slice, .one (.int .i64)] J := vc_calls Tryz.func9 ann_label_Between (Eq.mpr (eq_label_Between up0p up0l up0c l1p l1l l1c r2p r2l r2c w J) h)

/-- lectern/label.kid -/
def VC_label_kid (up0p : Option Addr) (up0l : Nat) (up0c : Nat) (l1p : Option Addr) (l1l : Nat) (l1c : Nat) (w : World) (J : Bool → World → Prop) : Prop :=
  withJ (fun (x4 : Bool) (w1 : World) =>
  J x4 w1) fun J_4 =>
  condB (decide (((l1l : Nat) : Int) > (0 : Int))) (
  callJ Tryz.prog fn_label_Check #[.slice l1p l1l l1c] w [.one (.int .i64)] fun (r10 : Int) (w2 : World) =>
  condB (r10 == (0 : Int)) (
  callJ Tryz.prog fn_label_Up #[.slice l1p l1l l1c] w2 [.one .slice] fun (r15p : Option Addr) (r15l : Nat) (r15c : Nat) (w3 : World) =>
  callJ Tryz.prog fn_slices_Equal_sl_int_int #[.slice r15p r15l r15c, .slice up0p up0l up0c] w3 [.one .bool] fun (r17 : Bool) (w4 : World) =>
  J_4 r17 w4) (
  J_4 false w2)) (
  J_4 false w)
def ann_label_kid : Ann := .s (.o) (.j [(4, .bool)] (.o) (.o))
theorem eq_label_kid (up0p : Option Addr) (up0l : Nat) (up0c : Nat) (l1p : Option Addr) (l1l : Nat) (l1c : Nat) (w : World) (J : Bool → World → Prop) : vcFun Tryz.prog Tryz.f29 ann_label_kid [.one .bool] [.slice up0p up0l up0c, .slice l1p l1l l1c] w J = VC_label_kid up0p up0l up0c l1p l1l l1c w J := by kernel_rfl
theorem c_label_kid {up0p : Option Addr} {up0l : Nat} {up0c : Nat} {l1p : Option Addr} {l1l : Nat} {l1c : Nat} {w : World} {J : Bool → World → Prop} (h : VC_label_kid up0p up0l up0c l1p l1l l1c w J) : callJ Tryz.prog fn_label_kid #[.slice up0p up0l up0c, .slice l1p l1l l1c] w [.one .bool] J := vc_calls Tryz.func29 ann_label_kid (Eq.mpr (eq_label_kid up0p up0l up0c l1p l1l l1c w J) h)

/-- lectern/label.behind -/
def VC_label_behind (c0 : Int) (w : World) (J : Int → World → Prop) : Prop :=
  callJ Tryz.prog fn_label_odd #[.int .i64 c0] w [.one .bool] fun (r4 : Bool) (w1 : World) =>
  condB r4 (
  J (w64 (c0 + (2 : Int))) w1) (
  J (w64 (c0 + (1 : Int))) w1)
def ann_label_behind : Ann := .s (.o) (.s (.s (.o) (.c (.s (.o) (.o)) (.o))) (.s (.o) (.o)))
theorem eq_label_behind (c0 : Int) (w : World) (J : Int → World → Prop) : vcFun Tryz.prog Tryz.f31 ann_label_behind [.one (.int .i64)] [.int .i64 c0] w J = VC_label_behind c0 w J := by kernel_rfl
theorem c_label_behind {c0 : Int} {w : World} {J : Int → World → Prop} (h : VC_label_behind c0 w J) : callJ Tryz.prog fn_label_behind #[.int .i64 c0] w [.one (.int .i64)] J := vc_calls Tryz.func31 ann_label_behind (Eq.mpr (eq_label_behind c0 w J) h)

/-- lectern/label.ahead -/
def VC_label_ahead (c0 : Int) (w : World) (J : Int → World → Prop) : Prop :=
  callJ Tryz.prog fn_label_odd #[.int .i64 c0] w [.one .bool] fun (r4 : Bool) (w1 : World) =>
  condB r4 (
  J (w64 (c0 - (2 : Int))) w1) (
  J (w64 (c0 - (1 : Int))) w1)
def ann_label_ahead : Ann := .s (.o) (.s (.s (.o) (.c (.s (.o) (.o)) (.o))) (.s (.o) (.o)))
theorem eq_label_ahead (c0 : Int) (w : World) (J : Int → World → Prop) : vcFun Tryz.prog Tryz.f32 ann_label_ahead [.one (.int .i64)] [.int .i64 c0] w J = VC_label_ahead c0 w J := by kernel_rfl
theorem c_label_ahead {c0 : Int} {w : World} {J : Int → World → Prop} (h : VC_label_ahead c0 w J) : callJ Tryz.prog fn_label_ahead #[.int .i64 c0] w [.one (.int .i64)] J := vc_calls Tryz.func32 ann_label_ahead (Eq.mpr (eq_label_ahead c0 w J) h)

/-- lectern/label.amid -/
def VC_label_amid (l0p : Option Addr) (l0l : Nat) (l0c : Nat) (r1p : Option Addr) (r1l : Nat) (r1c : Nat) (w : World) (J : Option Addr → Nat → Nat → World → Prop) : Prop :=
  idxA l0p l0l (0 : Int) fun a8 =>
  ldI .i64 w.drew ((a8.add ((0 : Int).toNat * 1))) fun x9 =>
  idxA r1p r1l (0 : Int) fun a11 =>
  ldI .i64 w.drew ((a11.add ((0 : Int).toNat * 1))) fun x12 =>
  callJ Tryz.prog fn_label_behind #[.int .i64 x9] w.drew [.one (.int .i64)] fun (r15 : Int) (w1 : World) =>
  condB (decide (r15 < x12)) (
  callJ Tryz.prog fn_label_behind #[.int .i64 x9] w1 [.one (.int .i64)] fun (r19 : Int) (w2 : World) =>
  newB w2 (.cells ⟨[.int .i64 r19]⟩ T_int) fun b20 w3 =>
  J (some ⟨b20, 0, none⟩) 1 1 w3) (
  condB (x12 == (w64 (x9 + (2 : Int)))) (
  newB w1 (.cells ⟨[.int .i64 (w64 (x9 + (1 : Int))), .int .i64 (1 : Int)]⟩ T_int) fun b28 w4 =>
  J (some ⟨b28, 0, none⟩) 2 2 w4) (
  callJ Tryz.prog fn_label_odd #[.int .i64 x9] w1 [.one .bool] fun (r31 : Bool) (w5 : World) =>
  condB r31 (
  idxA r1p r1l (1 : Int) fun a34 =>
  ldI .i64 w5 ((a34.add ((1 : Int).toNat * 1))) fun x35 =>
  callJ Tryz.prog fn_label_ahead #[.int .i64 x35] w5 [.one (.int .i64)] fun (r36 : Int) (w6 : World) =>
  newB w6 (.cells ⟨[.int .i64 x12, .int .i64 r36]⟩ T_int) fun b37 w7 =>
  J (some ⟨b37, 0, none⟩) 2 2 w7) (
  idxA l0p l0l (1 : Int) fun a40 =>
  ldI .i64 w5 ((a40.add ((1 : Int).toNat * 1))) fun x41 =>
  callJ Tryz.prog fn_label_behind #[.int .i64 x41] w5 [.one (.int .i64)] fun (r42 : Int) (w8 : World) =>
  newB w8 (.cells ⟨[.int .i64 x9, .int .i64 r42]⟩ T_int) fun b43 w9 =>
  J (some ⟨b43, 0, none⟩) 2 2 w9)))
def ann_label_amid : Ann := .s (.o) (.s (.d (.take 0 (.take 1 (.take 2 (.take 3 (.take 4 (.take 5 (.take 6 (.take 7 (.done)))))))))) (.s (.b (.s (.o) (.c (.s (.o) (.o)) (.s (.o) (.c (.s (.o) (.o)) (.s (.o) (.c (.s (.o) (.o)) (.o)))))))) (.s (.o) (.o))))
theorem eq_label_amid (l0p : Option Addr) (l0l : Nat) (l0c : Nat) (r1p : Option Addr) (r1l : Nat) (r1c : Nat) (w : World) (J : Option Addr → Nat → Nat → World → Prop) : vcFun Tryz.prog Tryz.f33 ann_label_amid [.one .slice] [.slice l0p l0l l0c, .slice r1p r1l r1c] w J = VC_label_amid l0p l0l l0c r1p r1l r1c w J := by kernel_rfl
theorem c_label_amid {l0p : Option Addr} {l0l : Nat} {l0c : Nat} {r1p : Option Addr} {r1l : Nat} {r1c : Nat} {w : World} {J : Option Addr → Nat → Nat → World → Prop} (h : VC_label_amid l0p l0l l0c r1p r1l r1c w J) : callJ Tryz.prog fn_label_amid #[.slice l0p l0l l0c, .slice r1p r1l r1c] w [.one .slice] J := vc_calls Tryz.func33 ann_label_amid (Eq.mpr (eq_label_amid l0p l0l l0c r1p r1l r1c w J) h)

end Go.Proofs.YtmnbgcgealpcbaaGreatDoor

/-
  Facts on memory, for the conditions that the reading of the code asks: what has changed between two worlds; slices; rows of the call's own; blocks known whole.
-/
namespace Go.Vc
open Go Go.RowKit

/-! ## What has changed -/

structure Chg (S : Nat → Prop) (w w' : World) : Prop where
  os : w'.os = w.os
  tape : w'.tape = w.tape
  output : w'.output = w.output
  size : w.heap.size ≤ w'.heap.size
  keep : ∀ b, b < w.heap.size → ¬ S b → w'.heap[b]? = w.heap[b]?

def No : Nat → Prop := fun _ => False

section
variable {S S' : Nat → Prop} {a w w' : World}

theorem Chg.refl (S : Nat → Prop) (w : World) : Chg S w w := ⟨rfl, rfl, rfl, Nat.le_refl _, fun _ _ _ => rfl⟩
theorem Chg.trans (h : Chg S a w) (k : Chg S' w w') (hS : ∀ b, b < a.heap.size → S' b → S b) : Chg S a w' :=
  ⟨k.os.trans h.os, k.tape.trans h.tape, k.output.trans h.output, Nat.le_trans h.size k.size, fun b hb hn =>
    (k.keep b (Nat.lt_of_lt_of_le hb h.size) (fun hs => hn (hS b hb hs))).trans (h.keep b hb hn)⟩
theorem Chg.trans0 (h : Chg S a w) (k : Chg No w w') : Chg S a w' := h.trans k fun _ _ hf => hf.elim
theorem Chg.mono (h : Chg S a w) (hS : ∀ b, b < a.heap.size → S b → S' b) : Chg S' a w :=
  ⟨h.os, h.tape, h.output, h.size, fun b hb hn => h.keep b hb (fun hs => hn (hS b hb hs))⟩
theorem Chg.drew (h : Chg S a w) : Chg S a w.drew := ⟨h.os, h.tape, h.output, h.size, h.keep⟩
theorem Chg.alloc (h : Chg S a w) (o : Obj) : Chg S a (w.alloc o) :=
  h.trans0 ⟨rfl, rfl, rfl, by simp, fun b hb _ => heap_alloc_old w o hb⟩
theorem Chg.setRow (h : Chg S a w) (b : Nat) (cs : Array Value) (hb : b < a.heap.size → S b) : Chg S a (w.setRow b cs) :=
  h.trans (S' := fun x => x = b) ⟨rfl, rfl, rfl, by simp, fun x _ hx => setRow_other w b x cs hx⟩ (fun x hx he => by subst he; exact hb hx)
theorem Chg.setBlk (h : Chg S a w) (b : Nat) (o : Obj) (hb : b < a.heap.size → S b) : Chg S a (setBlk w b o) :=
  h.trans (S' := fun x => x = b) ⟨rfl, rfl, rfl, by simp [Vc.setBlk], fun x _ hx => by simp [Vc.setBlk, Array.getElem?_setIfInBounds_ne (Ne.symm hx)]⟩ (fun x hx he => by subst he; exact hb hx)
theorem Chg.of_grown {row : Option Nat} (h : w.grownBy w' row) (hr : ∀ b, row = some b → S b) : Chg S w w' :=
  ⟨h.os, h.tape, h.output, h.size, fun b hb hn => h.block b hb (fun e => hn (hr b e.symm))⟩
theorem Chg.below (h : Chg No w w') : Below w.heap.size w w' := ⟨h.os, h.tape, h.output, h.size, fun b hb => h.keep b hb (fun hf => hf.elim)⟩
theorem Chg.of_below (h : Below w.heap.size w w') : Chg No w w' := ⟨h.os, h.tape, h.output, h.size, fun b hb _ => h.block b hb⟩

theorem lt_of_heap {b : Nat} {o : Obj} (h : w.heap[b]? = some o) : b < w.heap.size := (Array.getElem?_eq_some_iff.1 h).1
theorem lt_of_cell {ad : Addr} {v : Value} (h : w.cell? ad = some v) : ad.block < w.heap.size := World.block_lt_of_cell? w ad h

theorem Chg.heap {b : Nat} {o : Obj} (h : Chg S w w') (hb : w.heap[b]? = some o) (hn : ¬ S b) : w'.heap[b]? = some o := (h.keep b (lt_of_heap hb) hn).trans hb
theorem Chg.cell {ad : Addr} {v : Value} (h : Chg S w w') (hc : w.cell? ad = some v) (hn : ¬ S ad.block) : w'.cell? ad = some v := by
  rw [World.cell?_of_block (h.keep ad.block (lt_of_cell hc) hn)]; exact hc
theorem Chg.cells {ad : Addr} {cs : List Value} (h : Chg S w w') (hc : cellsAt w ad cs) (hn : ¬ S ad.block) : cellsAt w' ad cs := by
  intro j v hv
  have : (ad.add j).block = ad.block := by unfold Addr.add; split <;> rfl
  exact h.cell (hc j v hv) (by rw [this]; exact hn)
end

theorem Addr.add_mk (b o n : Nat) : (⟨b, o, none⟩ : Addr).add n = ⟨b, o + n, none⟩ := by unfold Addr.add; split <;> simp_all
theorem Addr.add_block (a : Addr) (n : Nat) : (a.add n).block = a.block := by unfold Addr.add; split <;> rfl
theorem Addr.add_add {a : Addr} (n m : Nat) (h : a.spot = none) : (a.add n).add m = a.add (n + m) := by
  obtain ⟨b, o, s⟩ := a
  subst h
  simp only [Addr.add_mk, Nat.add_assoc]

theorem cellsAt_nil (w : World) (a : Addr) : cellsAt w a [] := by intro j v hv; simp at hv
theorem cellsAt_spot {w : World} {a : Addr} {cs : List Value} (h : cellsAt w a cs) (hn : cs ≠ []) : a.spot = none := by
  cases cs with
  | nil => exact absurd rfl hn
  | cons c cs => have := h 0 c rfl; rw [add_zero'] at this; exact World.cell?_spot this
theorem cellsAt_drop {w : World} {a : Addr} {cs : List Value} (k : Nat) (h : cellsAt w a cs) : cellsAt w (a.add k) (cs.drop k) := by
  intro j v hv
  rw [List.getElem?_drop] at hv
  have hne : cs ≠ [] := by rintro rfl; simp at hv
  rw [Addr.add_add _ _ (cellsAt_spot h hne)]
  exact h (k + j) v hv
theorem cellsAt_take {w : World} {a : Addr} {cs : List Value} (k : Nat) (h : cellsAt w a cs) : cellsAt w a (cs.take k) := by
  intro j v hv
  rw [List.getElem?_take] at hv
  split at hv
  · exact h j v hv
  · simp at hv
theorem cellsAt_heap {w : World} {b off : Nat} {cs : List Value} {e : TypeId} {fz : Nat × Nat} (h : w.heap[b]? = some (.cells ⟨cs⟩ e fz)) : cellsAt w ⟨b, off, none⟩ (cs.drop off) := by
  intro j v hv
  rw [Addr.add_mk, cell_of_row w b (off + j) ⟨cs⟩ e fz h]
  rw [List.getElem?_drop] at hv
  simpa using hv

/-! ## Slices that are read -/

/-- A slice's elements: the cells 'vs', 'sz' an element. -/
def Sl (w : World) (p : Option Addr) (l sz : Nat) (vs : List Value) : Prop := vs.length = l * sz ∧ (l = 0 ∨ ∃ a, p = some a ∧ cellsAt w a vs)
def Bytes (w : World) (p : Option Addr) (l : Nat) (bs : List UInt8) : Prop := Sl w p l 1 (bcells bs)
/-- No block of 'S' is the slice's. -/
def off (p : Option Addr) (S : Nat → Prop) : Prop := ∀ a, p = some a → ¬ S a.block

section
variable {w w' : World} {p : Option Addr} {l sz : Nat} {vs : List Value} {bs : List UInt8} {S : Nat → Prop}

theorem off_no (p : Option Addr) : off p No := fun _ _ h => h.elim
theorem Sl.at (h : Sl w p l sz vs) (hl : l ≠ 0) : ∃ a, p = some a ∧ cellsAt w a vs := h.2.resolve_left hl
theorem Sl.chg (h : Sl w p l sz vs) (hc : Chg S w w') (hn : off p S) : Sl w' p l sz vs :=
  ⟨h.1, h.2.imp id fun ⟨a, ha, hcs⟩ => ⟨a, ha, hc.cells hcs (hn a ha)⟩⟩
theorem Sl.nil (w : World) (p : Option Addr) (sz : Nat) : Sl w p 0 sz [] := ⟨by simp, .inl rfl⟩
theorem bcells_length (bs : List UInt8) : (bcells bs).length = bs.length := by simp [bcells]
theorem Bytes.len (h : Bytes w p l bs) : bs.length = l := by have := h.1; simpa [bcells] using this
theorem Bytes.chg (h : Bytes w p l bs) (hc : Chg S w w') (hn : off p S) : Bytes w' p l bs := Sl.chg h hc hn
theorem Bytes.nil (w : World) (p : Option Addr) : Bytes w p 0 [] := Sl.nil w p 1
theorem idx_sl {i : Int} {K : Addr → Prop} (h : Sl w p l sz vs) (h0 : 0 ≤ i) (h1 : i < l)
    (k : ∀ a, p = some a → cellsAt w (a.add (i.toNat * sz)) (vs.drop (i.toNat * sz)) → K a) : idxA p l i K := by
  obtain ⟨a, ha, hc⟩ := h.at (by omega)
  subst ha
  exact ⟨h0, h1, k a rfl (cellsAt_drop _ hc)⟩

theorem cellsAt_head {w : World} {a : Addr} {v : Value} {vs : List Value} (h : cellsAt w a (v :: vs)) : w.cell? a = some v := by
  have := h 0 v rfl; rwa [add_zero'] at this
/-- b[i] of bytes. -/
theorem byte_i {i : Int} {K : Int → Prop} (h : Bytes w p l bs) (h0 : 0 ≤ i) (h1 : i < l) (k : ∀ b : UInt8, bs[i.toNat]? = some b → K b.toNat) :
    idxA p l i fun a => ldI .u8 w (a.add (i.toNat * 1)) K := by
  have hl := h.len
  have hlt : i.toNat < bs.length := by omega
  refine idx_sl h h0 h1 fun a _ hc => ?_
  rw [Nat.mul_one] at hc ⊢
  have hb : bs[i.toNat]? = some bs[i.toNat] := List.getElem?_eq_getElem hlt
  refine ⟨bs[i.toNat].toNat, ?_, k _ hb⟩
  have := hc 0 (.int .u8 bs[i.toNat].toNat) (by rw [List.getElem?_drop]; simp [bcells, hb])
  rwa [add_zero'] at this

/-- x[lo:hi] of a slice that is read. -/
theorem slS_sl {c : Nat} {lo hi : Option Int} {K : Option Addr → Nat → Nat → Prop} {i j : Nat} (h : Sl w p l sz vs) (e1 : lo.getD 0 = (i : Int)) (e2 : hi.getD l = (j : Int)) (hij : i ≤ j) (hjl : j ≤ l) (hlc : l ≤ c)
    (k : ∀ p', Sl w p' (j - i) sz ((vs.drop (i * sz)).take ((j - i) * sz)) → (∀ S, off p S → off p' S) → K p' (j - i) (c - i)) : slS p l c sz lo hi none K := by
  refine ⟨i, j, c, e1, e2, rfl, hij, by omega, Nat.le_refl _, k _ ⟨?_, ?_⟩ ?_⟩
  · rw [List.length_take, List.length_drop, h.1]
    have : (j - i) * sz ≤ l * sz - i * sz := by rw [← Nat.sub_mul]; exact Nat.mul_le_mul_right _ (by omega)
    omega
  · by_cases h0 : j - i = 0
    · exact .inl h0
    · right
      obtain ⟨a, ha, hc⟩ := h.at (by omega)
      have hci : c ≠ i := by omega
      refine ⟨a.add (i * sz), by simp [hci, ha], cellsAt_take _ (cellsAt_drop _ hc)⟩
  · intro S hS a ha
    split at ha
    · exact hS a ha
    · cases p with
      | none => simp at ha
      | some x => simp at ha; subst ha; rw [Addr.add_block]; exact hS x rfl
end

/-! ## Rows of the call's own -/

/-- What the loaded program says of a slice type. -/
structure SlT (P : Program) (t e : TypeId) (sz bytes : Nat) (z : Array Value) : Prop where
  hu : P.underlying t = some (.slice e)
  info : ∃ (i : TypeInfo) (v : Value), P.info? e = some i ∧ i.zero = some v ∧ i.size = sz ∧ i.bytes = bytes ∧ v.cells = z
  hz : z.size = sz
  pos : 0 < sz

theorem SlT.of {P : Program} {t e : TypeId} {sz bytes : Nat} {z : Array Value} (hu : P.underlying t = some (.slice e))
    (hi : (P.info? e).map (fun i => (i.zero.map Value.cells, i.size, i.bytes)) = some (some z, sz, bytes)) (hz : z.size = sz) (pos : 0 < sz) : SlT P t e sz bytes z := by
  refine ⟨hu, ?_, hz, pos⟩
  cases h : P.info? e with
  | none => simp [h] at hi
  | some i =>
    simp only [h, Option.map_some, Option.some.injEq, Prod.mk.injEq] at hi
    obtain ⟨h1, h2, h3⟩ := hi
    cases hv : i.zero with
    | none => simp [hv] at h1
    | some v => exact ⟨i, v, rfl, hv, h2, h3, by simpa [hv] using h1⟩

def isB (p : Option Addr) : Nat → Prop := fun b => ∃ a, p = some a ∧ a.block = b
/-- The slice lies in a block that was not there. -/
def fresh (w : World) (p : Option Addr) : Prop := ∀ a, p = some a → w.heap.size ≤ a.block

/-- A slice that begins its own block; nobody else has that block. -/
def Row (w : World) (e : TypeId) (sz : Nat) (p : Option Addr) (l c : Nat) (xs : List Value) : Prop :=
  xs.length = l * sz ∧ ((p = none ∧ l = 0 ∧ c = 0) ∨ ∃ b rest, p = some ⟨b, 0, none⟩ ∧ w.heap[b]? = some (.cells ⟨xs ++ rest⟩ e (0, 0)) ∧ l ≤ c ∧ c ≤ maxLen ∧ (xs ++ rest).length = c * sz)

section
variable {w w' : World} {e : TypeId} {sz : Nat} {p : Option Addr} {l c : Nat} {xs : List Value} {S : Nat → Prop}

theorem Row.len (h : Row w e sz p l c xs) : xs.length = l * sz := h.1
theorem Row.sl (h : Row w e sz p l c xs) : Sl w p l sz xs := by
  refine ⟨h.1, ?_⟩
  rcases h.2 with ⟨_, h0, _⟩ | ⟨b, rest, hp, hh, _⟩
  · exact .inl h0
  · right
    refine ⟨_, hp, ?_⟩
    have := cellsAt_take xs.length (cellsAt_heap (off := 0) hh)
    simpa using this
theorem Row.le (h : Row w e sz p l c xs) : l ≤ c ∧ c ≤ maxLen := by
  rcases h.2 with ⟨_, h0, h1⟩ | ⟨b, rest, hp, hh, h1, h2, _⟩
  · subst h0; subst h1; exact ⟨Nat.le_refl _, Nat.zero_le _⟩
  · exact ⟨h1, h2⟩
theorem Row.lt (h : Row w e sz p l c xs) : ∀ a, p = some a → a.block < w.heap.size := by
  intro a ha
  rcases h.2 with ⟨h0, _⟩ | ⟨b, rest, hp, hh, _⟩
  · rw [h0] at ha; cases ha
  · rw [hp] at ha; cases ha; exact lt_of_heap hh
theorem Row.chg (h : Row w e sz p l c xs) (hc : Chg S w w') (hn : off p S) : Row w' e sz p l c xs := by
  refine ⟨h.1, h.2.imp id ?_⟩
  rintro ⟨b, rest, hp, hh, r⟩
  exact ⟨b, rest, hp, hc.heap hh (hn _ hp), r⟩
theorem Row.none0 (h : Row w e sz p l c xs) : p = none → l = 0 := by
  intro hp
  rcases h.2 with ⟨_, h0, _⟩ | ⟨b, rest, hp', _⟩
  · exact h0
  · rw [hp] at hp'; cases hp'
theorem Row.some0 (h : Row w e sz p l c xs) (hl : l ≠ 0) : ∃ b rest, p = some ⟨b, 0, none⟩ ∧ w.heap[b]? = some (.cells ⟨xs ++ rest⟩ e (0, 0)) ∧ l ≤ c ∧ c ≤ maxLen ∧ (xs ++ rest).length = c * sz := by
  rcases h.2 with ⟨_, h0, _⟩ | h
  · exact absurd h0 hl
  · exact h
theorem Row.nil (w : World) (e : TypeId) (sz : Nat) : Row w e sz none 0 0 [] := ⟨by simp, .inl ⟨rfl, rfl, rfl⟩⟩
theorem Row.owns (h : Row w e sz p l c xs) : w.ownsRow 0 e sz (.slice p l c) l xs := by
  refine ⟨h.1, ?_⟩
  rcases h.2 with ⟨h0, h1, h2⟩ | ⟨b, rest, hp, hh, h1, h2, h3⟩
  · subst h0; subst h1; subst h2; exact .inl ⟨rfl, rfl⟩
  · subst hp
    refine .inr ⟨b, c, _, rfl, Nat.zero_le _, hh, h1, h2, by simpa using h3, ?_⟩
    rw [← h.1]; simp
theorem Row.of_owns {v : Value} {n : Nat} (h : w.ownsRow 0 e sz v n xs) : ∃ p c, v = .slice p n c ∧ Row w e sz p n c xs := by
  obtain ⟨hl, h⟩ := h
  rcases h with ⟨rfl, rfl⟩ | ⟨g, cap, cur, rfl, _, hh, h1, h2, h3, h4⟩
  · exact ⟨none, 0, rfl, hl, .inl ⟨rfl, rfl, rfl⟩⟩
  · refine ⟨_, _, rfl, hl, .inr ⟨g, cur.toList.drop (n * sz), rfl, ?_, h1, h2, ?_⟩⟩
    · rw [← h4, List.take_append_drop]; simpa using hh
    · rw [← h4, List.take_append_drop]; simpa using h3
theorem Row.bytes {t : TypeId} {bs : List UInt8} (h : Row w t 1 p l c (bcells bs)) : Bytes w p l bs := h.sl
end

/-- A block's element type. -/
def typ (w : World) (b : Nat) : Option TypeId := match w.heap[b]? with | some (.cells _ e _) => some e | _ => none
theorem typ_of {w : World} {b : Nat} {cs : Array Value} {e : TypeId} {fz : Nat × Nat} (h : w.heap[b]? = some (.cells cs e fz)) : typ w b = some e := by unfold typ; rw [h]
theorem typ_lt {w : World} {b : Nat} {e : TypeId} (h : typ w b = some e) : b < w.heap.size := by
  unfold typ at h
  split at h
  · next hh => exact lt_of_heap hh
  · cases h
theorem typ_chg {w w' : World} {S : Nat → Prop} {b : Nat} {e : TypeId} (hc : Chg S w w') (h : typ w b = some e) (hn : ¬ S b) : typ w' b = some e := by
  unfold typ; rw [hc.keep b (typ_lt h) hn]; exact h
theorem Row.typ {w : World} {e : TypeId} {sz : Nat} {p : Option Addr} {l c : Nat} {xs : List Value} (h : Row w e sz p l c xs) : ∀ a, p = some a → typ w a.block = some e := by
  intro a ha
  rcases h.2 with ⟨h0, _⟩ | ⟨b, rest, hp, hh, _⟩
  · rw [h0] at ha; cases ha
  · rw [hp] at ha; cases ha; exact typ_of hh

def one1 (vs : List Value) : Prop := ∀ v ∈ vs, v.oneCell' = true
theorem one1_bcells (bs : List UInt8) : one1 (bcells bs) := by
  intro v hv; obtain ⟨b, _, rfl⟩ := List.mem_map.1 hv; rfl
theorem one1_nil : one1 [] := by intro v hv; cases hv
theorem one1_cons {v : Value} {vs : List Value} (h : v.oneCell' = true) (k : one1 vs) : one1 (v :: vs) := by
  intro x hx; rcases List.mem_cons.1 hx with rfl | hx
  · exact h
  · exact k x hx
/-- The builtin append, onto a row of the call's own. -/
theorem appJ_row2 {P : Program} {t e : TypeId} {sz by_ : Nat} {z : Array Value} (T : SlT P t e sz by_ z) {w : World} {p q : Option Addr} {l c m c2 : Nat} {xs news : List Value}
    {K : Option Addr → Nat → Nat → World → Prop} (h : Row w e sz p l c xs) (src : Sl w q m sz news) (h1 : one1 news) (hm : q = none → m = 0) (hb : (l + m) * by_ ≤ 140737488355328) (hmax : l + m ≤ maxLen)
    (k : ∀ p' c' w', Row w' e sz p' (l + m) c' (xs ++ news) → Chg (isB p) w w' → (p' = p ∨ (fresh w p' ∧ c < l + m)) → K p' (l + m) c' w') :
    appJ P t t (.slice p l c) (.slice q m c2) w K := by
  obtain ⟨i, v, hi, hz, hsz, hby, hv⟩ := T.info
  have hown := h.owns
  have fin : ∀ v' w', (∀ ty, (Builtin.append_ #[t, t] ty #[.slice p l c, .slice q m c2]).run P w = .ok v' w') → w'.ownsRow 0 e sz v' (l + m) (xs ++ news) → Chg (isB p) w w' →
      (v' = .slice p (l + m) c ∨ ∀ p' c', v' = .slice p' (l + m) c' → (fresh w p' ∧ c < l + m)) → appJ P t t (.slice p l c) (.slice q m c2) w K := by
    intro v' w' hr ho hc hf
    obtain ⟨p', c', rfl, hrow⟩ := Row.of_owns ho
    refine ⟨p', l + m, c', w', hr, k p' c' w' hrow hc ?_⟩
    rcases hf with hf | hf
    · left; injection hf
    · exact .inr (hf p' c' rfl)
  cases q with
  | none =>
    have h0 := hm rfl
    subst h0
    have hn : news = [] := List.eq_nil_of_length_eq_zero (by simpa using src.1)
    subst hn
    refine fin (.slice p l c) w (fun ty => ?_) (by simpa using hown) (Chg.refl _ _) (.inl rfl)
    have hle := h.le.1
    cases p with
    | none => simp [Builtin.append_, run_underlying T.hu, sizeOf, typeInfo, hi, Builtin.lenOf, Builtin.firstCells, hle]
    | some a => simp [Builtin.append_, run_underlying T.hu, sizeOf, typeInfo, hi, Builtin.lenOf, Builtin.firstCells, hle, storeCells]
  | some ad =>
    have hnews : ∀ j u, news[j]? = some u → w.cell? (ad.add j) = some u := by
      rcases src.2 with h0 | ⟨a, ha, hc⟩
      · intro j u hu
        have hn : news = [] := List.eq_nil_of_length_eq_zero (by have := src.1; rw [h0] at this; simpa using this)
        subst hn; simp at hu
      · cases ha; exact hc
    have fz : v.cells.size = sz := by rw [hv]; exact T.hz
    obtain ⟨v', w', hr, ho, hg, hnil⟩ := run_append_own (P := P) w 0 t 0 e i v sz by_ (T.hu) hi hz hsz hby fz T.pos (.slice p l c) l xs hown ad m c2 news src.1 hnews h1 hmax hb (Nat.zero_le _)
    have hr' : ∀ ty, (Builtin.append_ #[t, t] ty #[.slice p l c, .slice (some ad) m c2]).run P w = .ok v' w' := fun ty => hr
    have hcg : Chg (isB p) w w' := Chg.of_grown hg (fun b hb => by
      cases p with
      | none => simp [Value.ownBlock] at hb
      | some x => simp [Value.ownBlock] at hb; exact ⟨x, rfl, hb⟩)
    -- where the new row lies
    by_cases hroom : l + m ≤ c
    · -- in place
      rcases h.2 with ⟨h0, h2, h3⟩ | ⟨b, rest, hp, hh, hlc, hcm, hcs⟩
      · subst h0; subst h2; subst h3
        have hm0 : m = 0 := by omega
        subst hm0
        have := hnil.2 ⟨rfl, rfl⟩
        subst this
        exact fin _ _ hr' ho hcg (.inl rfl)
      · subst hp
        subst hsz
        have hroomr := run_append_room (P := P) w t 0 e i T.hu hi b l c ⟨xs ++ rest⟩ hh ad m c2 news src.1 hnews h1 hroom (by
          rw [src.1, ← Nat.add_mul]; simp only [List.size_toArray]; rw [hcs]; exact Nat.mul_le_mul_right _ hroom)
        rw [hr] at hroomr
        injection hroomr with e1 e2
        exact fin _ _ hr' ho hcg (.inl e1)
    · -- a new block
      refine fin _ _ hr' ho hcg (.inr ?_)
      intro p' c' hp'
      refine ⟨?_, by omega⟩
      intro a ha
      subst hp'
      obtain ⟨p2, c2', e1, hrow⟩ := Row.of_owns ho
      have hp2 : p' = p2 := by injection e1
      subst hp2
      -- the block's cells are more than the old ones: else it lies where it was; decided by the run itself
      rcases h.2 with ⟨h0, h2, h3⟩ | ⟨b, rest, hp, hh, hlc, hcm, hcs⟩
      · subst h0; subst h2; subst h3
        have hr2 := run_append_nil (P := P) w t 0 e i v T.hu hi hz ad m c2 news (by rw [hsz]; exact src.1) hnews (by omega) (by simp only [maxLen] at hmax; omega) (by rw [hby]; have hb' := hb; simp only [Nat.zero_add] at hb'; omega)
        rw [hr] at hr2
        injection hr2 with e2 e3
        injection e2 with e4
        rw [ha] at e4
        injection e4 with e5
        rw [e5]
        exact Nat.le_refl _
      · subst hp
        subst hsz
        have holds : ∀ j u, xs[j]? = some u → w.cell? ((⟨b, 0, none⟩ : Addr).add j) = some u := by
          have := h.sl
          rcases this.2 with h0 | ⟨a', ha', hc'⟩
          · intro j u hu
            have hn : xs = [] := List.eq_nil_of_length_eq_zero (by have := h.1; rw [h0] at this; simpa using this)
            subst hn; simp at hu
          · cases ha'; exact hc'
        have hr2 := run_append_grow (P := P) w t 0 e i v T.hu hi hz ⟨b, 0, none⟩ l c xs h.1 holds ad m c2 news src.1 hnews (by omega) (by simp only [maxLen] at hmax; omega) (growslice_fits (by omega) (by rw [hby]; exact hb))
        rw [hr] at hr2
        injection hr2 with e2 e3
        injection e2 with e4
        rw [ha] at e4
        injection e4 with e5
        rw [e5]
        exact Nat.le_refl _
theorem appJ_row {P : Program} {t e : TypeId} {sz by_ : Nat} {z : Array Value} (T : SlT P t e sz by_ z) {w : World} {p q : Option Addr} {l c m c2 : Nat} {xs news : List Value}
    {K : Option Addr → Nat → Nat → World → Prop} (h : Row w e sz p l c xs) (src : Sl w q m sz news) (h1 : one1 news) (hm : q = none → m = 0) (hb : (l + m) * by_ ≤ 140737488355328) (hmax : l + m ≤ maxLen)
    (k : ∀ p' c' w', Row w' e sz p' (l + m) c' (xs ++ news) → Chg (isB p) w w' → (p' = p ∨ fresh w p') → K p' (l + m) c' w') :
    appJ P t t (.slice p l c) (.slice q m c2) w K :=
  appJ_row2 T h src h1 hm hb hmax fun p' c' w' hr hc hf => k p' c' w' hr hc (hf.imp id (·.1))

/-! ## Blocks known whole -/

def splice (cs : List Value) (off : Nat) (vs : List Value) : List Value := cs.take off ++ vs ++ cs.drop (off + vs.length)

theorem setCells_row {b : Nat} {e : TypeId} : ∀ (vs : List Value) (i off : Nat) (cs : List Value) (w : World), w.heap[b]? = some (.cells ⟨cs⟩ e (0, 0)) → off + i + vs.length ≤ cs.length →
    setCells w ⟨b, off, none⟩ i vs = w.setRow b ⟨cs.take (off + i) ++ vs ++ cs.drop (off + i + vs.length)⟩
  | [], i, off, cs, w, h, _ => by
    simp only [setCells, List.append_nil, List.length_nil, Nat.add_zero, List.take_append_drop]
    rw [setRow_self w b ⟨cs⟩ e (0, 0) h]
  | v :: vs, i, off, cs, w, h, hl => by
    simp only [List.length_cons] at hl
    simp only [setCells, Addr.add_mk]
    rw [setCell_eq_setRow w b (off + i) ⟨cs⟩ e (0, 0) v h]
    have h2 := setRow_heap w b ⟨cs⟩ ((⟨cs⟩ : Array Value).setIfInBounds (off + i) v) e (0, 0) h
    have e1 : (⟨cs⟩ : Array Value).setIfInBounds (off + i) v = ⟨cs.set (off + i) v⟩ := by apply Array.ext'; simp
    rw [e1] at h2 ⊢
    rw [setCells_row vs (i + 1) off (cs.set (off + i) v) _ h2 (by simp; omega), setRow_setRow]
    congr 2
    have := list_seg_step cs (off + i) v vs (by omega)
    simp only [List.length_cons]
    rw [show off + (i + 1) = off + i + 1 by omega]
    exact this

/-- A block of the call's own, its cells and their type. -/
structure Blk where
  b : Nat
  cs : List Value
  e : TypeId

/-- Since the world 'w0' only blocks of 'S' and new ones have changed; the blocks of the list hold just that. -/
structure Hp (w0 : World) (S : Nat → Prop) (w : World) (Γ : List Blk) : Prop where
  chg : Chg S w0 w
  is : ∀ p ∈ Γ, w.heap[p.b]? = some (.cells ⟨p.cs⟩ p.e (0, 0))
  nd : (Γ.map (·.b)).Nodup
  own : ∀ p ∈ Γ, p.b < w0.heap.size → S p.b

section
variable {w0 w w' : World} {S S' : Nat → Prop} {Γ : List Blk} {b : Nat} {cs : List Value} {e : TypeId}

theorem nodup_inj {l : List Nat} (h : l.Nodup) {i j x : Nat} (hi : l[i]? = some x) (hj : l[j]? = some x) : i = j := by
  have h1 := (List.getElem?_eq_some_iff.1 hi)
  have h2 := (List.getElem?_eq_some_iff.1 hj)
  obtain ⟨a1, a2⟩ := h1
  obtain ⟨b1, b2⟩ := h2
  have hp := List.pairwise_iff_getElem.1 h
  rcases Nat.lt_trichotomy i j with hlt | heq | hgt
  · exact absurd (a2.trans b2.symm) (hp i j a1 b1 hlt)
  · exact heq
  · exact absurd (b2.trans a2.symm) (hp j i b1 a1 hgt)

theorem Hp.start (w : World) (S : Nat → Prop) : Hp w S w [] := ⟨Chg.refl _ _, by simp, by simp, by simp⟩
theorem Hp.of_chg (h : Chg S w0 w) : Hp w0 S w [] := ⟨h, by simp, by simp, by simp⟩
theorem Hp.get (H : Hp w0 S w Γ) (i : Nat) (hi : Γ[i]? = some ⟨b, cs, e⟩) : w.heap[b]? = some (.cells ⟨cs⟩ e (0, 0)) := H.is _ (List.mem_of_getElem? hi)
theorem Hp.cell (H : Hp w0 S w Γ) (i : Nat) (hi : Γ[i]? = some ⟨b, cs, e⟩) {off : Nat} {v : Value} (hv : cs[off]? = some v) : w.cell? ⟨b, off, none⟩ = some v := by
  rw [cell_of_row w b off _ e (0, 0) (H.get i hi)]; simpa using hv
theorem Hp.ldI (H : Hp w0 S w Γ) (i : Nat) (hi : Γ[i]? = some ⟨b, cs, e⟩) {off : Nat} {k : IntKind} {n : Int} {K : Int → Prop} (hv : cs[off]? = some (.int k n)) (hk : K n) : Vc.ldI k w ⟨b, off, none⟩ K := ⟨n, H.cell i hi hv, hk⟩
theorem Hp.ldS (H : Hp w0 S w Γ) (i : Nat) (hi : Γ[i]? = some ⟨b, cs, e⟩) {off l c : Nat} {p : Option Addr} {K : Option Addr → Nat → Nat → Prop} (hv : cs[off]? = some (.slice p l c)) (hk : K p l c) : Vc.ldS w ⟨b, off, none⟩ K := ⟨p, l, c, H.cell i hi hv, hk⟩
theorem Hp.ldStr (H : Hp w0 S w Γ) (i : Nat) (hi : Γ[i]? = some ⟨b, cs, e⟩) {off : Nat} {x : ByteArray} {K : ByteArray → Prop} (hv : cs[off]? = some (.string x)) (hk : K x) : Vc.ldStr w ⟨b, off, none⟩ K := ⟨x, H.cell i hi hv, hk⟩
theorem Hp.cells (H : Hp w0 S w Γ) (i : Nat) (hi : Γ[i]? = some ⟨b, cs, e⟩) (off : Nat) : cellsAt w ⟨b, off, none⟩ (cs.drop off) := cellsAt_heap (H.get i hi)
theorem Hp.drew (H : Hp w0 S w Γ) : Hp w0 S w.drew Γ := ⟨H.chg.drew, H.is, H.nd, H.own⟩

theorem Hp.row (H : Hp w0 S w Γ) (i : Nat) (hi : Γ[i]? = some ⟨b, cs, e⟩) (cs' : List Value) : Hp w0 S (w.setRow b ⟨cs'⟩) (Γ.set i ⟨b, cs', e⟩) := by
  have hlt : i < Γ.length := (List.getElem?_eq_some_iff.1 hi).1
  have hget : Γ[i] = ⟨b, cs, e⟩ := (List.getElem?_eq_some_iff.1 hi).2
  have hb := H.own ⟨b, cs, e⟩ (List.mem_of_getElem? hi)
  refine ⟨H.chg.setRow b _ hb, fun p hp => ?_, ?_, fun p hp => ?_⟩
  · obtain ⟨j, hj⟩ := List.mem_iff_getElem?.1 hp
    rw [List.getElem?_set] at hj
    by_cases hij : i = j
    · rw [if_pos hij] at hj
      have hj' : some (⟨b, cs', e⟩ : Blk) = some p := by subst hij; simpa [hlt] using hj
      cases hj'
      exact setRow_heap w b _ _ e (0, 0) (H.get i hi)
    · rw [if_neg hij] at hj
      have hne : p.b ≠ b := by
        intro he
        have h1 : (Γ.map (·.b))[j]? = some b := by rw [List.getElem?_map, hj]; simp [he]
        have h2 : (Γ.map (·.b))[i]? = some b := by rw [List.getElem?_map, hi]; simp
        exact hij (nodup_inj H.nd h2 h1)
      rw [setRow_other w b p.b _ hne]
      exact H.is p (List.mem_of_getElem? hj)
  · have : (Γ.set i ⟨b, cs', e⟩).map (·.b) = Γ.map (·.b) := by
      apply List.ext_getElem?
      intro j
      simp only [List.getElem?_map, List.getElem?_set]
      by_cases hij : i = j
      · subst hij; simp [hlt, hget]
      · simp [hij]
    rw [this]; exact H.nd
  · rcases List.mem_or_eq_of_mem_set hp with hp | rfl
    · exact H.own p hp
    · exact hb

theorem chg_setRow (w : World) (b : Nat) (cs : Array Value) : Chg (fun x => x = b) w (w.setRow b cs) := (Chg.refl _ w).setRow b cs (fun _ => rfl)

theorem Hp.stV (H : Hp w0 S w Γ) (i : Nat) (hi : Γ[i]? = some ⟨b, cs, e⟩) {off : Nat} {v : Value} {K : World → Prop} (ho : off < cs.length)
    (k : ∀ w', Hp w0 S w' (Γ.set i ⟨b, cs.set off v, e⟩) → Chg (fun x => x = b) w w' → K w') : Vc.stV w ⟨b, off, none⟩ v K := by
  have hh := H.get i hi
  refine ⟨⟨⟨cs[off], by rw [cell_of_row w b off _ e (0, 0) hh]; simp [ho]⟩, frozen_of_row w b off _ e hh⟩, ?_⟩
  have e1 : w.setCell ⟨b, off, none⟩ v = w.setRow b ⟨cs.set off v⟩ := by
    rw [setCell_eq_setRow w b off ⟨cs⟩ e (0, 0) v hh]
    congr 1; apply Array.ext'; simp
  rw [e1]
  exact k _ (H.row i hi _) (chg_setRow _ _ _)

theorem Hp.stN (H : Hp w0 S w Γ) (i : Nat) (hi : Γ[i]? = some ⟨b, cs, e⟩) {off n : Nat} {vs : List Value} {K : World → Prop} (hn : vs.length = n) (ho : off + n ≤ cs.length) (h1 : one1 vs)
    (k : ∀ w', Hp w0 S w' (Γ.set i ⟨b, splice cs off vs, e⟩) → Chg (fun x => x = b) w w' → K w') : Vc.stN w ⟨b, off, none⟩ ⟨vs⟩ n K := by
  have hh := H.get i hi
  refine ⟨by simpa using hn, h1, fun j hj => ?_, ?_⟩
  · rw [Addr.add_mk]
    have : off + j < cs.length := by omega
    exact ⟨⟨cs[off + j], by rw [cell_of_row w b (off + j) _ e (0, 0) hh]; simp [this]⟩, frozen_of_row w b (off + j) _ e hh⟩
  · have e1 : setCells w ⟨b, off, none⟩ 0 vs = w.setRow b ⟨splice cs off vs⟩ := by
      rw [setCells_row vs 0 off cs w hh (by omega)]; rfl
    rw [show (⟨vs⟩ : Array Value).toList = vs from rfl, e1]
    exact k _ (H.row i hi _) (chg_setRow _ _ _)

theorem chg_alloc (w : World) (o : Obj) : Chg No w (w.alloc o) := (Chg.refl _ w).alloc o

theorem Hp.new (H : Hp w0 S w Γ) (cs : List Value) (e : TypeId) : Hp w0 S (w.alloc (.cells ⟨cs⟩ e)) (⟨w.heap.size, cs, e⟩ :: Γ) := by
  refine ⟨H.chg.alloc _, fun p hp => ?_, ?_, fun p hp hlt => ?_⟩
  · rcases List.mem_cons.1 hp with rfl | hp
    · exact heap_alloc_new w _
    · exact (chg_alloc w _).heap (H.is p hp) (fun h => h)
  · simp only [List.map_cons, List.nodup_cons]
    refine ⟨fun hm => ?_, H.nd⟩
    obtain ⟨p, hp, hpb⟩ := List.mem_map.1 hm
    have := lt_of_heap (H.is p hp)
    omega
  · rcases List.mem_cons.1 hp with rfl | hp
    · have := H.chg.size
      simp only at hlt
      omega
    · exact H.own p hp hlt

theorem Hp.newB (H : Hp w0 S w Γ) {cs : List Value} {e : TypeId} {K : Nat → World → Prop}
    (k : ∀ b w', Hp w0 S w' (⟨b, cs, e⟩ :: Γ) → w.heap.size ≤ b → Chg No w w' → K b w') : Vc.newB w (.cells ⟨cs⟩ e) K :=
  k _ _ (H.new cs e) (Nat.le_refl _) (chg_alloc _ _)

theorem madeCells_eq (z : Array Value) (k sz : Nat) (h : z.size = sz) : madeCells z (k * sz) = ⟨(List.replicate k z.toList).flatten⟩ := by
  subst h; exact zrow_eq z k

theorem Hp.mkS (H : Hp w0 S w Γ) {e : TypeId} {z : Array Value} {sz by_ : Nat} {l c : Int} {K : Nat → World → Prop} (hz : z.size = sz) (h0 : 0 ≤ l) (h1 : l ≤ c) (h2 : (by_ : Int) * c ≤ 281474976710656) (h3 : c ≤ 9223372036854775807)
    (k : ∀ b w', Hp w0 S w' (⟨b, (List.replicate c.toNat z.toList).flatten, e⟩ :: Γ) → w.heap.size ≤ b → Chg No w w' → K b w') : Vc.mkS w e z sz by_ l c K := by
  refine ⟨h0, h1, h2, h3, ?_⟩
  rw [madeCells_eq z c.toNat sz hz]
  exact H.newB k

/-- Something else has changed: a call, an append. -/
theorem Hp.step (H : Hp w0 S w Γ) (hc : Chg S' w w') (hn : ∀ p ∈ Γ, ¬ S' p.b) (hS : ∀ b, b < w0.heap.size → S' b → S b) : Hp w0 S w' Γ :=
  ⟨H.chg.trans hc hS, fun p hp => hc.heap (H.is p hp) (hn p hp), H.nd, H.own⟩
theorem Hp.step0 (H : Hp w0 S w Γ) (hc : Chg No w w') : Hp w0 S w' Γ := H.step hc (fun _ _ h => h) (fun _ _ h => h.elim)
/-- Another block is known. -/
theorem Hp.add (H : Hp w0 S w Γ) (hb : w.heap[b]? = some (.cells ⟨cs⟩ e (0, 0))) (hn : ∀ p ∈ Γ, p.b ≠ b) (hS : b < w0.heap.size → S b) : Hp w0 S w (⟨b, cs, e⟩ :: Γ) := by
  refine ⟨H.chg, fun p hp => ?_, ?_, fun p hp => ?_⟩
  · rcases List.mem_cons.1 hp with rfl | hp
    · exact hb
    · exact H.is p hp
  · simp only [List.map_cons, List.nodup_cons]
    refine ⟨fun hm => ?_, H.nd⟩
    obtain ⟨p, hp, hpb⟩ := List.mem_map.1 hm
    exact hn p hp hpb
  · rcases List.mem_cons.1 hp with rfl | hp
    · exact hS
    · exact H.own p hp
/-- The whole of a known block as a row. -/
theorem Hp.asRow (H : Hp w0 S w Γ) (i : Nat) (hi : Γ[i]? = some ⟨b, cs, e⟩) {sz l c : Nat} {xs rest : List Value} (hcs : cs = xs ++ rest) (hl : xs.length = l * sz) (hlc : l ≤ c) (hc : c ≤ maxLen) (hlen : cs.length = c * sz) :
    Row w e sz (some ⟨b, 0, none⟩) l c xs := ⟨hl, .inr ⟨b, rest, rfl, by rw [H.get i hi, hcs], hlc, hc, by rw [← hcs]; exact hlen⟩⟩

end

end Go.Vc


/-
  Labels, plain: the bits of a number, rows of bits as bytes, a label's bytes, how they stand.
-/
set_option linter.unusedVariables false
set_option linter.unusedSimpArgs false
namespace Go.Vc
open Go

/-! ## How many bits -/
def blen (n : Nat) : Nat := if n = 0 then 0 else n.log2 + 1
theorem blen_of {n j : Nat} (h1 : 2 ^ j ≤ n) (h2 : n < 2 ^ (j + 1)) : blen n = j + 1 := by
  have hn : n ≠ 0 := by have := Nat.two_pow_pos j; omega
  have a := (Nat.le_log2 hn).2 h1
  have b := (Nat.log2_lt hn).2 h2
  unfold blen
  rw [if_neg hn]; omega
theorem blen_spec {n : Nat} (h : n ≠ 0) : ∃ j, blen n = j + 1 ∧ 2 ^ j ≤ n ∧ n < 2 ^ (j + 1) :=
  ⟨n.log2, by unfold blen; rw [if_neg h], (Nat.le_log2 h).1 (Nat.le_refl _), (Nat.log2_lt h).1 (Nat.lt_succ_self _)⟩
theorem blen_shift {n s : Nat} (h : 2 ^ s ≤ n) : blen n = blen (n / 2 ^ s) + s := by
  have hp := Nat.two_pow_pos s
  have hq : n / 2 ^ s ≠ 0 := by
    have := Nat.div_pos h hp; omega
  obtain ⟨j, e, h1, h2⟩ := blen_spec hq
  rw [e]
  have g1 : 2 ^ (j + s) ≤ n := by rw [Nat.pow_add]; exact (Nat.le_div_iff_mul_le hp).1 h1
  have g2 : n < 2 ^ (j + s + 1) := by
    have := (Nat.div_lt_iff_lt_mul hp).1 h2
    rw [show j + s + 1 = (j + 1) + s by omega, Nat.pow_add]; exact this
  rw [blen_of g1 g2]; omega
theorem blen_le {n k : Nat} (h : n < 2 ^ k) : blen n ≤ k := by
  unfold blen
  split
  · omega
  · next hn => have := (Nat.log2_lt hn).2 h; omega

/-! ## The bits of a number -/
def lowB (n : Nat) : Nat → List Bool
  | 0 => []
  | j + 1 => n.testBit j :: lowB n j
theorem lowB_len (n : Nat) : ∀ j, (lowB n j).length = j
  | 0 => rfl
  | j + 1 => by simp [lowB, lowB_len n j]
/-- 's' as often as the number has bits, its opposite once, and the bits behind the first one. -/
def encN (s : Bool) (n : Nat) : List Bool := List.replicate (blen n) s ++ (!s) :: (lowB n (blen n - 1)).map (· == s)
theorem encN_len (s : Bool) {n : Nat} (h : n ≠ 0) : (encN s n).length = 2 * blen n := by
  obtain ⟨j, e, _⟩ := blen_spec h
  simp only [encN, List.length_append, List.length_replicate, List.length_cons, List.length_map, lowB_len]
  omega
def bitsV (v : Int) : List Bool := if v < 0 then encN false (-v).toNat else encN true (v + 1).toNat
def flatB (l : List Int) : List Bool := l.flatMap bitsV
theorem flatB_nil : flatB [] = [] := rfl
theorem flatB_cons (v : Int) (l : List Int) : flatB (v :: l) = bitsV v ++ flatB l := by simp [flatB]
theorem flatB_append (a b : List Int) : flatB (a ++ b) = flatB a ++ flatB b := by simp [flatB]
theorem bitsV_len_pos (v : Int) : 2 ≤ (bitsV v).length := by
  unfold bitsV
  split
  · next h =>
    have hn : (-v).toNat ≠ 0 := by omega
    obtain ⟨j, e, _⟩ := blen_spec hn
    rw [encN_len _ hn, e]; omega
  · next h =>
    have hn : (v + 1).toNat ≠ 0 := by omega
    obtain ⟨j, e, _⟩ := blen_spec hn
    rw [encN_len _ hn, e]; omega

/-! ## Which stands first -/
/-! ## Bytes -/
def bitAt (bs : List UInt8) (i : Nat) : Bool := (bs.getD (i / 8) 0).toNat.testBit (7 - i % 8)
def Rp (bs : List UInt8) (bits : List Bool) : Prop := bs.length = (bits.length + 7) / 8 ∧ ∀ i, bitAt bs i = bits.getD i false
def setB (x : UInt8) (t : Nat) : UInt8 := UInt8.ofNat (x.toNat ||| 2 ^ (7 - t))
def putB (bs : List UInt8) (n : Nat) (on : Bool) : List UInt8 :=
  let r := if n % 8 = 0 then bs ++ [0] else bs
  if on then r.set (n / 8) (setB (r.getD (n / 8) 0) (n % 8)) else r
theorem bitAt_push (bs : List UInt8) (i : Nat) : bitAt (bs ++ [0]) i = bitAt bs i := by
  unfold bitAt
  simp only [List.getD_eq_getElem?_getD]
  rcases Nat.lt_trichotomy (i / 8) bs.length with h | h | h
  · rw [List.getElem?_append_left h]
  · rw [List.getElem?_append_right (by omega), h]; simp
  · rw [List.getElem?_append_right (by omega), List.getElem?_eq_none (by simp; omega), List.getElem?_eq_none (by omega)]
theorem setB_bit (x : UInt8) {t u : Nat} (ht : t < 8) (hu : u < 8) : (setB x t).toNat.testBit (7 - u) = (x.toNat.testBit (7 - u) || decide (t = u)) := by
  unfold setB
  have h1 : x.toNat < 2 ^ 8 := x.toNat_lt
  have h2 : 2 ^ (7 - t) < 2 ^ 8 := Nat.pow_lt_pow_right (by decide) (by omega)
  have h3 : x.toNat ||| 2 ^ (7 - t) < 2 ^ 8 := Nat.or_lt_two_pow h1 h2
  rw [show (UInt8.ofNat (x.toNat ||| 2 ^ (7 - t))).toNat = x.toNat ||| 2 ^ (7 - t) from by simp only [UInt8.toNat_ofNat']; exact Nat.mod_eq_of_lt h3, Nat.testBit_or, Nat.testBit_two_pow]
  congr 1
  apply decide_eq_decide.2
  omega
theorem getD_snoc (bits : List Bool) (on : Bool) (i : Nat) : (bits ++ [on]).getD i false = (bits.getD i false || (on && decide (i = bits.length))) := by
  simp only [List.getD_eq_getElem?_getD]
  rcases Nat.lt_trichotomy i bits.length with h | h | h
  · rw [List.getElem?_append_left h, decide_eq_false (by omega)]; simp
  · rw [List.getElem?_append_right (by omega), h, List.getElem?_eq_none (Nat.le_refl _)]; simp
  · rw [List.getElem?_append_right (by omega), List.getElem?_eq_none (by simp; omega), List.getElem?_eq_none (by omega), decide_eq_false (by omega)]; simp
theorem Rp.put {bs : List UInt8} {bits : List Bool} (h : Rp bs bits) (on : Bool) : Rp (putB bs bits.length on) (bits ++ [on]) := by
  obtain ⟨hl, hb⟩ := h
  have key : ∃ r : List UInt8, r = (if bits.length % 8 = 0 then bs ++ [0] else bs) ∧ r.length = (bits.length + 1 + 7) / 8 ∧ ∀ i, bitAt r i = bits.getD i false := by
    refine ⟨_, rfl, ?_, ?_⟩
    · split
      · rw [List.length_append, List.length_singleton]; omega
      · omega
    · intro i
      split
      · rw [bitAt_push]; exact hb i
      · exact hb i
  obtain ⟨r, hr, hlr, hbr⟩ := key
  unfold putB
  simp only
  rw [← hr]
  cases on with
  | false =>
    refine ⟨by simp only [Bool.false_eq_true, if_false]; rw [hlr, List.length_append, List.length_singleton], fun i => ?_⟩
    simp only [Bool.false_eq_true, if_false]
    rw [hbr, getD_snoc]; simp
  | true =>
    simp only [if_true]
    refine ⟨by rw [List.length_set, hlr, List.length_append, List.length_singleton], fun i => ?_⟩
    rw [getD_snoc, ← hbr, Bool.true_and]
    unfold bitAt
    simp only [List.getD_eq_getElem?_getD, List.getElem?_set]
    by_cases hi : bits.length / 8 = i / 8
    · rw [if_pos hi, if_pos (by omega)]
      simp only [Option.getD_some]
      rw [hi, setB_bit _ (Nat.mod_lt _ (by decide)) (Nat.mod_lt _ (by decide))]
      congr 1
      apply decide_eq_decide.2
      omega
    · rw [if_neg hi, show decide (i = bits.length) = false from decide_eq_false (fun e => hi (by rw [e])), Bool.or_false]
theorem Rp.nil : Rp [] [] := ⟨rfl, fun i => by simp [bitAt]⟩
theorem byte_bits {x y : UInt8} (h : ∀ u, u < 8 → x.toNat.testBit (7 - u) = y.toNat.testBit (7 - u)) : x = y := by
  apply UInt8.toNat_inj.1
  apply Nat.eq_of_testBit_eq
  intro i
  by_cases hi : i < 8
  · have := h (7 - i) (by omega)
    rwa [show 7 - (7 - i) = i by omega] at this
  · have h1 : x.toNat < 2 ^ i := Nat.lt_of_lt_of_le x.toNat_lt (Nat.pow_le_pow_right (by decide) (by omega) : 2 ^ 8 ≤ 2 ^ i)
    have h2 : y.toNat < 2 ^ i := Nat.lt_of_lt_of_le y.toNat_lt (Nat.pow_le_pow_right (by decide) (by omega) : 2 ^ 8 ≤ 2 ^ i)
    rw [Nat.testBit_lt_two_pow h1, Nat.testBit_lt_two_pow h2]
theorem Rp.uniq {bs cs : List UInt8} {bits : List Bool} (h : Rp bs bits) (k : Rp cs bits) : bs = cs := by
  apply List.ext_getElem (h.1.trans k.1.symm)
  intro j h1 h2
  apply byte_bits
  intro u hu
  have a := h.2 (8 * j + u)
  have b := k.2 (8 * j + u)
  unfold bitAt at a b
  rw [show (8 * j + u) / 8 = j by omega, show (8 * j + u) % 8 = u by omega] at a b
  simp only [List.getD_eq_getElem?_getD, List.getElem?_eq_getElem h1, List.getElem?_eq_getElem h2, Option.getD_some] at a b
  rw [a, b]
/-- Rows of bits as bytes. -/
def packN (bits : List Bool) : Nat → List UInt8
  | 0 => []
  | n + 1 => putB (packN bits n) n (bits.getD n false)
def pack (bits : List Bool) : List UInt8 := packN bits bits.length
theorem packN_rp (bits : List Bool) : ∀ n, n ≤ bits.length → Rp (packN bits n) (bits.take n)
  | 0, _ => by rw [List.take_zero]; exact Rp.nil
  | n + 1, h => by
    have := (packN_rp bits n (by omega)).put (bits.getD n false)
    rw [List.length_take, Nat.min_eq_left (by omega)] at this
    have e : bits.take (n + 1) = bits.take n ++ [bits.getD n false] := by
      rw [List.getD_eq_getElem?_getD, List.getElem?_eq_getElem (by omega), Option.getD_some, List.take_append_getElem]
    rw [e]; exact this
theorem pack_rp (bits : List Bool) : Rp (pack bits) bits := by
  have := packN_rp bits bits.length (Nat.le_refl _)
  rwa [List.take_length] at this

/-! ## Bytes stand as bits do -/
/-! ## Lists -/
def cmpL : List Int → List Int → Int
  | [], [] => 0
  | [], _ :: _ => -1
  | _ :: _, [] => 1
  | a :: x, b :: y => if a < b then -1 else if a > b then 1 else cmpL x y
theorem cmpL_refl : ∀ l, cmpL l l = 0
  | [] => rfl
  | a :: l => by unfold cmpL; simp [cmpL_refl l]
theorem cmpL_cases : ∀ (a b : List Int), cmpL a b = -1 ∨ cmpL a b = 0 ∨ cmpL a b = 1
  | [], [] => by simp [cmpL]
  | [], _ :: _ => by simp [cmpL]
  | _ :: _, [] => by simp [cmpL]
  | a :: x, b :: y => by
    unfold cmpL
    split
    · simp
    · split
      · simp
      · exact cmpL_cases x y
/-! ## A label's bytes -/
def badB (l : List Int) : Bool := l.any (fun v => decide (v < -1073741824) || decide (v > 1073741824)) || (match l.getLast? with | some v => decide (v % 2 = 0) | none => false)
/-- The bytes, and the error. -/
def lab (l : List Int) : List UInt8 × Int := if badB l = true then ([], 11) else if (flatB l).length > 960 then ([], 5) else (pack (flatB l), 0)
theorem lab_ok {l : List Int} (h : (lab l).2 = 0) : badB l = false ∧ (flatB l).length ≤ 960 ∧ (lab l).1 = pack (flatB l) := by
  unfold lab at h ⊢
  split at h
  · simp at h
  · next hb =>
    rw [if_neg hb]
    split at h
    · simp at h
    · next hl => rw [if_neg hl]; exact ⟨by simpa using hb, by omega, rfl⟩
theorem bad_range {l : List Int} (h : badB l = false) : ∀ v ∈ l, -1073741824 ≤ v ∧ v ≤ 1073741824 := by
  intro v hv
  simp only [badB, Bool.or_eq_false_iff, List.any_eq_false, Bool.or_eq_true, decide_eq_true_eq, not_or] at h
  have := h.1 v hv
  omega
end Go.Vc


/-
  Labels, plain: reading back; parents, levels, and what stands between two kids.
-/
set_option linter.unusedVariables false
set_option linter.unusedSimpArgs false
namespace Go.Vc
open Go

/-! ## Reading -/
/-! ## Parents, levels -/
def oddZ (v : Int) : Bool := decide (v % 2 = 1)
theorem oddZ_iff {v : Int} : oddZ v = true ↔ v % 2 = 1 := by unfold oddZ; exact decide_eq_true_iff
/-- Without the even numbers at the end. -/
def cutE : List Int → List Int
  | [] => []
  | v :: l => match cutE l with
    | [] => if oddZ v then [v] else []
    | r => v :: r
def upL (l : List Int) : List Int := cutE l.dropLast
def levL (l : List Int) : Nat := l.countP oddZ
def aboveB (a b : List Int) : Bool := decide (a.length < b.length ∧ b.take a.length = a)

theorem cutE_even {l : List Int} (h : ∀ v ∈ l, oddZ v = false) : cutE l = [] := by
  induction l with
  | nil => rfl
  | cons v l ih =>
    rw [cutE, ih (fun x hx => h x (by simp [hx]))]
    simp [h v (by simp)]
theorem cutE_odd {v : Int} (hv : oddZ v = true) : ∀ (a : List Int) {e : List Int}, (∀ x ∈ e, oddZ x = false) → cutE (a ++ v :: e) = a ++ [v]
  | [], e, he => by
    rw [List.nil_append, cutE, cutE_even he]; simp [hv]
  | u :: a, e, he => by
    rw [List.cons_append, cutE, cutE_odd hv a he]
    cases a <;> rfl
/-- A list: up to its last odd number, and even ones behind; or all are even. -/
theorem cutE_cases : ∀ (l : List Int), ((∀ v ∈ l, oddZ v = false) ∧ cutE l = []) ∨ ∃ a v e, l = a ++ v :: e ∧ oddZ v = true ∧ (∀ x ∈ e, oddZ x = false) ∧ cutE l = a ++ [v]
  | [] => .inl ⟨by simp, rfl⟩
  | u :: l => by
    rcases cutE_cases l with ⟨h1, h2⟩ | ⟨a, v, e, h1, h2, h3, h4⟩
    · cases hu : oddZ u with
      | true => exact .inr ⟨[], u, l, rfl, hu, h1, by rw [cutE, h2]; simp [hu]⟩
      | false => exact .inl ⟨fun v hv => (List.mem_cons.1 hv).elim (fun e => e ▸ hu) (h1 v), by rw [cutE, h2]; simp [hu]⟩
    · refine .inr ⟨u :: a, v, e, by rw [h1]; rfl, h2, h3, ?_⟩
      rw [cutE, h4]
      cases a <;> rfl
theorem cutE_snoc_even {l : List Int} {v : Int} (h : oddZ v = false) : cutE (l ++ [v]) = cutE l := by
  rcases cutE_cases l with ⟨h1, h2⟩ | ⟨a, u, e, h1, h2, h3, h4⟩
  · rw [h2]; exact cutE_even (fun x hx => (List.mem_append.1 hx).elim (h1 x) fun hx => by rw [List.mem_singleton.1 hx]; exact h)
  · rw [h4, h1, List.append_assoc]
    exact cutE_odd h2 a (fun x hx => (List.mem_append.1 hx).elim (h3 x) fun hx => by rw [List.mem_singleton.1 hx]; exact h)
theorem cutE_snoc_odd {l : List Int} {v : Int} (h : oddZ v = true) : cutE (l ++ [v]) = l ++ [v] := cutE_odd h l (by simp)

/-- What stands behind the parent in a kid's label: even numbers, and an odd one. -/
inductive KRest : List Int → Prop
  | one {v : Int} : oddZ v = true → KRest [v]
  | more {v : Int} {r : List Int} : oddZ v = false → KRest r → KRest (v :: r)
theorem KRest.ne {r : List Int} (h : KRest r) : r ≠ [] := by cases h <;> simp
theorem KRest.lev {r : List Int} (h : KRest r) : levL r = 1 := by
  induction h with
  | one h => simp [levL, h]
  | more hv hr ih => simp only [levL] at ih ⊢; rw [List.countP_cons_of_neg (by simp [hv]), ih]
theorem KRest.drop_last {r : List Int} (h : KRest r) : ∀ v ∈ r.dropLast, oddZ v = false := by
  induction h with
  | one h => simp
  | more hv hr ih =>
    intro u hu
    rw [List.dropLast_cons_of_ne_nil hr.ne] at hu
    rcases List.mem_cons.1 hu with rfl | hu
    · exact hv
    · exact ih u hu
/-- A label that may be: it ends with an odd number, or is empty. -/
def EndO (l : List Int) : Prop := ∀ v, l.getLast? = some v → oddZ v = true
theorem badB_end {l : List Int} (h : badB l = false) : EndO l := by
  intro v hv
  unfold badB at h
  rw [hv] at h
  simp only [Bool.or_eq_false_iff, decide_eq_false_iff_not] at h
  rw [oddZ_iff]; omega
theorem up_rest {u r : List Int} (hu : EndO u) (h : KRest r) : upL (u ++ r) = u := by
  unfold upL
  rw [List.dropLast_append_of_ne_nil h.ne]
  rcases List.eq_nil_or_concat u with rfl | ⟨a, v, rfl⟩
  · rw [List.nil_append]; exact cutE_even h.drop_last
  · rw [List.concat_eq_append] at *
    rw [List.append_assoc]
    exact cutE_odd (hu v (by simp)) a h.drop_last
theorem rest_of_even {e : List Int} {v : Int} (he : ∀ x ∈ e, oddZ x = false) (hv : oddZ v = true) : KRest (e ++ [v]) := by
  induction e with
  | nil => exact .one hv
  | cons x e ih => exact .more (he x (by simp)) (ih fun y hy => he y (by simp [hy]))
/-- A kid's label is its parent and a rest. -/
theorem rest_of_kid {u l : List Int} (hl : l ≠ []) (he : EndO l) (hu : upL l = u) : ∃ r, l = u ++ r ∧ KRest r := by
  rcases List.eq_nil_or_concat l with rfl | ⟨a, v, rfl⟩
  · exact absurd rfl hl
  · have hv := he v (by simp)
    rw [List.concat_eq_append] at *
    unfold upL at hu
    rw [List.dropLast_concat] at hu
    rcases cutE_cases a with ⟨h1, h2⟩ | ⟨b, o, e, h1, h2, h3, h4⟩
    · rw [h2] at hu; subst hu
      exact ⟨a ++ [v], by simp, rest_of_even h1 hv⟩
    · rw [h4] at hu; subst hu
      exact ⟨e ++ [v], by rw [h1]; simp, rest_of_even h3 hv⟩

/-! ## How lists stand -/
theorem cmpL_append (u : List Int) (a b : List Int) : cmpL (u ++ a) (u ++ b) = cmpL a b := by
  induction u with
  | nil => rfl
  | cons v u ih => rw [List.cons_append, List.cons_append, cmpL, if_neg (by omega), if_neg (by omega), ih]
theorem cmpL_lt {a b : Int} {x y : List Int} (h : a < b) : cmpL (a :: x) (b :: y) = -1 := by rw [cmpL, if_pos h]
theorem cmpL_self (u a : List Int) (h : a ≠ []) : cmpL u (u ++ a) = -1 := by
  have := cmpL_append u [] a
  rw [List.append_nil] at this
  rw [this]
  cases a with
  | nil => exact absurd rfl h
  | cons v a => rfl
theorem cmpL_trans : ∀ {a b c : List Int}, cmpL a b = -1 → cmpL b c = -1 → cmpL a c = -1
  | [], [], _, h, _ => by simp [cmpL] at h
  | [], _ :: _, [], _, h => by simp [cmpL] at h
  | [], _ :: _, _ :: _, _, _ => rfl
  | _ :: _, [], _, h, _ => by simp [cmpL] at h
  | _ :: _, _ :: _, [], _, h => by simp [cmpL] at h
  | a :: x, b :: y, c :: z, h, k => by
    unfold cmpL at h k ⊢
    split at h
    · split at k
      · rw [if_pos (by omega)]
      · split at k
        · simp at k
        · rw [if_pos (by omega)]
    · split at h
      · simp at h
      · split at k
        · rw [if_pos (by omega)]
        · split at k
          · simp at k
          · rw [if_neg (by omega), if_neg (by omega)]
            exact cmpL_trans h k
theorem above_of {a b : List Int} (h : aboveB a b = true) : ∃ x, x ≠ [] ∧ b = a ++ x := by
  have h := of_decide_eq_true h
  refine ⟨b.drop a.length, ?_, ?_⟩
  · intro e
    have := congrArg List.length e
    rw [List.length_drop, List.length_nil] at this
    omega
  · conv => lhs; rw [← List.take_append_drop a.length b, h.2]
theorem above_append (a : List Int) {x : List Int} (h : x ≠ []) : aboveB a (a ++ x) = true := by
  refine decide_eq_true ⟨?_, List.take_left⟩
  rw [List.length_append]
  have := List.length_pos_iff.2 h
  omega
/-! ## Between -/
def behindZ (c : Int) : Int := if oddZ c then c + 2 else c + 1
def aheadZ (c : Int) : Int := if oddZ c then c - 2 else c - 1
theorem behind_odd (c : Int) : oddZ (behindZ c) = true ∧ c < behindZ c ∧ behindZ c ≤ c + 2 := by
  unfold behindZ
  cases h : oddZ c with
  | true => have := oddZ_iff.1 h; refine ⟨oddZ_iff.2 ?_, ?_, ?_⟩ <;> simp <;> omega
  | false =>
    have : ¬ c % 2 = 1 := fun e => by rw [oddZ_iff.2 e] at h; cases h
    refine ⟨oddZ_iff.2 ?_, ?_, ?_⟩ <;> simp <;> omega
theorem ahead_odd (c : Int) : oddZ (aheadZ c) = true ∧ aheadZ c < c ∧ c - 2 ≤ aheadZ c := by
  unfold aheadZ
  cases h : oddZ c with
  | true => have := oddZ_iff.1 h; refine ⟨oddZ_iff.2 ?_, ?_, ?_⟩ <;> simp <;> omega
  | false =>
    have : ¬ c % 2 = 1 := fun e => by rw [oddZ_iff.2 e] at h; cases h
    refine ⟨oddZ_iff.2 ?_, ?_, ?_⟩ <;> simp <;> omega
/-- Between two rests whose first numbers differ. -/
def amidC (x y x1 y1 : Int) : List Int := if behindZ x < y then [behindZ x] else if y = x + 2 then [x + 1, 1] else if oddZ x = true then [y, aheadZ y1] else [x, behindZ x1]
def amidL (l r : List Int) : List Int := amidC (l.headD 0) (r.headD 0) (l.getD 1 0) (r.getD 1 0)
/-- Between two rests. -/
def midL : List Int → List Int → List Int
  | a :: x, b :: y => if a = b then a :: midL x y else amidL (a :: x) (b :: y)
  | _, _ => []
theorem KRest.odd_one {v : Int} {r : List Int} (h : KRest (v :: r)) (hv : oddZ v = true) : r = [] := by
  cases h with
  | one _ => rfl
  | more h _ => rw [hv] at h; cases h
theorem KRest.even_more {v : Int} {r : List Int} (h : KRest (v :: r)) (hv : oddZ v = false) : KRest r := by
  cases h with
  | one h => rw [hv] at h; cases h
  | more _ h => exact h
theorem oddF {v : Int} (h : oddZ v = false) : v % 2 = 0 := by
  have : ¬ v % 2 = 1 := fun e => by rw [oddZ_iff.2 e] at h; cases h
  omega
theorem mid_ok : ∀ {x y : List Int}, KRest x → KRest y → cmpL x y = -1 → KRest (midL x y) ∧ cmpL x (midL x y) = -1 ∧ cmpL (midL x y) y = -1
  | [], _, h, _, _ => absurd rfl h.ne
  | _ :: _, [], _, h, _ => absurd rfl h.ne
  | a :: x, b :: y, hx, hy, h => by
    unfold midL
    by_cases e : a = b
    · subst e
      rw [if_pos rfl]
      have h' : cmpL x y = -1 := by unfold cmpL at h; rwa [if_neg (by omega), if_neg (by omega)] at h
      cases ha : oddZ a with
      | true =>
        rw [hx.odd_one ha, hy.odd_one ha] at h'
        simp [cmpL] at h'
      | false =>
        obtain ⟨h1, h2, h3⟩ := mid_ok (hx.even_more ha) (hy.even_more ha) h'
        refine ⟨.more ha h1, ?_, ?_⟩
        · unfold cmpL; rwa [if_neg (by omega), if_neg (by omega)]
        · unfold cmpL; rwa [if_neg (by omega), if_neg (by omega)]
    · rw [if_neg e]
      have hlt : a < b := by
        unfold cmpL at h
        split at h
        · assumption
        · split at h
          · simp at h
          · exfalso; omega
      rw [show amidL (a :: x) (b :: y) = amidC a b ((a :: x).getD 1 0) ((b :: y).getD 1 0) from rfl]
      unfold amidC
      have hb := behind_odd a
      by_cases c1 : behindZ a < b
      · rw [if_pos c1]
        exact ⟨.one hb.1, cmpL_lt hb.2.1, cmpL_lt c1⟩
      rw [if_neg c1]
      by_cases c2 : b = a + 2
      · rw [if_pos c2]
        have ho : oddZ (a + 1) = false := by
          cases ho : oddZ (a + 1) with
          | false => rfl
          | true =>
            have h1 := oddZ_iff.1 ho
            have : oddZ a = false := by cases h2 : oddZ a with | false => rfl | true => have := oddZ_iff.1 h2; omega
            unfold behindZ at c1
            rw [this] at c1
            simp at c1; omega
        exact ⟨.more ho (.one (by decide)), cmpL_lt (by omega), cmpL_lt (by omega)⟩
      rw [if_neg c2]
      cases ha : oddZ a with
      | true =>
        have h1 := oddZ_iff.1 ha
        unfold behindZ at c1
        rw [ha] at c1
        simp only [if_true] at c1
        have hb2 : b = a + 1 := by omega
        have hbo : oddZ b = false := by cases h2 : oddZ b with | false => rfl | true => have := oddZ_iff.1 h2; omega
        have hr := hy.even_more hbo
        simp only [if_true]
        cases y with
        | nil => exact absurd rfl hr.ne
        | cons c y =>
          have hc := ahead_odd c
          refine ⟨.more hbo (.one hc.1), cmpL_lt hlt, ?_⟩
          show cmpL [b, aheadZ c] (b :: c :: y) = -1
          unfold cmpL
          rw [if_neg (by omega), if_neg (by omega)]
          exact cmpL_lt hc.2.1
      | false =>
        have h1 := oddF ha
        have hr := hx.even_more ha
        simp only [Bool.false_eq_true, if_false]
        cases x with
        | nil => exact absurd rfl hr.ne
        | cons c x =>
          have hc := behind_odd c
          refine ⟨.more ha (.one hc.1), ?_, cmpL_lt hlt⟩
          show cmpL (a :: c :: x) [a, behindZ c] = -1
          unfold cmpL
          rw [if_neg (by omega), if_neg (by omega)]
          exact cmpL_lt hc.2.1

def kidB (up l : List Int) : Bool := decide (l ≠ [] ∧ (lab l).2 = 0 ∧ upL l = up)
/-- The new label, before it is asked whether it is too long. -/
def newL (up l r : List Int) : List Int :=
  if l = [] then (if r = [] then up ++ [1] else up ++ [aheadZ (r.getD up.length 0)])
  else if r = [] then up ++ [behindZ (l.getD up.length 0)]
  else up ++ midL (l.drop up.length) (r.drop up.length)
def argB (up l r : List Int) : Bool := decide ((lab up).2 ≠ 0 ∨ (l ≠ [] ∧ kidB up l = false) ∨ (r ≠ [] ∧ kidB up r = false) ∨ (l ≠ [] ∧ r ≠ [] ∧ cmpL l r ≠ -1))
def betL (up l r : List Int) : List Int × Int :=
  if argB up l r = true then ([], 1) else if (lab (newL up l r)).2 ≠ 0 then ([], 5) else (newL up l r, 0)
theorem lab_endO {l : List Int} (h : (lab l).2 = 0) : EndO l := badB_end (lab_ok h).1
theorem kid_rest {up l : List Int} (h : kidB up l = true) : ∃ r, l = up ++ r ∧ KRest r := by
  have h := of_decide_eq_true h
  exact rest_of_kid h.1 (lab_endO h.2.1) h.2.2
theorem arg_split {up l r : List Int} (h : argB up l r = false) : (lab up).2 = 0 ∧ (l ≠ [] → kidB up l = true) ∧ (r ≠ [] → kidB up r = true) ∧ (l ≠ [] → r ≠ [] → cmpL l r = -1) := by
  have h := of_decide_eq_false h
  simp only [not_or, not_and, Bool.not_eq_false, Decidable.not_not] at h
  exact ⟨h.1, h.2.1, h.2.2.1, h.2.2.2⟩
theorem new_rest {up l r : List Int} (h : argB up l r = false) : ∃ n, newL up l r = up ++ n ∧ KRest n ∧ (l ≠ [] → cmpL l (up ++ n) = -1) ∧ (r ≠ [] → cmpL (up ++ n) r = -1) := by
  obtain ⟨h1, h2, h3, h4⟩ := arg_split h
  unfold newL
  by_cases hl : l = []
  · rw [if_pos hl]
    by_cases hr : r = []
    · rw [if_pos hr]
      exact ⟨[1], rfl, .one (by decide), fun e => absurd hl e, fun e => absurd hr e⟩
    · rw [if_neg hr]
      obtain ⟨y, rfl, hy⟩ := kid_rest (h3 hr)
      cases y with
      | nil => exact absurd rfl hy.ne
      | cons c y =>
        have e : (up ++ c :: y).getD up.length 0 = c := by rw [List.getD_eq_getElem?_getD, List.getElem?_append_right (Nat.le_refl _)]; simp
        rw [e]
        exact ⟨_, rfl, .one (ahead_odd c).1, fun e => absurd hl e, fun _ => by rw [cmpL_append]; exact cmpL_lt (ahead_odd c).2.1⟩
  · rw [if_neg hl]
    obtain ⟨x, rfl, hx⟩ := kid_rest (h2 hl)
    by_cases hr : r = []
    · rw [if_pos hr]
      cases x with
      | nil => exact absurd rfl hx.ne
      | cons c x =>
        have e : (up ++ c :: x).getD up.length 0 = c := by rw [List.getD_eq_getElem?_getD, List.getElem?_append_right (Nat.le_refl _)]; simp
        rw [e]
        exact ⟨_, rfl, .one (behind_odd c).1, fun _ => by rw [cmpL_append]; exact cmpL_lt (behind_odd c).2.1, fun e => absurd hr e⟩
    · rw [if_neg hr]
      obtain ⟨y, rfl, hy⟩ := kid_rest (h3 hr)
      have hc := h4 hl hr
      rw [cmpL_append] at hc
      rw [List.drop_left, List.drop_left]
      obtain ⟨m1, m2, m3⟩ := mid_ok hx hy hc
      exact ⟨_, rfl, m1, fun _ => by rw [cmpL_append]; exact m2, fun _ => by rw [cmpL_append]; exact m3⟩
/-- THE NEW LABEL. -/
theorem bet_ok {up l r n : List Int} (h : betL up l r = (n, 0)) : (lab n).2 = 0 ∧ upL n = up ∧ levL n = levL up + 1 ∧ aboveB up n = true ∧ kidB up n = true ∧ (l ≠ [] → cmpL l n = -1) ∧ (r ≠ [] → cmpL n r = -1) := by
  unfold betL at h
  split at h
  · simp at h
  · next ha =>
    have ha : argB up l r = false := by simpa using ha
    split at h
    · simp at h
    · next hn =>
      simp only [Prod.mk.injEq, and_true] at h
      have hn : (lab (newL up l r)).2 = 0 := by simpa using hn
      obtain ⟨m, e, hm, h1, h2⟩ := new_rest ha
      rw [h] at e hn
      subst e
      have hu := up_rest (lab_endO (arg_split ha).1) hm
      refine ⟨hn, hu, ?_, above_append _ hm.ne, decide_eq_true ⟨?_, hn, hu⟩, h1, h2⟩
      · unfold levL; rw [List.countP_append]; have := hm.lev; unfold levL at this; omega
      · intro e; exact hm.ne (List.append_eq_nil_iff.1 e).2
end Go.Vc
namespace Go.Vc
/-! ## Rows of kids -/
end Go.Vc


/-
  Rows of cells that are made of equal pieces; small facts on lists.
-/
namespace Go.Vc
open Go

section
variable {α : Type} {f : α → List Value} {k : Nat} {L : List α}

def rows (f : α → List Value) (L : List α) : List Value := L.flatMap f
def Even (f : α → List Value) (k : Nat) (L : List α) : Prop := ∀ x ∈ L, (f x).length = k

theorem Even.cons {x : α} (h : Even f k (x :: L)) : (f x).length = k ∧ Even f k L := ⟨h x (by simp), fun y hy => h y (by simp [hy])⟩
theorem rows_nil : rows f [] = [] := rfl
theorem rows_cons (x : α) : rows f (x :: L) = f x ++ rows f L := by simp [rows]
theorem rows_append (M : List α) : rows f (L ++ M) = rows f L ++ rows f M := by simp [rows]
theorem rows_len (h : Even f k L) : (rows f L).length = L.length * k := by
  induction L with
  | nil => simp [rows]
  | cons x L ih =>
    obtain ⟨h1, h2⟩ := h.cons
    rw [rows_cons, List.length_append, h1, ih h2, List.length_cons, Nat.succ_mul]; omega
theorem rows_drop (h : Even f k L) (i : Nat) : (rows f L).drop (i * k) = rows f (L.drop i) := by
  induction i generalizing L with
  | zero => simp
  | succ i ih =>
    cases L with
    | nil => simp [rows]
    | cons x L =>
      obtain ⟨h1, h2⟩ := h.cons
      rw [rows_cons, List.drop_succ_cons, ← ih h2, Nat.succ_mul, Nat.add_comm, ← List.drop_drop, ← h1, List.drop_left]
theorem rows_get (h : Even f k L) {i : Nat} {x : α} (hi : L[i]? = some x) : ((rows f L).drop (i * k)).take k = f x := by
  rw [rows_drop h i]
  have hlt := (List.getElem?_eq_some_iff.1 hi).1
  have hx := (List.getElem?_eq_some_iff.1 hi).2
  rw [List.drop_eq_getElem_cons hlt, rows_cons, hx, ← h x (List.mem_of_getElem? hi), List.take_left]
theorem rows_at (h : Even f k L) {i j : Nat} {x : α} (hi : L[i]? = some x) (hj : j < k) : (rows f L)[i * k + j]? = (f x)[j]? := by
  rw [← rows_get h hi, List.getElem?_take, if_pos hj, List.getElem?_drop]
theorem one1_rows (h : ∀ x ∈ L, one1 (f x)) : one1 (rows f L) := by
  intro v hv
  obtain ⟨x, hx, hvx⟩ := List.mem_flatMap.1 hv
  exact h x hx v hvx
end

/-- A slice of equal pieces: what its i-th is. -/
theorem Sl.row {α : Type} {f : α → List Value} {k : Nat} {L : List α} {w : World} {p : Option Addr} {l : Nat} (h : Sl w p l k (rows f L)) (hE : Even f k L) (hk : 0 < k) : L.length = l := by
  have := h.1
  rw [rows_len hE] at this
  exact Nat.eq_of_mul_eq_mul_right hk this

theorem idx_rows {α : Type} {f : α → List Value} {k : Nat} {L : List α} {w : World} {p : Option Addr} {l : Nat} {i : Int} {K : Addr → Prop} (h : Sl w p l k (rows f L)) (hE : Even f k L) (hk : 0 < k) (h0 : 0 ≤ i) (h1 : i < l)
    (go : ∀ (a : Addr) (x : α), p = some a → L[i.toNat]? = some x → cellsAt w (a.add (i.toNat * k)) (f x) → K a) : idxA p l i K := by
  have hl := h.row hE hk
  have hlt : i.toNat < L.length := by omega
  refine idx_sl h h0 h1 fun a ha hc => ?_
  have hx : L[i.toNat]? = some L[i.toNat] := List.getElem?_eq_getElem hlt
  refine go a _ ha hx ?_
  have := cellsAt_take k hc
  rwa [rows_get hE hx] at this

/-! ### int -/
def InI (n : Int) : Prop := -9223372036854775808 ≤ n ∧ n ≤ 9223372036854775807
theorem w64_of {n : Int} (h1 : -9223372036854775808 ≤ n) (h2 : n ≤ 9223372036854775807) : w64 n = n := by
  unfold w64; rw [IntKind.wrap_i64]; omega
end Go.Vc


/-
  What every package of this program wants: rows of bytes and of bools, literals, copies of slices.
-/
namespace Go.Proofs.YtmnbgcgealpcbaaGreatDoor
open Go Go.Vc

theorem slT_u8 : SlT Tryz.prog T_sl_uint8 T_uint8 1 1 #[.int .u8 0] := SlT.of (by kernel_rfl) (by kernel_rfl) rfl (by decide)
/-- append([]T{}, s...): a new row. -/
theorem twin_row {t e : TypeId} {sz by_ : Nat} {z : Array Value} (T : SlT Tryz.prog t e sz by_ z) {w : World} {p : Option Addr} {l c : Nat} {vs : List Value} {J : Option Addr → Nat → Nat → World → Prop}
    (h : Sl w p l sz vs) (h1 : one1 vs) (hp : p = none → l = 0) (hb : l * by_ ≤ 140737488355328) (hm : l ≤ maxLen)
    (k : ∀ p' c' w', Row w' e sz p' l c' vs → fresh w p' → Chg No w w' → J p' l c' w') :
    newB w (.cells ⟨[]⟩ e) fun b w1 => appJ Tryz.prog t t (.slice (some ⟨b, 0, none⟩) 0 0) (.slice p l c) w1 fun p' l' c' w2 => J p' l' c' w2 := by
  refine (Hp.start w No).newB fun b w1 H hbw hc1 => ?_
  refine appJ_row T (H.asRow 0 rfl (xs := []) (rest := []) rfl (by simp) (Nat.le_refl _) (Nat.zero_le _) (by simp)) (h.chg hc1 (off_no _)) h1 hp (by simpa using hb) (by simpa using hm)
    fun p' c' w' hr hc hf => ?_
  rw [Nat.zero_add] at hr ⊢
  refine k _ _ _ (by simpa using hr) ?_ (hc1.trans hc ?_)
  · rcases hf with rfl | hf
    · rintro a ⟨⟩; exact hbw
    · intro a ha; exact Nat.le_trans hc1.size (hf a ha)
  · rintro x hx ⟨a, ha, hax⟩
    cases ha
    simp only at hax
    omega

theorem clone_cond {t e : TypeId} {sz by_ : Nat} {z : Array Value} (T : SlT Tryz.prog t e sz by_ z) {w : World} {p : Option Addr} {l c : Nat} {vs : List Value} {J : Option Addr → Nat → Nat → World → Prop}
    (h : Sl w p l sz vs) (h1 : one1 vs) (hp : p = none → l = 0) (hb : l * by_ ≤ 140737488355328) (hm : l ≤ maxLen)
    (k : ∀ p' c' w', Row w' e sz p' l c' vs → fresh w p' → Chg No w w' → J p' l c' w') :
    condB p.isNone (J none 0 0 w) (newB w (.cells ⟨[]⟩ e) fun b w1 => appJ Tryz.prog t t (.slice (some ⟨b, 0, none⟩) 0 0) (.slice p l c) w1 fun p' l' c' w2 => J p' l' c' w2) := by
  cases p with
  | none =>
    have h0 := hp rfl
    subst h0
    have hn : vs = [] := List.eq_nil_of_length_eq_zero (by simpa using h.1)
    subst hn
    exact k none 0 w (Row.nil _ _ _) (by rintro a ⟨⟩) (Chg.refl _ _)
  | some a => exact twin_row T h h1 hp hb hm k

/-- A literal of several values. -/
theorem newRow {w : World} {e : TypeId} {cs : List Value} {sz n : Nat} {K : Nat → World → Prop} (hn : cs.length = n * sz) (hm : n ≤ maxLen)
    (k : ∀ b w', Row w' e sz (some ⟨b, 0, none⟩) n n cs → w.heap.size ≤ b → Chg No w w' → K b w') : newB w (.cells ⟨cs⟩ e) K :=
  (Hp.start w No).newB fun b w' H hb hc => k b w' (H.asRow 0 rfl (rest := []) (by simp) hn (Nat.le_refl _) hm hn) hb hc

end Go.Proofs.YtmnbgcgealpcbaaGreatDoor


/-
  Plain facts: numbers as bytes, the sum of bytes, and that one byte turned turns the sum.
-/
namespace Go.Vc
open Go

/-! ## Numbers as bytes, the highest first -/

/-! ## The sum -/

/-! ## Words of 32 and 64 bits -/

theorem wrap_u64 (n : Int) : IntKind.u64.wrap n = n % 18446744073709551616 := by unfold IntKind.wrap; simp [IntKind.signed, IntKind.bits]
theorem wrap_u8 (n : Int) : IntKind.u8.wrap n = n % 256 := by unfold IntKind.wrap; simp [IntKind.signed, IntKind.bits]

end Go.Vc


/-
  Small words on rows of bytes (of no one package).
-/
namespace Go.Vc
open Go Go.RowKit

end Go.Vc
namespace Go.Proofs.YtmnbgcgealpcbaaGreatDoor
open Go Go.Vc

theorem typ_ne {w : World} {a b : Nat} {e e' : TypeId} (h : typ w a = some e) (h' : typ w b = some e') (hne : e ≠ e') : a ≠ b := by
  rintro rfl; rw [h] at h'; cases h'; exact hne rfl

section
variable {w : World}
theorem cutB {q : Option Addr} {m d : Nat} {b : List UInt8} (h : Bytes w q m b) {i j : Nat} (hij : i ≤ j) (hj : j ≤ m) (hd : m ≤ d) {oi oj : Option Int} (e1 : oi.getD 0 = (i : Int)) (e2 : oj.getD m = (j : Int)) {K : Option Addr → Nat → Nat → Prop}
    (k : ∀ q', Bytes w q' (j - i) ((b.drop i).take (j - i)) → (q' = none → j - i = 0) → K q' (j - i) (d - i)) : slS q m d 1 oi oj none K := by
  refine slS_sl (i := i) (j := j) h e1 e2 hij hj hd fun q' hq _ => ?_
  have hq' : Bytes w q' (j - i) ((b.drop i).take (j - i)) := by
    have e : ((bcells b).drop (i * 1)).take ((j - i) * 1) = bcells ((b.drop i).take (j - i)) := by
      unfold bcells; rw [Nat.mul_one, Nat.mul_one, ← List.map_drop, ← List.map_take]
    rw [e] at hq; exact hq
  refine k q' hq' fun h0 => ?_
  by_cases hz : j - i = 0
  · exact hz
  · obtain ⟨a, ha, _⟩ := Sl.at hq' hz; rw [h0] at ha; cases ha

end

/-- q[i] = v in a row of bytes of the call's own. -/
theorem Row.stB {w : World} {p : Option Addr} {l c : Nat} {bs : List UInt8} (hr : Row w T_uint8 1 p l c (bcells bs)) {i : Int} (h0 : 0 ≤ i) (h1 : i < l) {v : UInt8} {K : World → Prop}
    (k : ∀ w', Row w' T_uint8 1 p l c (bcells (bs.set i.toNat v)) → Chg (isB p) w w' → K w') : idxA p l i fun a => stV w (a.add (i.toNat * 1)) (.int .u8 (v.toNat : Int)) K := by
  obtain ⟨b, rest, rfl, hh, hle, hmax, hlen⟩ := hr.some0 (by omega)
  have hl := hr.len
  rw [bcells_length, Nat.mul_one] at hl
  refine idxA_i h0 h1 ?_
  rw [Addr.add_mk, Nat.zero_add, Nat.mul_one]
  have H := (Hp.start w (isB (some ⟨b, 0, none⟩))).add hh (by simp) (fun _ => ⟨_, rfl, rfl⟩)
  refine H.stV 0 rfl (off := i.toNat) (by rw [List.length_append, bcells_length]; omega) fun w' H' hc => ?_
  have e : (bcells bs ++ rest).set i.toNat (Value.int .u8 (v.toNat : Int)) = bcells (bs.set i.toNat v) ++ rest := by
    rw [List.set_append_left _ _ (by rw [bcells_length]; omega)]
    unfold bcells
    rw [← List.map_set]
  simp only [List.set_cons_zero] at H'
  rw [e] at H'
  exact k w' (H'.asRow 0 rfl rfl (by rw [bcells_length, List.length_set]; omega) hle hmax (by rw [← hlen]; simp [bcells])) H'.chg

end Go.Proofs.YtmnbgcgealpcbaaGreatDoor


/-
  Labels: the program's writer, and a label's bytes.
-/
set_option linter.unusedVariables false
set_option linter.unusedSimpArgs false
namespace Go.Vc
open Go
/-! ## Bits of bytes and of numbers -/
theorem bit_or : ∀ (x : Fin 256) (t : Fin 8), bOr .u8 (x.val : Int) (shrI .u8 (128 : Int) (t.val : Int)) = (((x.val ||| 2 ^ (7 - t.val) : Nat)) : Int) := by decide +kernel
theorem setB_nat (x : UInt8) {t : Nat} (ht : t < 8) : (setB x t).toNat = x.toNat ||| 2 ^ (7 - t) := by
  unfold setB
  have h1 : x.toNat < 2 ^ 8 := x.toNat_lt
  have h2 : 2 ^ (7 - t) < 2 ^ 8 := Nat.pow_lt_pow_right (by decide) (by omega)
  have h3 : x.toNat ||| 2 ^ (7 - t) < 2 ^ 8 := Nat.or_lt_two_pow h1 h2
  simp only [UInt8.toNat_ofNat']; exact Nat.mod_eq_of_lt h3
theorem bit_set (x : UInt8) {t : Nat} (ht : t < 8) : bOr .u8 (x.toNat : Int) (shrI .u8 (128 : Int) (t : Int)) = ((setB x t).toNat : Int) := by
  rw [setB_nat x ht]; exact bit_or ⟨x.toNat, x.toNat_lt⟩ ⟨t, ht⟩
theorem and_one (x : Int) : (BitVec.ofInt 64 x &&& BitVec.ofInt 64 1).toNat = (x % 2).toNat := by
  rw [BitVec.toNat_and, show (BitVec.ofInt 64 1).toNat = 1 from rfl, Nat.and_one_is_mod, BitVec.toNat_ofInt]
  omega
theorem odd_and (x : Int) : ((bAnd .i64 x (1 : Int)) == (1 : Int)) = oddZ x := by
  have e : bAnd .i64 x 1 = x % 2 := by
    show IntKind.i64.wrap ((BitVec.ofInt 64 x &&& BitVec.ofInt 64 1).toNat : Int) = _
    rw [and_one, IntKind.wrap_i64]; omega
  rw [e]; unfold oddZ
  by_cases h : x % 2 = 1 <;> simp [h]
theorem u64_and (x : Int) : ((bAnd .u64 x (1 : Int)) == (1 : Int)) = decide (x % 2 = 1) := by
  have e : bAnd .u64 x 1 = x % 2 := by
    show IntKind.u64.wrap ((BitVec.ofInt 64 x &&& BitVec.ofInt 64 1).toNat : Int) = _
    rw [and_one, wrap_u64]; omega
  rw [e]
  by_cases h : x % 2 = 1 <;> simp [h]
theorem u64_shr (m : Nat) {i : Nat} (hi : i ≤ 64) : shrI .u64 (m : Int) (i : Int) = ((m / 2 ^ i : Nat) : Int) := by
  unfold shrI
  rw [Int.toNat_natCast, show min i IntKind.u64.bits = i from Nat.min_eq_left hi, Int.fdiv_eq_ediv_of_nonneg _ (Int.le_of_lt (Int.pow_pos (by decide))), Int.natCast_ediv, Int.natCast_pow]; rfl
theorem u64_bit (m : Nat) {i : Nat} (hi : i ≤ 64) : ((bAnd .u64 (shrI .u64 (m : Int) (i : Int)) (1 : Int)) == (1 : Int)) = m.testBit i := by
  rw [u64_shr m hi, u64_and, Nat.testBit_eq_decide_div_mod_eq]
  apply decide_eq_decide.2
  omega

/-! ## Rows of numbers -/
def ints (xs : List Int) : List Value := xs.map (.int .i64)
theorem ints_length (xs : List Int) : (ints xs).length = xs.length := by simp [ints]
theorem one1_ints7 (xs : List Int) : one1 (ints xs) := by
  intro v hv; obtain ⟨b, _, rfl⟩ := List.mem_map.1 hv; rfl
def Ints (w : World) (p : Option Addr) (l : Nat) (xs : List Int) : Prop := Sl w p l 1 (ints xs)
section
variable {w w' : World} {p : Option Addr} {l : Nat} {xs : List Int} {S : Nat → Prop}
theorem Ints.len (h : Ints w p l xs) : xs.length = l := by have := h.1; simpa [ints] using this
theorem Ints.chg (h : Ints w p l xs) (hc : Chg S w w') (hn : off p S) : Ints w' p l xs := Sl.chg h hc hn
theorem int_i {i : Int} {K : Int → Prop} (h : Ints w p l xs) (h0 : 0 ≤ i) (h1 : i < l) (k : ∀ n : Int, xs[i.toNat]? = some n → K n) :
    idxA p l i fun a => ldI .i64 w (a.add (i.toNat * 1)) K := by
  have hl := h.len
  have hlt : i.toNat < xs.length := by omega
  refine idx_sl h h0 h1 fun a _ hc => ?_
  rw [Nat.mul_one] at hc ⊢
  have hb : xs[i.toNat]? = some xs[i.toNat] := List.getElem?_eq_getElem hlt
  refine ⟨xs[i.toNat], ?_, k _ hb⟩
  have := hc 0 (.int .i64 xs[i.toNat]) (by rw [List.getElem?_drop]; simp [ints, hb])
  rwa [add_zero'] at this
theorem cutI {c : Nat} (h : Ints w p l xs) {i j : Nat} (hij : i ≤ j) (hj : j ≤ l) (hd : l ≤ c) {oi oj : Option Int} (e1 : oi.getD 0 = (i : Int)) (e2 : oj.getD l = (j : Int)) {K : Option Addr → Nat → Nat → Prop}
    (k : ∀ q', Ints w q' (j - i) ((xs.drop i).take (j - i)) → (q' = none → j - i = 0) → K q' (j - i) (c - i)) : slS p l c 1 oi oj none K := by
  refine slS_sl (i := i) (j := j) h e1 e2 hij hj hd fun q' hq _ => ?_
  have hq' : Ints w q' (j - i) ((xs.drop i).take (j - i)) := by
    have e : ((ints xs).drop (i * 1)).take ((j - i) * 1) = ints ((xs.drop i).take (j - i)) := by
      unfold ints; rw [Nat.mul_one, Nat.mul_one, ← List.map_drop, ← List.map_take]
    rw [e] at hq; exact hq
  refine k q' hq' fun h0 => ?_
  by_cases hz : j - i = 0
  · exact hz
  · obtain ⟨a, ha, _⟩ := Sl.at hq' hz; rw [h0] at ha; cases ha
end
end Go.Vc
namespace Go.Proofs.YtmnbgcgealpcbaaGreatDoor.Lb
open Go Go.Vc
theorem slT_int : SlT Tryz.prog T_sl_int T_int 1 8 #[.int .i64 0] := SlT.of (by kernel_rfl) (by kernel_rfl) rfl (by decide)

section
variable {w : World}
theorem Odd_ok {n : Int} {J : Bool → World → Prop} (k : J (oddZ n) w) : callJ Tryz.prog fn_label_odd #[.int .i64 n] w [.one .bool] J := by
  refine c_label_odd ?_
  unfold VC_label_odd
  rw [odd_and]; exact k

/-! ### How many bits -/
def lenTab : ByteArray := ⟨#[0, 1, 2, 2, 3, 3, 3, 3, 4, 4, 4, 4, 4, 4, 4, 4, 5, 5, 5, 5, 5, 5, 5, 5, 5, 5, 5, 5, 5, 5, 5, 5, 6, 6, 6, 6, 6, 6, 6, 6, 6, 6, 6, 6, 6, 6, 6, 6, 6, 6, 6, 6, 6, 6, 6, 6, 6, 6, 6, 6, 6, 6, 6, 6, 7, 7, 7, 7, 7, 7, 7, 7, 7, 7, 7, 7, 7, 7, 7, 7, 7, 7, 7, 7, 7, 7, 7, 7, 7, 7, 7, 7, 7, 7, 7, 7, 7, 7, 7, 7, 7, 7, 7, 7, 7, 7, 7, 7, 7, 7, 7, 7, 7, 7, 7, 7, 7, 7, 7, 7, 7, 7, 7, 7, 7, 7, 7, 7, 8, 8, 8, 8, 8, 8, 8, 8, 8, 8, 8, 8, 8, 8, 8, 8, 8, 8, 8, 8, 8, 8, 8, 8, 8, 8, 8, 8, 8, 8, 8, 8, 8, 8, 8, 8, 8, 8, 8, 8, 8, 8, 8, 8, 8, 8, 8, 8, 8, 8, 8, 8, 8, 8, 8, 8, 8, 8, 8, 8, 8, 8, 8, 8, 8, 8, 8, 8, 8, 8, 8, 8, 8, 8, 8, 8, 8, 8, 8, 8, 8, 8, 8, 8, 8, 8, 8, 8, 8, 8, 8, 8, 8, 8, 8, 8, 8, 8, 8, 8, 8, 8, 8, 8, 8, 8, 8, 8, 8, 8, 8, 8, 8, 8, 8, 8, 8, 8, 8, 8, 8, 8, 8, 8, 8, 8, 8, 8]⟩
theorem lenTab_at : ∀ x : Fin 256, lenTab[x.val]?.map UInt8.toNat = some (blen x.val) := by decide +kernel
theorem Len64_ok {n : Nat} {J : Int → World → Prop} (hn : n < 2 ^ 64) (k : J ((blen n : Nat) : Int) w) : callJ Tryz.prog fn_math_bits_Len64 #[.int .u64 (n : Int)] w [.one (.int .i64)] J := by
  refine c_math_bits_Len64 ?_
  unfold VC_math_bits_Len64
  refine withJ_i fun J0 hJ0 => ?_
  have k0 : ∀ a : Nat, a < 2 ^ 32 → ∀ b : Nat, b ≤ 32 → blen n = blen a + b → J0 (a : Int) (b : Int) w := by
    intro a ha b hb e; subst hJ0
    refine withJ_i fun J1 hJ1 => ?_
    have k1 : ∀ a : Nat, a < 2 ^ 16 → ∀ b : Nat, b ≤ 48 → blen n = blen a + b → J1 (a : Int) (b : Int) w := by
      intro a ha b hb e; subst hJ1
      refine withJ_i fun J2 hJ2 => ?_
      have k2 : ∀ a : Nat, a < 2 ^ 8 → ∀ b : Nat, b ≤ 56 → blen n = blen a + b → J2 (a : Int) (b : Int) w := by
        intro a ha b hb e; subst hJ2
        have hw : IntKind.u8.wrap (a : Int) = (a : Int) := by rw [wrap_u8]; omega
        show idxStr lenTab (IntKind.u8.wrap (a : Int)) fun x22 => J (w64 ((b : Int) + (w64 x22))) w
        rw [hw]
        have ht := lenTab_at ⟨a, ha⟩
        rw [Option.map_eq_some_iff] at ht
        obtain ⟨x, hx, hb2⟩ := ht
        have hle := blen_le (n := a) (k := 8) ha
        refine ⟨x, by omega, by rw [Int.toNat_natCast]; exact hx, ?_⟩
        simp only at hb2
        show J (w64 ((b : Int) + w64 (x.toNat : Int))) w
        rw [hb2, w64_of (n := ((blen a : Nat) : Int)) (by omega) (by omega), w64_of (by omega) (by omega)]
        have e2 : (b : Int) + (blen a : Nat) = ((blen n : Nat) : Int) := by omega
        rw [e2]; exact k
      refine condB_d (fun h => ?_) (fun h => k2 a (by omega) b (by omega) e)
      refine ⟨by decide, ?_⟩
      have e8 := u64_shr a (i := 8) (by decide)
      rw [show ((8 : Nat) : Int) = 8 from rfl] at e8
      rw [e8, w64_of (by omega) (by omega)]
      exact k2 _ (by omega) (b + 8) (by omega) (by rw [e, blen_shift (n := a) (s := 8) (by omega)]; omega)
    refine condB_d (fun h => ?_) (fun h => k1 a (by omega) b (by omega) e)
    refine ⟨by decide, ?_⟩
    have e8 := u64_shr a (i := 16) (by decide)
    rw [show ((16 : Nat) : Int) = 16 from rfl] at e8
    rw [e8, w64_of (by omega) (by omega)]
    exact k1 _ (by omega) (b + 16) (by omega) (by rw [e, blen_shift (n := a) (s := 16) (by omega)]; omega)
  refine condB_d (fun h => ?_) (fun h => k0 n (by omega) 0 (by omega) (by omega))
  refine ⟨by decide, ?_⟩
  have e8 := u64_shr n (i := 32) (by decide)
  rw [show ((32 : Nat) : Int) = 32 from rfl] at e8
  rw [e8]
  exact k0 _ (by omega) 32 (by omega) (by rw [blen_shift (n := n) (s := 32) (by omega)])
theorem Len_ok {n : Nat} {J : Int → World → Prop} (hn : n < 2 ^ 64) (k : J ((blen n : Nat) : Int) w) : callJ Tryz.prog fn_math_bits_Len #[.int .u64 (n : Int)] w [.one (.int .i64)] J :=
  c_math_bits_Len (Len64_ok hn k)

/-! ### The writer -/
structure Wr (w0 w : World) (b : Nat) (bits : List Bool) (bs : List UInt8) (p : Option Addr) (l c : Nat) : Prop where
  H : Hp w0 No w [⟨b, [.slice p l c, .int .i64 (bits.length : Nat)], T_label_writer⟩]
  row : Row w T_uint8 1 p l c (bcells bs)
  fr : fresh w0 p
  rp : Rp bs bits
def Wri (w0 w : World) (b : Nat) (bits : List Bool) : Prop := ∃ bs p l c, Wr w0 w b bits bs p l c

theorem fresh_no {w0 : World} {p : Option Addr} (h : fresh w0 p) : ∀ b, b < w0.heap.size → isB p b → No b := by
  rintro b hb ⟨a, ha, rfl⟩
  have := h a ha; omega
theorem WBit_ok {w0 : World} {b : Nat} {bits : List Bool} {on : Bool} {J : World → Prop} (h : Wri w0 w b bits) (hn : bits.length ≤ 100000) (K : ∀ w', Wri w0 w' b (bits ++ [on]) → J w') :
    callJ Tryz.prog fn_label_writer_bit #[.pointer (some ⟨b, 0, none⟩), .bool on] w [] J := by
  refine c_label_writer_bit_n0 ?_
  unfold VC_label_writer_bit_n0
  have ea : (⟨b, 0, none⟩ : Addr).add 1 = ⟨b, 1, none⟩ := by rw [Addr.add_mk]
  simp only [ea]
  obtain ⟨bs, p, l, c, H, hr, hf, hp⟩ := h
  have hl : bs.length = l := hr.bytes.len
  have hpl := hp.1
  have hput := hp.put on
  have tb : typ w b = some T_label_writer := typ_of (H.get 0 rfl)
  refine withJ_i fun J0 hJ0 => ?_
  have k0 : ∀ w1 p1 l1 c1 r, r = (if bits.length % 8 = 0 then bs ++ [0] else bs) → Hp w0 No w1 [⟨b, [.slice p1 l1 c1, .int .i64 (bits.length : Nat)], T_label_writer⟩] → Row w1 T_uint8 1 p1 l1 c1 (bcells r) → fresh w0 p1 → J0 w1 := by
    intro w1 p1 l1 c1 r er H1 hr1 hf1; subst hJ0
    have hl1 : r.length = l1 := hr1.bytes.len
    have hrl : r.length = bits.length / 8 + 1 := by
      rw [er]; split
      · rw [List.length_append, List.length_singleton]; omega
      · omega
    have tb1 : typ w1 b = some T_label_writer := typ_of (H1.get 0 rfl)
    refine withJ_i fun J1 hJ1 => ?_
    have k1 : ∀ w2 r2, r2 = putB bs bits.length on → Hp w0 No w2 [⟨b, [.slice p1 l1 c1, .int .i64 (bits.length : Nat)], T_label_writer⟩] → Row w2 T_uint8 1 p1 l1 c1 (bcells r2) → J1 w2 := by
      intro w2 r2 er2 H2 hr2; subst hJ1
      refine H2.ldI 0 rfl (off := 1) rfl ?_
      refine H2.stV 0 rfl (off := 1) (by simp) fun w3 H3 hc3 => ?_
      refine K w3 ⟨r2, p1, l1, c1, ?_, ?_, hf1, by rw [er2]; exact hput⟩
      · have e : w64 (((bits.length : Nat) : Int) + 1) = (((bits ++ [on]).length : Nat) : Int) := by rw [w64_of (by omega) (by omega), List.length_append, List.length_singleton]; omega
        rw [e] at H3
        exact H3
      · have tb2 : typ w2 b = some T_label_writer := typ_of (H2.get 0 rfl)
        refine hr2.chg hc3 fun a ha e => typ_ne (hr2.typ a ha) tb2 (by decide) e
    clear hJ1
    refine condB_i (fun hon => ?_) (fun hon => ?_)
    · have H1d := H1.drew
      have hrd : Row w1.drew T_uint8 1 p1 l1 c1 (bcells r) := hr1.chg (Chg.refl No w1).drew (off_no _)
      refine H1d.ldS 0 rfl (off := 0) rfl ?_
      refine H1d.ldI 0 rfl (off := 1) rfl ?_
      have ed : w64 (Int.tdiv ((bits.length : Nat) : Int) 8) = ((bits.length / 8 : Nat) : Int) := by
        rw [Int.tdiv_eq_ediv_of_nonneg (by omega), w64_of (by omega) (by omega)]; omega
      have em : Int.tmod ((bits.length : Nat) : Int) 8 = ((bits.length % 8 : Nat) : Int) := by
        rw [Int.tmod_eq_emod_of_nonneg (by omega)]; omega
      rw [ed]
      refine ⟨by decide, byte_i hrd.bytes (by omega) (by omega) fun x hx => ?_⟩
      rw [Int.toNat_natCast] at hx
      refine H1d.ldI 0 rfl (off := 1) rfl ⟨by decide, ?_⟩
      rw [em, bit_set x (Nat.mod_lt _ (by decide))]
      refine ⟨by omega, Row.stB hrd (by omega) (by omega) fun w4 hr4 hc4 => ?_⟩
      rw [Int.toNat_natCast] at hr4
      refine k1 w4 _ ?_ (H1d.step hc4 (fun q hq => ?_) (fresh_no hf1)) hr4
      · unfold putB
        simp only [hon, if_true]
        rw [← er, List.getD_eq_getElem?_getD, hx]; rfl
      · rw [List.mem_singleton.1 hq]
        rintro ⟨a, ha, e⟩
        exact typ_ne (hr1.typ a ha) tb1 (by decide) e
    · refine k1 w1 r ?_ H1 hr1
      unfold putB
      simp only [hon, Bool.false_eq_true, if_false]
      exact er
  clear hJ0
  refine H.ldI 0 rfl (off := 1) rfl ⟨by decide, ?_⟩
  have em : Int.tmod ((bits.length : Nat) : Int) 8 = ((bits.length % 8 : Nat) : Int) := by
    rw [Int.tmod_eq_emod_of_nonneg (by omega)]; omega
  rw [em]
  refine condB_eq (fun h0 => ?_) (fun h0 => ?_)
  · refine H.ldS 0 rfl (off := 0) rfl ?_
    refine newRow (sz := 1) (n := 1) rfl (by decide) fun b2 w2 hr2 hb2 hc2 => ?_
    have hr' := hr.chg hc2 (off_no _)
    refine appJ_row slT_u8 hr' hr2.sl (one1_bcells [0]) (by simp) (by omega) (by simp only [maxLen]; omega) fun p' c' w' hr3 hc3 hf3 => ?_
    have tb2 : typ w2 b = some T_label_writer := typ_chg hc2 tb (fun h => h)
    have H2 := H.step0 hc2
    have H3 := H2.step hc3 (fun q hq => by
      rw [List.mem_singleton.1 hq]
      rintro ⟨a, ha, e⟩
      exact typ_ne (hr'.typ a ha) tb2 (by decide) e) (fresh_no hf)
    have hf' : fresh w0 p' := by
      rcases hf3 with rfl | hf3
      · exact hf
      · intro a ha; have := hf3 a ha; have := H2.chg.size; omega
    refine H3.stV 0 rfl (off := 0) (by simp) fun w4 H4 hc4 => ?_
    have tb3 : typ w' b = some T_label_writer := typ_of (H3.get 0 rfl)
    refine k0 w4 p' (l + 1) c' (bs ++ [0]) (by rw [if_pos (by omega)]) H4 ?_ hf'
    have e : bcells (bs ++ [0]) = bcells bs ++ [Value.int .u8 0] := by simp [bcells]
    rw [e]
    exact hr3.chg hc4 fun a ha e => typ_ne (hr3.typ a ha) tb3 (by decide) e
  · exact k0 w p l c bs (by rw [if_neg (by omega)]) H hr hf

theorem WNum_ok {w0 : World} {b : Nat} {bits : List Bool} {v : Int} {J : World → Prop} (h : Wri w0 w b bits) (hn : bits.length ≤ 90000) (h1 : -1073741824 ≤ v) (h2 : v ≤ 1073741824) (K : ∀ w', Wri w0 w' b (bits ++ bitsV v) → J w') :
    callJ Tryz.prog fn_label_writer_number #[.pointer (some ⟨b, 0, none⟩), .int .i64 v] w [] J := by
  refine c_label_writer_number_n0 ?_
  unfold VC_label_writer_number_n0
  refine withJ_i fun J0 hJ0 => ?_
  have k0 : ∀ (m : Nat) (s : Bool), m ≠ 0 → m < 2 ^ 31 → s = !(decide (v < 0)) → bitsV v = encN s m → J0 (m : Int) w := by
    intro m s hm hm2 hs e; subst hJ0
    rw [← hs]
    have hneg : decide (v < 0) = !s := by rw [hs, Bool.not_not]
    have hk := blen_le hm2
    obtain ⟨j0, ej, _⟩ := blen_spec hm
    refine WBit_ok h (by omega) fun w1 hw1 => ?_
    refine Len_ok (by omega) ?_
    have ek1 : w64 (((blen m : Nat) : Int) - 1) = ((blen m - 1 : Nat) : Int) := by rw [w64_of] <;> omega
    rw [ek1]
    refine ⟨fun x w' t => ∃ i : Nat, x = i ∧ i ≤ blen m - 1 ∧ t = blen m - 1 - i ∧ Wri w0 w' b (bits ++ List.replicate (i + 1) s), ⟨_, 0, rfl, Nat.zero_le _, rfl, hw1⟩, ?_⟩
    rintro x w2 t ⟨i, rfl, hi, rfl, hw2⟩
    refine condB_d (fun hlt => ?_) (fun hge => ?_)
    · refine WBit_ok hw2 (by simp; omega) fun w3 hw3 => ⟨_, by omega, i + 1, by rw [w64_of] <;> omega, by omega, rfl, ?_⟩
      rw [List.append_assoc, ← List.replicate_succ'] at hw3
      exact hw3
    · have hie : i = blen m - 1 := by omega
      subst hie
      rw [show blen m - 1 + 1 = blen m by omega] at hw2
      rw [hneg]
      refine WBit_ok hw2 (by simp; omega) fun w3 hw3 => ?_
      rw [List.append_assoc] at hw3
      have ek2 : w64 (((blen m : Nat) : Int) - 2) = ((blen m - 1 : Nat) : Int) - 1 := by rw [w64_of] <;> omega
      rw [ek2]
      refine ⟨fun x w' t => ∃ (j : Nat) (acc : List Bool), x = (j : Int) - 1 ∧ j ≤ blen m - 1 ∧ j = t ∧ Wri w0 w' b acc ∧ acc.length ≤ 95000 ∧ acc ++ (lowB m j).map (· == s) = bits ++ bitsV v, ⟨_, blen m - 1, _, rfl, Nat.le_refl _, rfl, hw3, by simp; omega, ?_⟩, ?_⟩
      · rw [e]; unfold encN; simp
      rintro x w4 t ⟨j, acc, rfl, hj, rfl, hw4, hacc, htot⟩
      refine condB_d (fun hlt => ?_) (fun hge => ?_)
      · obtain ⟨j', rfl⟩ : ∃ j', j = j' + 1 := ⟨j - 1, by omega⟩
        have ej1 : (((j' + 1 : Nat) : Int) - 1) = (j' : Int) := by omega
        rw [ej1, u64_bit m (by omega)]
        have ebit : (!(m.testBit j' == !s)) = (m.testBit j' == s) := by cases m.testBit j' <;> cases s <;> rfl
        rw [ebit]
        have hlen : acc.length + (j' + 1) = bits.length + 2 * blen m := by
          have := congrArg List.length htot
          rw [List.length_append, List.length_map, lowB_len, List.length_append, e, encN_len s hm] at this
          exact this
        refine ⟨by omega, WBit_ok hw4 (by omega) fun w5 hw5 => ⟨_, by omega, j', _, by rw [w64_of] <;> omega, by omega, rfl, hw5, by rw [List.length_append, List.length_singleton]; omega, ?_⟩⟩
        rw [← htot, lowB, List.map_cons, List.append_assoc]; rfl
      · have hj0 : j = 0 := by omega
        subst hj0
        rw [lowB, List.map_nil, List.append_nil] at htot
        subst htot
        exact K w4 hw4
  clear hJ0
  refine condB_d (fun hneg => ?_) (fun hneg => ?_)
  · have e : IntKind.u64.wrap (w64 (0 - v)) = (((-v).toNat : Nat) : Int) := by rw [w64_of (by omega) (by omega), wrap_u64]; omega
    rw [e]
    exact k0 _ false (by omega) (by omega) (by rw [decide_eq_true hneg]; rfl) (by unfold bitsV; rw [if_pos hneg])
  · have e : IntKind.u64.wrap (w64 (v + 1)) = (((v + 1).toNat : Nat) : Int) := by rw [w64_of (by omega) (by omega), wrap_u64]; omega
    rw [e]
    exact k0 _ true (by omega) (by omega) (by rw [decide_eq_false hneg]; rfl) (by unfold bitsV; rw [if_neg hneg])

/-! ### A label's bytes -/
def offB (v : Int) : Bool := decide (v < -1073741824) || decide (v > 1073741824)
theorem Far_ok {p : Option Addr} {l c : Nat} {xs : List Int} {J : Bool → World → Prop} (h : Ints w p l xs) (hm : l ≤ 140737488351232) (k : J (xs.any offB) w) :
    callJ Tryz.prog fn_slices_ContainsFunc_sl_int_int #[.slice p l c, .func (.func 97) #[] #[]] w [.one .bool] J := by
  refine c_slices_ContainsFunc_sl_int_int_f1_97 ?_
  unfold VC_slices_ContainsFunc_sl_int_int_f1_97
  refine c_slices_IndexFunc_sl_int_int_f1_97 ?_
  unfold VC_slices_IndexFunc_sl_int_int_f1_97
  have hl := h.len
  refine ⟨fun x w' t => ∃ i : Nat, x = i ∧ i ≤ l ∧ t = l - i ∧ w' = w ∧ (xs.take i).any offB = false, ⟨_, 0, rfl, Nat.zero_le _, rfl, rfl, by simp⟩, ?_⟩
  rintro x w' t ⟨i, rfl, hi, rfl, rfl, hno⟩
  refine condB_d (fun hlt => ?_) (fun hge => ?_)
  · refine int_i h (by omega) hlt fun n hn => ?_
    rw [Int.toNat_natCast] at hn
    refine c_label_Bytes_1 ?_
    unfold VC_label_Bytes_1
    refine withJ_i fun J2 hJ2 => ?_
    have k2 : ∀ b, b = offB n → J2 b w' := by
      intro b hb; subst hJ2
      refine condB_i (fun hx => ?_) (fun hx => ?_)
      · have : xs.any offB = true := List.any_eq_true.2 ⟨n, List.mem_of_getElem? hn, by rw [← hb]; exact hx⟩
        show J (decide ((i : Int) ≥ 0)) w'
        rw [show decide ((i : Int) ≥ 0) = true from decide_eq_true (by omega), ← this]
        exact k
      · refine ⟨_, by omega, i + 1, by rw [w64_of] <;> omega, by omega, rfl, rfl, ?_⟩
        obtain ⟨hlt', e'⟩ := List.getElem?_eq_some_iff.1 hn
        rw [List.take_succ_eq_append_getElem hlt', List.any_append, hno, e']
        simp only [List.any_cons, List.any_nil, Bool.or_false, Bool.false_or]
        rw [← hb]; exact hx
    clear hJ2
    unfold offB at k2
    refine condB_d (fun h1 => k2 _ (by simp [h1])) (fun h1 => k2 _ (by simp [h1]))
  · have : i = l := by omega
    subst this
    rw [List.take_of_length_le (by omega)] at hno
    show J (decide ((-1 : Int) ≥ 0)) w'
    rw [show decide ((-1 : Int) ≥ 0) = false from by decide, ← hno]
    exact k

theorem flatB_take_le (xs : List Int) (i : Nat) : (flatB (xs.take i)).length ≤ (flatB xs).length := by
  conv => rhs; rw [← List.take_append_drop i xs, flatB_append, List.length_append]
  omega
theorem Bytes_ok {p : Option Addr} {l c : Nat} {xs : List Int} {J : Option Addr → Nat → Nat → Int → World → Prop} (h : Ints w p l xs) (hm : l ≤ 140737488351232)
    (K : ∀ q m d w', Row w' T_uint8 1 q m d (bcells (lab xs).1) → fresh w q → Chg No w w' → J q m d (lab xs).2 w') : callJ Tryz.prog fn_label_Bytes #[.slice p l c] w [.one .slice, .one (.int .i64)] J := by
  refine c_label_Bytes ?_
  unfold VC_label_Bytes
  have hl := h.len
  refine withJ_i fun J23 hJ23 => ?_
  have k23 : ∀ b, b = badB xs → J23 b w := by
    intro b hb; subst hJ23
    refine condB_i (fun hx => ?_) (fun hx => ?_)
    · have e : lab xs = ([], 11) := by unfold lab; rw [← hb, if_pos hx]
      rw [e] at K
      exact K none 0 0 w (Row.nil _ _ _) (by rintro a ⟨⟩) (Chg.refl _ _)
    · rw [hx] at hb
      have hrange := bad_range hb.symm
      refine (Hp.start w No).newB fun b25 w2 H2 hb25 hc2 => ?_
      have start : Wri w w2 b25 (flatB (xs.take 0)) := ⟨[], none, 0, 0, by simpa [flatB_nil] using H2, Row.nil _ _ _, (by rintro a ⟨⟩), by rw [List.take_zero, flatB_nil]; exact Rp.nil⟩
      refine ⟨fun x w' t => ∃ i : Nat, x = i ∧ i ≤ l ∧ t = l - i ∧ Wri w w' b25 (flatB (xs.take i)) ∧ (flatB (xs.take i)).length ≤ 960, ⟨_, 0, rfl, Nat.zero_le _, rfl, start, by simp [flatB_nil]⟩, ?_⟩
      rintro x w3 t ⟨i, rfl, hi, rfl, hw3, hlen⟩
      have hc3 : Chg No w w3 := by obtain ⟨bs, q, m, d, hw⟩ := hw3; exact hw.H.chg
      refine condB_d (fun hlt => ?_) (fun hge => ?_)
      · refine int_i (h.chg hc3 (off_no _)) (by omega) hlt fun v hv => ?_
        rw [Int.toNat_natCast] at hv
        have hr := hrange v (List.mem_of_getElem? hv)
        have hi1 : flatB (xs.take (i + 1)) = flatB (xs.take i) ++ bitsV v := by
          obtain ⟨hlt', e'⟩ := List.getElem?_eq_some_iff.1 hv
          rw [List.take_succ_eq_append_getElem hlt', flatB_append, e', flatB_cons, flatB_nil, List.append_nil]
        refine WNum_ok hw3 (by omega) hr.1 hr.2 fun w4 hw4 => ?_
        rw [← hi1] at hw4
        have hw4' := hw4
        obtain ⟨bs, q, m, d, hw⟩ := hw4'
        refine hw.H.ldS 0 rfl (off := 0) rfl ?_
        have hbm : bs.length = m := hw.row.bytes.len
        have hrp := hw.rp.1
        refine condB_d (fun hgt => ?_) (fun hle => ?_)
        · have hbig : (flatB xs).length > 960 := by have := flatB_take_le xs (i + 1); omega
          have e : lab xs = ([], 5) := by unfold lab; rw [← hb, if_neg (by simp), if_pos hbig]
          rw [e] at K
          exact K none 0 0 w4 (Row.nil _ _ _) (by rintro a ⟨⟩) hw.H.chg
        · exact ⟨_, by omega, i + 1, by rw [w64_of] <;> omega, by omega, rfl, hw4, by omega⟩
      · have hie : i = l := by omega
        subst hie
        rw [List.take_of_length_le (by omega)] at hw3 hlen
        obtain ⟨bs, q, m, d, hw⟩ := hw3
        refine hw.H.ldS 0 rfl (off := 0) rfl ?_
        have e : lab xs = (pack (flatB xs), 0) := by unfold lab; rw [← hb, if_neg (by simp), if_neg (by omega)]
        have e2 : bs = pack (flatB xs) := hw.rp.uniq (pack_rp _)
        rw [e] at K
        refine K q m d w3 ?_ hw.fr hc3
        rw [← e2]; exact hw.row
  clear hJ23
  refine Far_ok h hm ?_
  have hbad : badB xs = (xs.any offB || (match xs.getLast? with | some v => decide (v % 2 = 0) | none => false)) := rfl
  refine condB_i (fun hx => k23 _ (by rw [hbad, hx]; rfl)) (fun hx => ?_)
  rw [hx, Bool.false_or] at hbad
  refine condB_d (fun hpos => ?_) (fun hpos => ?_)
  · have e1 : w64 ((l : Int) - 1) = ((l - 1 : Nat) : Int) := by rw [w64_of] <;> omega
    rw [e1]
    refine int_i h (by omega) (by omega) fun v hv => ?_
    rw [Int.toNat_natCast] at hv
    refine Odd_ok (k23 _ ?_)
    rw [hbad, List.getLast?_eq_getElem?, hl, hv]
    simp only
    unfold oddZ
    by_cases hv2 : v % 2 = 1
    · rw [decide_eq_true hv2, decide_eq_false (by omega)]; rfl
    · rw [decide_eq_false hv2, decide_eq_true (by omega)]; rfl
  · refine k23 _ ?_
    have : xs = [] := List.eq_nil_of_length_eq_zero (by omega)
    rw [hbad, this]; rfl
theorem Check_ok {p : Option Addr} {l c : Nat} {xs : List Int} {J : Int → World → Prop} (h : Ints w p l xs) (hm : l ≤ 140737488351232) (K : ∀ w', Chg No w w' → J (lab xs).2 w') : callJ Tryz.prog fn_label_Check #[.slice p l c] w [.one (.int .i64)] J :=
  c_label_Check (Bytes_ok h hm fun _ _ _ w' _ _ hc => K w' hc)
end
end Go.Proofs.YtmnbgcgealpcbaaGreatDoor.Lb


/-
  Labels: the program's reader; how labels stand; parents, levels.
-/
set_option linter.unusedVariables false
set_option linter.unusedSimpArgs false
namespace Go.Proofs.YtmnbgcgealpcbaaGreatDoor.Lb
open Go Go.Vc

section
variable {w : World}

/-- One number more. -/
theorem appI {w0 wa : World} {p : Option Addr} {l c : Nat} {xs : List Int} {n : Int} {K : Option Addr → Nat → Nat → World → Prop} (hr : Row wa T_int 1 p l c (ints xs)) (hlm : l + 1 ≤ 17592186044416)
    (hf : fresh w0 p) (hc : Chg No w0 wa) (k : ∀ p' c' w', Row w' T_int 1 p' (l + 1) c' (ints (xs ++ [n])) → fresh w0 p' → Chg No w0 w' → Chg (isB p) wa w' → K p' (l + 1) c' w') :
    newB wa (.cells ⟨[.int .i64 n]⟩ T_int) fun b36 w5 => appJ Tryz.prog T_sl_int T_sl_int (.slice p l c) (.slice (some ⟨b36, 0, none⟩) 1 1) w5 K := by
  refine newRow (sz := 1) (n := 1) rfl (by decide) fun b2 w2 hr2 _ hc2 => ?_
  refine appJ_row slT_int (hr.chg hc2 (off_no _)) hr2.sl (one1_ints7 [n]) (by simp) (by omega) (by simp only [maxLen]; omega) fun p' c' w' hr' hc' hf' => ?_
  refine k p' c' w' (by simpa [ints] using hr') ?_ ((hc.trans0 hc2).trans hc' (fresh_no hf)) ((hc2.mono fun _ _ h => h.elim).trans hc' fun _ _ h => h)
  rcases hf' with rfl | hf'
  · exact hf
  · intro a ha; have := hf' a ha; have := hc2.size; have := hc.size; omega

/-! ### How labels stand -/
theorem Cmp_ok {a b : Int} {J : Int → World → Prop} (k : J (if a < b then -1 else if a > b then 1 else 0) w) : callJ Tryz.prog fn_cmp_Compare_int #[.int .i64 a, .int .i64 b] w [.one (.int .i64)] J := by
  refine c_cmp_Compare_int ?_
  unfold VC_cmp_Compare_int
  refine c_cmp_isNaN_int ?_
  unfold VC_cmp_isNaN_int
  refine c_cmp_isNaN_int ?_
  unfold VC_cmp_isNaN_int
  refine condB_ne (fun h => absurd rfl h) fun _ => condB_ne (fun h => absurd rfl h) fun _ => ?_
  refine condB_d (fun h => by rw [if_pos h] at k; exact k) (fun h => ?_)
  rw [if_neg h] at k
  exact condB_d (fun h => by rw [if_pos h] at k; exact k) (fun h => by rw [if_neg h] at k; exact k)
theorem cmpL_at {xs ys : List Int} {i : Nat} {a b : Int} (ha : xs[i]? = some a) (hb : ys[i]? = some b) : cmpL (xs.drop i) (ys.drop i) = if a < b then -1 else if a > b then 1 else cmpL (xs.drop (i + 1)) (ys.drop (i + 1)) := by
  obtain ⟨h1, rfl⟩ := List.getElem?_eq_some_iff.1 ha
  obtain ⟨h2, rfl⟩ := List.getElem?_eq_some_iff.1 hb
  rw [List.drop_eq_getElem_cons h1, List.drop_eq_getElem_cons h2, cmpL]
theorem SCompare_ok {p q : Option Addr} {l c l2 c2 : Nat} {xs ys : List Int} {J : Int → World → Prop} (h : Ints w p l xs) (h2 : Ints w q l2 ys) (hm : l ≤ 140737488351232) (k : J (cmpL xs ys) w) :
    callJ Tryz.prog fn_slices_Compare_sl_int_int #[.slice p l c, .slice q l2 c2] w [.one (.int .i64)] J := by
  refine c_slices_Compare_sl_int_int ?_
  unfold VC_slices_Compare_sl_int_int
  have hl := h.len
  have hl2 := h2.len
  refine ⟨fun x w' t => ∃ i : Nat, x = i ∧ i ≤ l ∧ t = l - i ∧ w' = w ∧ i ≤ l2 ∧ cmpL (xs.drop i) (ys.drop i) = cmpL xs ys, ⟨_, 0, rfl, Nat.zero_le _, rfl, rfl, Nat.zero_le _, rfl⟩, ?_⟩
  rintro x w' t ⟨i, rfl, hi, rfl, rfl, hi2, hcm⟩
  refine condB_d (fun hlt => ?_) (fun hge => ?_)
  · refine int_i h (by omega) hlt fun a ha => ?_
    rw [Int.toNat_natCast] at ha
    refine condB_d (fun hge2 => ?_) (fun hlt2 => ?_)
    · have : i = ys.length := by omega
      obtain ⟨h1, rfl⟩ := List.getElem?_eq_some_iff.1 ha
      rw [this, List.drop_of_length_le (Nat.le_refl _), ← this, List.drop_eq_getElem_cons h1] at hcm
      rw [← hcm] at k
      exact k
    · refine int_i h2 (by omega) (by omega) fun b hb => ?_
      rw [Int.toNat_natCast] at hb
      refine Cmp_ok ?_
      rw [cmpL_at ha hb] at hcm
      refine condB_ne (fun hne => ?_) (fun he => ?_)
      · by_cases h1 : a < b
        · rw [if_pos h1] at hcm ⊢; rw [hcm]; exact k
        · by_cases h3 : a > b
          · rw [if_neg h1, if_pos h3] at hcm ⊢; rw [hcm]; exact k
          · rw [if_neg h1, if_neg h3] at hne; exact absurd rfl hne
      · by_cases h1 : a < b
        · rw [if_pos h1] at he; cases he
        · by_cases h3 : a > b
          · rw [if_neg h1, if_pos h3] at he; cases he
          · rw [if_neg h1, if_neg h3] at hcm
            exact ⟨_, by omega, i + 1, by rw [w64_of] <;> omega, by omega, rfl, rfl, by omega, hcm⟩
  · have : i = xs.length := by omega
    rw [this, List.drop_of_length_le (Nat.le_refl _), ← this] at hcm
    refine condB_d (fun hlt2 => ?_) (fun hge2 => ?_)
    · have h1 : i < ys.length := by omega
      rw [List.drop_eq_getElem_cons h1] at hcm
      rw [← hcm] at k
      exact k
    · rw [List.drop_of_length_le (by omega)] at hcm
      rw [← hcm] at k
      exact k
theorem Compare_ok {p q : Option Addr} {l c l2 c2 : Nat} {xs ys : List Int} {J : Int → World → Prop} (h : Ints w p l xs) (h2 : Ints w q l2 ys) (hm : l ≤ 140737488351232) (k : J (cmpL xs ys) w) :
    callJ Tryz.prog fn_label_Compare #[.slice p l c, .slice q l2 c2] w [.one (.int .i64)] J := c_label_Compare (SCompare_ok h h2 hm k)
theorem take_snoc {α : Type} {xs : List α} {i : Nat} {a : α} (h : xs[i]? = some a) : xs.take (i + 1) = xs.take i ++ [a] := by
  obtain ⟨h1, rfl⟩ := List.getElem?_eq_some_iff.1 h
  exact List.take_succ_eq_append_getElem h1
theorem IEqual_ok {p q : Option Addr} {l c l2 c2 : Nat} {xs ys : List Int} {J : Bool → World → Prop} (h : Ints w p l xs) (h2 : Ints w q l2 ys) (hm : l ≤ 140737488351232) (k : ∀ w', Chg No w w' → J (decide (xs = ys)) w') :
    callJ Tryz.prog fn_slices_Equal_sl_int_int #[.slice p l c, .slice q l2 c2] w [.one .bool] J := by
  refine c_slices_Equal_sl_int_int ?_
  unfold VC_slices_Equal_sl_int_int
  have hl := h.len
  have hl2 := h2.len
  refine condB_ne (fun hne => ?_) (fun he => ?_)
  · have e : decide (xs = ys) = false := decide_eq_false fun e => hne (by rw [← hl, ← hl2, e])
    rw [e] at k; exact k w (Chg.refl _ _)
  have hll : l = l2 := by omega
  subst hll
  refine ⟨fun x w' t => ∃ i : Nat, x = i ∧ i ≤ l ∧ t = l - i ∧ Chg No w w' ∧ xs.take i = ys.take i, ⟨_, 0, rfl, Nat.zero_le _, rfl, Chg.refl _ _, by simp⟩, ?_⟩
  rintro x w' t ⟨i, rfl, hi, rfl, hc, htk⟩
  have hcd := hc.drew
  refine condB_d (fun hlt => ?_) (fun hge => ?_)
  · refine int_i (h.chg hcd (off_no _)) (by omega) hlt fun a ha => ?_
    refine int_i (h2.chg hcd (off_no _)) (by omega) hlt fun b hb => ?_
    rw [Int.toNat_natCast] at ha hb
    refine condB_ne (fun hne => ?_) (fun he => ?_)
    · have e : decide (xs = ys) = false := decide_eq_false fun e => hne (by rw [e, hb] at ha; cases ha; rfl)
      rw [e] at k; exact k _ hcd
    · refine ⟨_, by omega, i + 1, by rw [w64_of] <;> omega, by omega, rfl, hcd, ?_⟩
      rw [take_snoc ha, take_snoc hb, htk, he]
  · have : i = l := by omega
    subst this
    rw [List.take_of_length_le (by omega), List.take_of_length_le (by omega)] at htk
    have e : decide (xs = ys) = true := decide_eq_true htk
    rw [e] at k; exact k w' hc
theorem IClone_ok {p : Option Addr} {l c : Nat} {xs : List Int} {J : Option Addr → Nat → Nat → World → Prop} (h : Ints w p l xs) (hp : p = none → l = 0) (hm : l ≤ 17592186043904)
    (k : ∀ p' c' w', Row w' T_int 1 p' l c' (ints xs) → fresh w p' → Chg No w w' → J p' l c' w') :
    callJ Tryz.prog fn_slices_Clone_sl_int_int #[.slice p l c] w [.one .slice] J :=
  c_slices_Clone_sl_int_int (clone_cond slT_int h (one1_ints7 xs) hp (by omega) (by simp only [maxLen]; omega) k)
theorem Above_ok {p q : Option Addr} {l c l2 c2 : Nat} {xs ys : List Int} {J : Bool → World → Prop} (h : Ints w p l xs) (h2 : Ints w q l2 ys) (hc2 : l2 ≤ c2) (hm : l ≤ 140737488351232) (k : ∀ w', Chg No w w' → J (aboveB xs ys) w') :
    callJ Tryz.prog fn_label_Above #[.slice p l c, .slice q l2 c2] w [.one .bool] J := by
  refine c_label_Above ?_
  unfold VC_label_Above
  have hl := h.len
  have hl2 := h2.len
  refine withJ_i fun J4 hJ4 => ?_
  subst hJ4
  refine condB_d (fun hgt => ?_) (fun hle => ?_)
  · refine cutI h2 (i := 0) (j := l) (Nat.zero_le _) (by omega) hc2 rfl rfl fun q' hq' hq0 => ?_
    rw [List.drop_zero, Nat.sub_zero] at hq'
    refine IEqual_ok h hq' hm fun w' hc' => ?_
    have e : decide (xs = ys.take l) = aboveB xs ys := by
      unfold aboveB
      apply decide_eq_decide.2
      rw [hl]
      exact ⟨fun e => ⟨by omega, e.symm⟩, fun e => e.2.symm⟩
    rw [e]; exact k w' hc'
  · have e : aboveB xs ys = false := decide_eq_false fun h => by omega
    rw [e] at k; exact k w (Chg.refl _ _)
theorem Level_ok {p : Option Addr} {l c : Nat} {xs : List Int} {J : Int → World → Prop} (h : Ints w p l xs) (hm : l ≤ 140737488351232) (k : J ((levL xs : Nat) : Int) w) :
    callJ Tryz.prog fn_label_Level #[.slice p l c] w [.one (.int .i64)] J := by
  refine c_label_Level ?_
  unfold VC_label_Level
  have hl := h.len
  refine ⟨fun n x w' t => ∃ i : Nat, x = i ∧ i ≤ l ∧ t = l - i ∧ w' = w ∧ n = ((levL (xs.take i) : Nat) : Int) ∧ levL (xs.take i) ≤ i, ⟨_, 0, rfl, Nat.zero_le _, rfl, rfl, by simp [levL], by simp [levL]⟩, ?_⟩
  rintro n x w' t ⟨i, rfl, hi, rfl, rfl, rfl, hle⟩
  refine condB_d (fun hlt => ?_) (fun hge => ?_)
  · refine withJ_i fun J3 hJ3 => ?_
    refine int_i h (by omega) hlt fun a ha => ?_
    rw [Int.toNat_natCast] at ha
    have e : levL (xs.take (i + 1)) = levL (xs.take i) + (if oddZ a = true then 1 else 0) := by
      unfold levL; rw [take_snoc ha, List.countP_append, List.countP_cons, List.countP_nil, Nat.zero_add]
    refine Odd_ok ?_
    subst hJ3
    refine condB_i (fun ho => ?_) (fun ho => ?_)
    · rw [if_pos ho] at e
      exact ⟨_, by omega, i + 1, by rw [w64_of] <;> omega, by omega, rfl, rfl, by rw [w64_of] <;> omega, by omega⟩
    · rw [if_neg (by simp [ho])] at e
      exact ⟨_, by omega, i + 1, by rw [w64_of] <;> omega, by omega, rfl, rfl, by omega, by omega⟩
  · have : i = l := by omega
    subst this
    rw [List.take_of_length_le (by omega)]
    exact k
theorem Up_ok {p : Option Addr} {l c : Nat} {xs : List Int} {J : Option Addr → Nat → Nat → World → Prop} (h : Ints w p l xs) (hm : l ≤ 17592186043904) (hlc : l ≤ c) (k : ∀ q m d w', Row w' T_int 1 q m d (ints (upL xs)) → fresh w q → Chg No w w' → J q m d w') :
    callJ Tryz.prog fn_label_Up #[.slice p l c] w [.one .slice] J := by
  refine c_label_Up ?_
  unfold VC_label_Up
  have hl := h.len
  have hup : upL xs = cutE (xs.take (l - 1)) := by unfold upL; rw [List.dropLast_eq_take, hl]
  refine ⟨fun x w' t => ∃ i : Nat, (x = i ∨ (x = -1 ∧ i = 0)) ∧ (i < l ∨ i = 0) ∧ i = t ∧ w' = w ∧ upL xs = cutE (xs.take i), ⟨_, l - 1, by rw [w64_of] <;> omega, by omega, rfl, rfl, hup⟩, ?_⟩
  rintro x w' t ⟨i, hx, hi, rfl, rfl, hcut⟩
  refine withJ_i fun J17 hJ17 => ?_
  have k17 : ∀ b, (b = true → x = i ∧ 0 < i ∧ upL xs = cutE (xs.take (i - 1))) → (b = false → upL xs = xs.take i) → J17 b w' := by
    intro b h1 h0; subst hJ17
    refine condB_i (fun hb => ?_) (fun hb => ?_)
    · obtain ⟨rfl, h2, h3⟩ := h1 hb
      exact ⟨i - 1, by omega, i - 1, .inl (by rw [w64_of] <;> omega), by omega, rfl, rfl, h3⟩
    · have e : (if (0 : Int) > x then (0 : Int) else x) = (i : Int) := by split <;> omega
      rw [e]
      refine cutI h (i := 0) (j := i) (Nat.zero_le _) (by omega) hlc rfl rfl fun q' hq' hq0 => ?_
      rw [List.drop_zero, Nat.sub_zero, ← h0 hb] at hq'
      rw [Nat.sub_zero]
      exact IClone_ok hq' (by simpa using hq0) (by omega) fun p' c' w2 hr hf hc => k p' i c' w2 hr hf hc
  clear hJ17
  refine condB_d (fun hpos => ?_) (fun hpos => ?_)
  · have hxi : x = i := by omega
    have e1 : w64 (x - 1) = ((i - 1 : Nat) : Int) := by rw [w64_of] <;> omega
    rw [e1]
    refine int_i h (by omega) (by omega) fun a ha => ?_
    rw [Int.toNat_natCast] at ha
    have hs := take_snoc ha
    rw [show i - 1 + 1 = i by omega] at hs
    refine Odd_ok (k17 _ (fun hb => ⟨hxi, by omega, ?_⟩) (fun hb => ?_))
    · rw [hcut, hs]; exact cutE_snoc_even (by simpa using hb)
    · rw [hcut, hs]; exact cutE_snoc_odd (by simpa using hb)
  · have hi0 : i = 0 := by omega
    subst hi0
    exact k17 false (fun hb => by cases hb) (fun _ => by rw [hcut]; rfl)
theorem Kid_ok {p q : Option Addr} {l c l2 c2 : Nat} {up xs : List Int} {J : Bool → World → Prop} (h : Ints w p l up) (h2 : Ints w q l2 xs) (hm : l2 ≤ 17592186043904) (hlc : l2 ≤ c2) (k : ∀ w', Chg No w w' → J (kidB up xs) w') :
    callJ Tryz.prog fn_label_kid #[.slice p l c, .slice q l2 c2] w [.one .bool] J := by
  refine c_label_kid ?_
  unfold VC_label_kid
  have hl2 := h2.len
  refine withJ_i fun J4 hJ4 => ?_
  subst hJ4
  refine condB_d (fun hgt => ?_) (fun hle => ?_)
  · refine Check_ok h2 (by omega) fun w1 hc1 => ?_
    refine condB_eq (fun he => ?_) (fun hne => ?_)
    · refine Up_ok (h2.chg hc1 (off_no _)) hm hlc fun q' m' d' w2 hr2 hf2 hc2 => ?_
      have hIr : Ints w2 q' m' (upL xs) := hr2.sl
      refine IEqual_ok hIr (h.chg (hc1.trans0 hc2) (off_no _)) ?_ fun w3 hc3 => ?_
      · have := hr2.le; simp only [maxLen] at this
        have h3 := hr2.len
        have h4 : (upL xs).length ≤ l2 := by
          unfold upL
          rcases cutE_cases xs.dropLast with ⟨_, e⟩ | ⟨a, v, e', h1, _, _, e⟩
          · rw [e]; simp
          · rw [e]
            have := congrArg List.length h1
            simp at this ⊢; omega
        rw [ints_length] at h3; omega
      · have e : decide (upL xs = up) = kidB up xs := by
          unfold kidB
          apply decide_eq_decide.2
          exact ⟨fun e => ⟨by intro e0; rw [e0] at hl2; simp at hl2; omega, he, e⟩, fun e => e.2.2⟩
        rw [e]
        exact k w3 ((hc1.trans0 hc2).trans0 hc3)
    · have e : kidB up xs = false := decide_eq_false fun h => hne h.2.1
      rw [e] at k; exact k w1 hc1
  · have e : kidB up xs = false := decide_eq_false fun h => h.1 (List.eq_nil_of_length_eq_zero (by omega))
    rw [e] at k; exact k w (Chg.refl _ _)
end
end Go.Proofs.YtmnbgcgealpcbaaGreatDoor.Lb

