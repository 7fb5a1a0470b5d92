/- The names of the functions and types of this translation, and the facts on types and functions that the walks use: each is read off the program by the kernel. Printed by gen.py. -/
import Derived.Test.YteeiccjglmehcaaGreatProg
import Derived.Test.YteeiccjglmehcaaGreatSx15
namespace Go.Proofs.YteeiccjglmehcaaGreat
open Go Go.Sx
noncomputable abbrev P : Program := Tryz.prog
abbrev T_unit : TypeId := 0
abbrev T_func : TypeId := 1
abbrev T_int64 : TypeId := 2
abbrev T_int : TypeId := 3
abbrev T_bool : TypeId := 4
abbrev T_uint8 : TypeId := 5
abbrev T_abi_BoundsErrorCode : TypeId := 6
abbrev T_struct_x_int64_y_int_signed_bool_code_abi_BoundsErrorCode : TypeId := 7
abbrev T_runtime_boundsError : TypeId := 8
abbrev T_string : TypeId := 9
abbrev T_runtime_errorString : TypeId := 10
abbrev T_runtime_plainError : TypeId := 11
abbrev T_uintptr : TypeId := 12
abbrev T_struct_msg_string_addr_uintptr : TypeId := 13
abbrev T_runtime_errorAddressString : TypeId := 14
abbrev T_P_runtime_TypeAssertionError : TypeId := 15
abbrev T_P_runtime_PanicNilError : TypeId := 16
abbrev T_P_abi_Type : TypeId := 17
abbrev T_struct_typ_P_abi_Type : TypeId := 18
abbrev T_maps_unhashableTypeError : TypeId := 19
abbrev T_interface : TypeId := 20
abbrev T_int32 : TypeId := 21
abbrev T_func_bool : TypeId := 22
abbrev T_P_core_FS : TypeId := 23
abbrev T_func_int_P_core_FS : TypeId := 24
abbrev T_L_int : TypeId := 25
abbrev T_struct_UID_int_GID_int_Groups_L_int : TypeId := 26
abbrev T_api_Who : TypeId := 27
abbrev T_struct_api_Who_Now_int : TypeId := 28
abbrev T_core_Caller : TypeId := 29
abbrev T_api_Status : TypeId := 30
abbrev T_int_api_Status : TypeId := 31
abbrev T_func_core_Caller_int_string_int_attr_Set_string_in_hafaac6 : TypeId := 32
abbrev T_struct_S_int_N_int : TypeId := 33
abbrev T_attr_Time : TypeId := 34
abbrev T_struct_HasMode_bool_HasUID_bool_HasGID_bool_HasSiz_h776809 : TypeId := 35
abbrev T_attr_Set : TypeId := 36
abbrev T_func_string_string_string_bool : TypeId := 37
abbrev T_A2_int : TypeId := 38
abbrev T_struct_Kind_int_Mode_int_Links_int_UID_int_GID_int_hfbe7e1 : TypeId := 39
abbrev T_attr_Attr : TypeId := 40
abbrev T_P_dir_Dir : TypeId := 41
abbrev T_struct_attr_Attr_Data_string_Verf_string_Parent_in_h8bab1e : TypeId := 42
abbrev T_core_Node : TypeId := 43
abbrev T_core_Node_bool : TypeId := 44
abbrev T_func_int_core_Node_bool : TypeId := 45
abbrev T_func_core_Caller_int_attr_Set_L_attr_Time_api_Status : TypeId := 46
abbrev T_L_attr_Time : TypeId := 47
abbrev T_func_int_A2_int_int_bool : TypeId := 48
abbrev T_L_string : TypeId := 49
abbrev T_L_uint8 : TypeId := 50
abbrev T_func_core_Caller_int_int_string_api_Status : TypeId := 51
abbrev T_string_bool_api_Status : TypeId := 52
abbrev T_func_core_Caller_int_int_int_string_bool_api_Status : TypeId := 53
abbrev T_func_L_int_L_string_int_bool : TypeId := 54
abbrev T_A4_bool : TypeId := 55
abbrev T_A4_int : TypeId := 56
abbrev T_A2_A2_int : TypeId := 57
abbrev T_struct_Has_A4_bool_N_A4_int_How_A2_int_When_A2_A2_int : TypeId := 58
abbrev T_coraclelaw13_Set : TypeId := 59
abbrev T_coraclelaw13_Who : TypeId := 60
abbrev T_struct_What_int_ID_int_To_int_N_int_M_int_Name_str_hec13f3 : TypeId := 61
abbrev T_coraclelaw13_Act : TypeId := 62
abbrev T_struct_UID_int_GID_int_Groups_L_int_Now_int : TypeId := 63
abbrev T_coracleref13_Caller : TypeId := 64
abbrev T_core_Caller_coracleref13_Caller : TypeId := 65
abbrev T_func_coraclelaw13_Act_core_Caller_coracleref13_Caller : TypeId := 66
abbrev T_func_core_Node : TypeId := 67
abbrev T_func_core_Caller_int_string_int_api_Status : TypeId := 68
abbrev T_L_dir_Entry : TypeId := 69
abbrev T_L_dir_Entry_bool_api_Status : TypeId := 70
abbrev T_func_core_Caller_int_int_int_L_dir_Entry_bool_api_Status : TypeId := 71
abbrev T_func_core_Caller_int_string_api_Status : TypeId := 72
abbrev T_func_P_core_FS : TypeId := 73
abbrev T_func_L_int : TypeId := 74
abbrev T_L_core_Met : TypeId := 75
abbrev T_func_L_core_Met : TypeId := 76
abbrev T_func_int_int : TypeId := 77
abbrev T_func_coraclelaw13_Act_bool : TypeId := 78
abbrev T_func_core_Caller_int_string_int_attr_Set_string_in_hea865b : TypeId := 79
abbrev T_M_int_P_core_Node : TypeId := 80
abbrev T_M_core_Met_int : TypeId := 81
abbrev T_struct_nodes_M_int_P_core_Node_last_int_met_M_core_Met_int : TypeId := 82
abbrev T_core_FS : TypeId := 83
abbrev T_P_core_Node : TypeId := 84
abbrev T_P_dir_node_string_dir_Entry : TypeId := 85
abbrev T_struct_top_P_dir_node_string_dir_Entry_size_int : TypeId := 86
abbrev T_dir_tree_string_dir_Entry : TypeId := 87
abbrev T_P_dir_node_int_string : TypeId := 88
abbrev T_struct_top_P_dir_node_int_string_size_int : TypeId := 89
abbrev T_dir_tree_int_string : TypeId := 90
abbrev T_struct_names_dir_tree_string_dir_Entry_cookies_dir_hf3c765 : TypeId := 91
abbrev T_dir_Dir : TypeId := 92
abbrev T_func_int_string : TypeId := 93
abbrev T_P_core_Node_api_Status : TypeId := 94
abbrev T_func_core_Caller_int_string_P_core_Node_api_Status : TypeId := 95
abbrev T_struct_Name_string_ID_int_Cookie_int : TypeId := 96
abbrev T_dir_Entry : TypeId := 97
abbrev T_dir_Entry_bool : TypeId := 98
abbrev T_func_string_dir_Entry_bool : TypeId := 99
abbrev T_func_P_core_Node_attr_Set_api_Status : TypeId := 100
abbrev T_func_P_core_Node_attr_Set : TypeId := 101
abbrev T_func_P_core_Node_int_api_Status : TypeId := 102
abbrev T_func_core_Caller_P_core_Node_string_core_Node_attr_Set_int : TypeId := 103
abbrev T_func_P_dir_Dir : TypeId := 104
abbrev T_func_int_P_core_Node_api_Status : TypeId := 105
abbrev T_func_core_Caller_int_int_P_core_Node_api_Status : TypeId := 106
abbrev T_func_string_int_string : TypeId := 107
abbrev T_func_string : TypeId := 108
abbrev T_func_attr_Time : TypeId := 109
abbrev T_func_string_api_Status : TypeId := 110
abbrev T_func_int : TypeId := 111
abbrev T_func_int_int_L_dir_Entry : TypeId := 112
abbrev T_P_core_Node_P_core_Node_api_Status : TypeId := 113
abbrev T_func_core_Caller_int_string_P_core_Node_P_core_Nod_h76c500 : TypeId := 114
abbrev T_func_core_Caller_P_core_Node_string_P_core_Node : TypeId := 115
abbrev T_func_M_core_Met_int_M_core_Met_int : TypeId := 116
abbrev T_struct_ID_int_Name_string : TypeId := 117
abbrev T_core_Met : TypeId := 118
abbrev T_func_iter_Seq_int_L_int : TypeId := 119
abbrev T_func_func_int_bool : TypeId := 120
abbrev T_iter_Seq_int : TypeId := 121
abbrev T_func_M_int_P_core_Node_iter_Seq_int : TypeId := 122
abbrev T_func_iter_Seq_core_Met_func_core_Met_core_Met_int_L_core_Met : TypeId := 123
abbrev T_func_func_core_Met_bool : TypeId := 124
abbrev T_iter_Seq_core_Met : TypeId := 125
abbrev T_func_M_core_Met_int_iter_Seq_core_Met : TypeId := 126
abbrev T_func_string_string_int : TypeId := 127
abbrev T_func_core_Met_core_Met_int : TypeId := 128
abbrev T_func_P_core_Node_bool : TypeId := 129
abbrev T_func_P_core_Node_int_bool : TypeId := 130
abbrev T_func_L_int_int_bool : TypeId := 131
abbrev T_P_attr_Time : TypeId := 132
abbrev T_struct_how_int_when_attr_Time_to_P_attr_Time : TypeId := 133
abbrev T_L_struct_how_int_when_attr_Time_to_P_attr_Time : TypeId := 134
abbrev T_int_bool : TypeId := 135
abbrev T_func_string_int_int_bool : TypeId := 136
abbrev T_func_core_Caller_P_core_Node_string : TypeId := 137
abbrev T_func_P_dir_node_string_dir_Entry : TypeId := 138
abbrev T_func_P_dir_node_int_string : TypeId := 139
abbrev T_func_string_string_bool : TypeId := 140
abbrev T_func_int_func_int_string_bool_bool : TypeId := 141
abbrev T_func_int_string_bool : TypeId := 142
abbrev T_func_interface_interface : TypeId := 143
abbrev T_func_L_int_func : TypeId := 144
abbrev T_func_int_bool : TypeId := 145
abbrev T_func_iter_Seq_core_Met_L_core_Met : TypeId := 146
abbrev T_func_L_core_Met_func_core_Met_core_Met_int : TypeId := 147
abbrev T_func_core_Met_bool : TypeId := 148
abbrev T_P_dir_tree_string_dir_Entry : TypeId := 149
abbrev T_func_L_string_string_int_bool : TypeId := 150
abbrev T_L_P_dir_node_string_dir_Entry : TypeId := 151
abbrev T_struct_keys_L_string_vals_L_dir_Entry_kids_L_P_dir_hd26b98 : TypeId := 152
abbrev T_dir_node_string_dir_Entry : TypeId := 153
abbrev T_func_attr_Attr_int_int_L_int_int_bool : TypeId := 154
abbrev T_func_L_int_int_int : TypeId := 155
abbrev T_func_string_bool : TypeId := 156
abbrev T_func_dir_Entry : TypeId := 157
abbrev T_int_int_int : TypeId := 158
abbrev T_func_int_int_int : TypeId := 159
abbrev T_func_L_string_L_string : TypeId := 160
abbrev T_func_L_dir_Entry_L_dir_Entry : TypeId := 161
abbrev T_func_L_int_L_int : TypeId := 162
abbrev T_L_P_dir_node_int_string : TypeId := 163
abbrev T_struct_keys_L_int_vals_L_string_kids_L_P_dir_node_int_string : TypeId := 164
abbrev T_dir_node_int_string : TypeId := 165
abbrev T_uint : TypeId := 166
abbrev T_uint_uint : TypeId := 167
abbrev T_func_uint_uint_uint_uint : TypeId := 168
abbrev T_P_strings_Builder : TypeId := 169
abbrev T_struct_addr_P_strings_Builder_buf_L_uint8 : TypeId := 170
abbrev T_strings_Builder : TypeId := 171
abbrev T_func_int_func : TypeId := 172
abbrev T_interface_Error_string : TypeId := 173
abbrev T_error : TypeId := 174
abbrev T_int_error : TypeId := 175
abbrev T_func_string_int_error : TypeId := 176
abbrev T_func_string_func : TypeId := 177
abbrev T_func_L_int_int_int_bool : TypeId := 178
abbrev T_func_L_int_iter_Seq_int_L_int : TypeId := 179
abbrev T_func_L_int_int_int_int : TypeId := 180
abbrev T_func_uint_int : TypeId := 181
abbrev T_func_L_core_Met_iter_Seq_core_Met_L_core_Met : TypeId := 182
abbrev T_func_L_core_Met_int_int_int_func_core_Met_core_Met_int : TypeId := 183
abbrev T_func_string_dir_Entry : TypeId := 184
abbrev T_uint32 : TypeId := 185
abbrev T_uint32_uint32 : TypeId := 186
abbrev T_func_uint32_uint32_uint32_uint32 : TypeId := 187
abbrev T_uint64 : TypeId := 188
abbrev T_uint64_uint64 : TypeId := 189
abbrev T_func_uint64_uint64_uint64_uint64 : TypeId := 190
abbrev T_P_uint8 : TypeId := 191
abbrev T_func_string_int32_int : TypeId := 192
abbrev T_A256_bool : TypeId := 193
abbrev T_strings_asciiSet : TypeId := 194
abbrev T_strings_asciiSet_bool : TypeId := 195
abbrev T_func_string_strings_asciiSet_bool : TypeId := 196
abbrev T_func_uint8_bool : TypeId := 197
abbrev T_func_int_int_bool : TypeId := 198
abbrev T_string_dir_Entry : TypeId := 199
abbrev T_func_int_string_dir_Entry : TypeId := 200
abbrev T_func_string_dir_Entry_func : TypeId := 201
abbrev T_func_int_P_dir_node_string_dir_Entry : TypeId := 202
abbrev T_P_dir_tree_int_string : TypeId := 203
abbrev T_int_string : TypeId := 204
abbrev T_func_int_int_string : TypeId := 205
abbrev T_func_int_string_func : TypeId := 206
abbrev T_func_int_P_dir_node_int_string : TypeId := 207
abbrev T_func_L_int_int_int_func : TypeId := 208
abbrev T_slices_sortedHint : TypeId := 209
abbrev T_int_slices_sortedHint : TypeId := 210
abbrev T_func_L_int_int_int_int_slices_sortedHint : TypeId := 211
abbrev T_func_L_int_int_int_bool_func : TypeId := 212
abbrev T_func_L_int_int_int_int_int : TypeId := 213
abbrev T_func_L_int_int_int_int_int_bool : TypeId := 214
abbrev T_func_uint32_int : TypeId := 215
abbrev T_func_uint64_int : TypeId := 216
abbrev T_func_L_core_Met_int_int_func_core_Met_core_Met_int : TypeId := 217
abbrev T_func_L_core_Met_int_int_func_core_Met_core_Met_int_h0de429 : TypeId := 218
abbrev T_func_L_core_Met_int_int_func_core_Met_core_Met_int_bool : TypeId := 219
abbrev T_func_L_core_Met_int_int_int_func_core_Met_core_Met_int_int : TypeId := 220
abbrev T_func_L_core_Met_int_int_int_func_core_Met_core_Met_h3431c8 : TypeId := 221
abbrev T_func_L_string_int_string_L_string : TypeId := 222
abbrev T_func_L_dir_Entry_int_dir_Entry_L_dir_Entry : TypeId := 223
abbrev T_func_L_int_int_int_L_int : TypeId := 224
abbrev T_unsafe_Pointer : TypeId := 225
abbrev T_func_unsafe_Pointer_unsafe_Pointer : TypeId := 226
abbrev T_func_int_L_uint8 : TypeId := 227
abbrev T_func_string_uint8_int : TypeId := 228
abbrev T_func_int32_bool : TypeId := 229
abbrev T_P_strings_asciiSet : TypeId := 230
abbrev T_func_L_string_int_int_L_string : TypeId := 231
abbrev T_func_L_dir_Entry_int_int_L_dir_Entry : TypeId := 232
abbrev T_func_L_int_int_int_L_int_func : TypeId := 233
abbrev T_slices_xorshift : TypeId := 234
abbrev T_func_int_uint : TypeId := 235
abbrev T_func_uint64 : TypeId := 236
abbrev T_func_L_int_int_P_int_int : TypeId := 237
abbrev T_P_int : TypeId := 238
abbrev T_func_L_int_int_int_int_P_int_int : TypeId := 239
abbrev T_func_L_core_Met_int_P_int_func_core_Met_core_Met_int_int : TypeId := 240
abbrev T_func_L_core_Met_int_int_int_P_int_func_core_Met_co_hb684e8 : TypeId := 241
abbrev T_func_L_P_dir_node_string_dir_Entry_L_P_dir_node_st_h483595 : TypeId := 242
abbrev T_func_L_P_dir_node_string_dir_Entry_int_P_dir_node__h172633 : TypeId := 243
abbrev T_func_L_string_L_string_bool : TypeId := 244
abbrev T_func_L_string_int : TypeId := 245
abbrev T_func_L_dir_Entry_L_dir_Entry_bool : TypeId := 246
abbrev T_func_L_dir_Entry_int : TypeId := 247
abbrev T_func_L_P_dir_node_int_string_L_P_dir_node_int_string : TypeId := 248
abbrev T_func_L_P_dir_node_int_string_int_P_dir_node_int_st_hbc081b : TypeId := 249
abbrev T_func_L_int_L_int_bool : TypeId := 250
abbrev T_func_L_int_int : TypeId := 251
abbrev T_func_L_P_dir_node_string_dir_Entry_int_int_L_P_dir_h871228 : TypeId := 252
abbrev T_func_L_P_dir_node_int_string_int_int_L_P_dir_node_int_string : TypeId := 253
abbrev T_P_slices_xorshift : TypeId := 254
abbrev T_int_int : TypeId := 255
abbrev T_func_L_int_int_int_P_int_int_int : TypeId := 256
abbrev T_func_L_core_Met_int_int_P_int_func_core_Met_core_M_heecd7f : TypeId := 257
abbrev T_func_L_P_dir_node_string_dir_Entry_L_P_dir_node_st_h44de59 : TypeId := 258
abbrev T_func_L_P_dir_node_string_dir_Entry_int : TypeId := 259
abbrev T_func_L_P_dir_node_int_string_L_P_dir_node_int_string_bool : TypeId := 260
abbrev T_func_L_P_dir_node_int_string_int : TypeId := 261
abbrev T_func_L_string : TypeId := 262
abbrev T_func_L_dir_Entry : TypeId := 263
abbrev T_func_L_P_dir_node_string_dir_Entry : TypeId := 264
abbrev T_func_L_P_dir_node_int_string : TypeId := 265
abbrev T_struct_interface_P_abi_Type_concrete_P_abi_Type_as_hf50685 : TypeId := 266
abbrev T_runtime_TypeAssertionError : TypeId := 267
abbrev T_A0_P_runtime_PanicNilError : TypeId := 268
abbrev T_struct_A0_P_runtime_PanicNilError : TypeId := 269
abbrev T_runtime_PanicNilError : TypeId := 270
abbrev T_abi_TFlag : TypeId := 271
abbrev T_abi_Kind : TypeId := 272
abbrev T_func_unsafe_Pointer_unsafe_Pointer_bool : TypeId := 273
abbrev T_abi_NameOff : TypeId := 274
abbrev T_abi_TypeOff : TypeId := 275
abbrev T_struct_Size_uintptr_PtrBytes_uintptr_Hash_uint32_T_h593585 : TypeId := 276
abbrev T_abi_Type : TypeId := 277
abbrev T_func_string_func_string_dir_Entry_bool_bool : TypeId := 278
abbrev T_func_int_string_bool_func : TypeId := 279
abbrev T_func_string_dir_Entry_bool_func : TypeId := 280
abbrev F_main_main : FuncId := 0
abbrev F_gosem_cut : FuncId := 1
abbrev F_gosem_cut_init : FuncId := 2
abbrev F_coraclelaw13_CoreOnce : FuncId := 3
abbrev F_coraclelaw13_CoreGuard : FuncId := 4
abbrev F_coraclelaw13_CoreBytes : FuncId := 5
abbrev F_coraclelaw13_CoreNil : FuncId := 6
abbrev F_coraclelaw13_speaks : FuncId := 7
abbrev F_core_New : FuncId := 8
abbrev F_core_FS_Create : FuncId := 9
abbrev F_core_FS_Node : FuncId := 10
abbrev F_core_FS_SetAttr : FuncId := 11
abbrev F_core_FS_Write : FuncId := 12
abbrev F_core_FS_Read : FuncId := 13
abbrev F_coraclelaw13_caller : FuncId := 14
abbrev F_core_FS_Load : FuncId := 15
abbrev F_core_FS_Lookup : FuncId := 16
abbrev F_core_FS_Readdir : FuncId := 17
abbrev F_core_FS_Remove : FuncId := 18
abbrev F_core_FS_Clone : FuncId := 19
abbrev F_core_FS_IDs : FuncId := 20
abbrev F_core_FS_Met : FuncId := 21
abbrev F_core_FS_Last : FuncId := 22
abbrev F_core_FS_Make : FuncId := 23
abbrev F_core_FS_touch : FuncId := 24
abbrev F_core_FS_spot : FuncId := 25
abbrev F_dir_Dir_Get : FuncId := 26
abbrev F_core_Caller_settable : FuncId := 27
abbrev F_core_Caller_set : FuncId := 28
abbrev F_core_sizable : FuncId := 29
abbrev F_core_FS_add : FuncId := 30
abbrev F_dir_Dir_Clone : FuncId := 31
abbrev F_core_FS_get : FuncId := 32
abbrev F_core_FS_file : FuncId := 33
abbrev F_core_cut : FuncId := 34
abbrev F_core_Node_fill : FuncId := 35
abbrev F_core_Caller_time : FuncId := 36
abbrev F_core_FS_dir : FuncId := 37
abbrev F_name_Check : FuncId := 38
abbrev F_dir_Dir_Next : FuncId := 39
abbrev F_dir_Dir_After : FuncId := 40
abbrev F_core_FS_named : FuncId := 41
abbrev F_core_FS_lose : FuncId := 42
abbrev F_maps_Clone_M_core_Met_int_core_Met_int : FuncId := 43
abbrev F_slices_Sorted_int : FuncId := 44
abbrev F_maps_Keys_M_int_P_core_Node_int_P_core_Node : FuncId := 45
abbrev F_slices_SortedFunc_core_Met : FuncId := 46
abbrev F_maps_Keys_M_core_Met_int_core_Met_int : FuncId := 47
abbrev F_core_FS_Met_c1 : FuncId := 48
abbrev F_strings_Compare : FuncId := 49
abbrev F_dir_tree_string_dir_Entry_get : FuncId := 50
abbrev F_core_Caller_owns : FuncId := 51
abbrev F_core_Caller_may : FuncId := 52
abbrev F_slices_Contains_L_int_int : FuncId := 53
abbrev F_dir_Dir_Add : FuncId := 54
abbrev F_core_FS_changed : FuncId := 55
abbrev F_dir_node_string_dir_Entry_twin : FuncId := 56
abbrev F_dir_node_int_string_twin : FuncId := 57
abbrev F_strings_Repeat : FuncId := 58
abbrev F_strings_ContainsAny : FuncId := 59
abbrev F_dir_node_int_string_walk : FuncId := 60
abbrev F_dir_Dir_After_c1 : FuncId := 61
abbrev F_dir_Dir_Remove : FuncId := 62
abbrev F_maps_clone : FuncId := 63
abbrev F_slices_Collect_int : FuncId := 64
abbrev F_slices_Sort_L_int_int : FuncId := 65
abbrev F_maps_Keys_M_int_P_core_Node_int_P_core_Node_c1 : FuncId := 66
abbrev F_slices_Collect_core_Met : FuncId := 67
abbrev F_slices_SortFunc_L_core_Met_core_Met : FuncId := 68
abbrev F_maps_Keys_M_core_Met_int_core_Met_int_c1 : FuncId := 69
abbrev F_bytealg_CompareString : FuncId := 70
abbrev F_slices_BinarySearch_L_string_string : FuncId := 71
abbrev F_attr_May : FuncId := 72
abbrev F_slices_Index_L_int_int : FuncId := 73
abbrev F_dir_Dir_free : FuncId := 74
abbrev F_dir_Dir_lay : FuncId := 75
abbrev F_dir_Dir_Len : FuncId := 76
abbrev F_slices_Clone_L_string_string : FuncId := 77
abbrev F_slices_Clone_L_dir_Entry_dir_Entry : FuncId := 78
abbrev F_slices_Clone_L_int_int : FuncId := 79
abbrev F_math_bits_Mul : FuncId := 80
abbrev F_strings_HasPrefix : FuncId := 81
abbrev F_strings_Builder_Grow : FuncId := 82
abbrev F_strings_Builder_WriteString : FuncId := 83
abbrev F_strings_Builder_Len : FuncId := 84
abbrev F_strings_Builder_String : FuncId := 85
abbrev F_strings_IndexAny : FuncId := 86
abbrev F_slices_BinarySearch_L_int_int : FuncId := 87
abbrev F_dir_tree_string_dir_Entry_remove : FuncId := 88
abbrev F_dir_tree_int_string_remove : FuncId := 89
abbrev F_slices_AppendSeq_L_int_int : FuncId := 90
abbrev F_slices_pdqsortOrdered_int : FuncId := 91
abbrev F_math_bits_Len : FuncId := 92
abbrev F_slices_AppendSeq_L_core_Met_core_Met : FuncId := 93
abbrev F_slices_pdqsortCmpFunc_core_Met : FuncId := 94
abbrev F_bytealg_abigen_runtime_cmpstring : FuncId := 95
abbrev F_cmp_Less_string : FuncId := 96
abbrev F_slices_isNaN_string : FuncId := 97
abbrev F_dir_tree_string_dir_Entry_put : FuncId := 98
abbrev F_dir_tree_int_string_put : FuncId := 99
abbrev F_dir_tree_string_dir_Entry_height : FuncId := 100
abbrev F_dir_tree_int_string_height : FuncId := 101
abbrev F_math_bits_Mul32 : FuncId := 102
abbrev F_math_bits_Mul64 : FuncId := 103
abbrev F_stringslite_HasPrefix : FuncId := 104
abbrev F_strings_Builder_copyCheck : FuncId := 105
abbrev F_strings_Builder_grow : FuncId := 106
abbrev F_strings_IndexRune : FuncId := 107
abbrev F_strings_shouldUseASCIISet : FuncId := 108
abbrev F_strings_makeASCIISet : FuncId := 109
abbrev F_strings_asciiSet_contains : FuncId := 110
abbrev F_cmp_Less_int : FuncId := 111
abbrev F_slices_isNaN_int : FuncId := 112
abbrev F_dir_node_string_dir_Entry_cut : FuncId := 113
abbrev F_dir_node_string_dir_Entry_greatest : FuncId := 114
abbrev F_dir_node_string_dir_Entry_spare : FuncId := 115
abbrev F_dir_node_int_string_cut : FuncId := 116
abbrev F_dir_node_int_string_greatest : FuncId := 117
abbrev F_dir_node_int_string_spare : FuncId := 118
abbrev F_slices_insertionSortOrdered_int : FuncId := 119
abbrev F_slices_heapSortOrdered_int : FuncId := 120
abbrev F_slices_breakPatternsOrdered_int : FuncId := 121
abbrev F_slices_choosePivotOrdered_int : FuncId := 122
abbrev F_slices_reverseRangeOrdered_int : FuncId := 123
abbrev F_slices_partialInsertionSortOrdered_int : FuncId := 124
abbrev F_slices_partitionEqualOrdered_int : FuncId := 125
abbrev F_slices_partitionOrdered_int : FuncId := 126
abbrev F_math_bits_Len32 : FuncId := 127
abbrev F_math_bits_Len64 : FuncId := 128
abbrev F_slices_insertionSortCmpFunc_core_Met : FuncId := 129
abbrev F_slices_heapSortCmpFunc_core_Met : FuncId := 130
abbrev F_slices_breakPatternsCmpFunc_core_Met : FuncId := 131
abbrev F_slices_choosePivotCmpFunc_core_Met : FuncId := 132
abbrev F_slices_reverseRangeCmpFunc_core_Met : FuncId := 133
abbrev F_slices_partialInsertionSortCmpFunc_core_Met : FuncId := 134
abbrev F_slices_partitionEqualCmpFunc_core_Met : FuncId := 135
abbrev F_slices_partitionCmpFunc_core_Met : FuncId := 136
abbrev F_cmp_isNaN_string : FuncId := 137
abbrev F_dir_node_string_dir_Entry_full : FuncId := 138
abbrev F_dir_node_string_dir_Entry_split : FuncId := 139
abbrev F_slices_Insert_L_string_string : FuncId := 140
abbrev F_slices_Insert_L_dir_Entry_dir_Entry : FuncId := 141
abbrev F_dir_node_int_string_full : FuncId := 142
abbrev F_dir_node_int_string_split : FuncId := 143
abbrev F_slices_Insert_L_int_int : FuncId := 144
abbrev F_abi_NoEscape : FuncId := 145
abbrev F_bytealg_MakeNoZero : FuncId := 146
abbrev F_strings_IndexByte : FuncId := 147
abbrev F_unicode_utf8_ValidRune : FuncId := 148
abbrev F_bytealg_Cutover : FuncId := 149
abbrev F_bytealg_IndexString : FuncId := 150
abbrev F_cmp_isNaN_int : FuncId := 151
abbrev F_slices_Delete_L_string_string : FuncId := 152
abbrev F_slices_Delete_L_dir_Entry_dir_Entry : FuncId := 153
abbrev F_dir_node_string_dir_Entry_left : FuncId := 154
abbrev F_dir_node_string_dir_Entry_right : FuncId := 155
abbrev F_dir_node_string_dir_Entry_merge : FuncId := 156
abbrev F_slices_Delete_L_int_int : FuncId := 157
abbrev F_dir_node_int_string_left : FuncId := 158
abbrev F_dir_node_int_string_right : FuncId := 159
abbrev F_dir_node_int_string_merge : FuncId := 160
abbrev F_slices_siftDownOrdered_int : FuncId := 161
abbrev F_slices_nextPowerOfTwo : FuncId := 162
abbrev F_slices_xorshift_Next : FuncId := 163
abbrev F_slices_medianAdjacentOrdered_int : FuncId := 164
abbrev F_slices_medianOrdered_int : FuncId := 165
abbrev F_slices_siftDownCmpFunc_core_Met : FuncId := 166
abbrev F_slices_medianAdjacentCmpFunc_core_Met : FuncId := 167
abbrev F_slices_medianCmpFunc_core_Met : FuncId := 168
abbrev F_slices_Clone_L_P_dir_node_string_dir_Entry_P_dir_node_string_dir_Entry : FuncId := 169
abbrev F_slices_Insert_L_P_dir_node_string_dir_Entry_P_dir_node_strin_h5e5b72 : FuncId := 170
abbrev F_slices_overlaps_string : FuncId := 171
abbrev F_slices_rotateRight_string : FuncId := 172
abbrev F_slices_overlaps_dir_Entry : FuncId := 173
abbrev F_slices_rotateRight_dir_Entry : FuncId := 174
abbrev F_slices_Clone_L_P_dir_node_int_string_P_dir_node_int_string : FuncId := 175
abbrev F_slices_Insert_L_P_dir_node_int_string_P_dir_node_int_string : FuncId := 176
abbrev F_slices_overlaps_int : FuncId := 177
abbrev F_slices_rotateRight_int : FuncId := 178
abbrev F_stringslite_IndexByte : FuncId := 179
abbrev F_slices_Delete_L_P_dir_node_string_dir_Entry_P_dir_node_strin_h545c8b : FuncId := 180
abbrev F_slices_Delete_L_P_dir_node_int_string_P_dir_node_int_string : FuncId := 181
abbrev F_slices_order2Ordered_int : FuncId := 182
abbrev F_slices_order2CmpFunc_core_Met : FuncId := 183
abbrev F_slices_overlaps_P_dir_node_string_dir_Entry : FuncId := 184
abbrev F_slices_rotateRight_P_dir_node_string_dir_Entry : FuncId := 185
abbrev F_slices_rotateLeft_string : FuncId := 186
abbrev F_slices_rotateLeft_dir_Entry : FuncId := 187
abbrev F_slices_overlaps_P_dir_node_int_string : FuncId := 188
abbrev F_slices_rotateRight_P_dir_node_int_string : FuncId := 189
abbrev F_slices_rotateLeft_int : FuncId := 190
abbrev F_bytealg_IndexByteString : FuncId := 191
abbrev F_slices_rotateLeft_P_dir_node_string_dir_Entry : FuncId := 192
abbrev F_slices_Reverse_L_string_string : FuncId := 193
abbrev F_slices_Reverse_L_dir_Entry_dir_Entry : FuncId := 194
abbrev F_slices_rotateLeft_P_dir_node_int_string : FuncId := 195
abbrev F_slices_Reverse_L_int_int : FuncId := 196
abbrev F_slices_Reverse_L_P_dir_node_string_dir_Entry_P_dir_node_stri_hb313ec : FuncId := 197
abbrev F_slices_Reverse_L_P_dir_node_int_string_P_dir_node_int_string : FuncId := 198
abbrev F_runtime_boundsError_Error : FuncId := 199
abbrev F_runtime_boundsError_RuntimeError : FuncId := 200
abbrev F_runtime_errorString_Error : FuncId := 201
abbrev F_runtime_errorString_RuntimeError : FuncId := 202
abbrev F_runtime_plainError_Error : FuncId := 203
abbrev F_runtime_plainError_RuntimeError : FuncId := 204
abbrev F_runtime_errorAddressString_Error : FuncId := 205
abbrev F_runtime_errorAddressString_RuntimeError : FuncId := 206
abbrev F_runtime_TypeAssertionError_Error : FuncId := 207
abbrev F_runtime_TypeAssertionError_RuntimeError : FuncId := 208
abbrev F_runtime_PanicNilError_Error : FuncId := 209
abbrev F_runtime_PanicNilError_RuntimeError : FuncId := 210
abbrev F_abi_Type_Align : FuncId := 211
abbrev F_runtime_maps_unhashableTypeError_Error : FuncId := 212
abbrev F_runtime_maps_unhashableTypeError_RuntimeError : FuncId := 213
abbrev F_dir_Dir_Least : FuncId := 214
abbrev F_dir_node_string_dir_Entry_walk : FuncId := 215
abbrev F_strings_Builder_Reset : FuncId := 216
abbrev F_dir_tree_int_string_get : FuncId := 217
abbrev F_abi_Kind_String : FuncId := 218
theorem mixed : P.follows .mixedOrders = true := by kernel_rfl
theorem fn_gosem_cut_init : P.funcs[F_gosem_cut_init]? = some Tryz.f2 := Tryz.func2
theorem fn_coraclelaw13_CoreOnce : P.funcs[F_coraclelaw13_CoreOnce]? = some Tryz.f3 := Tryz.func3
theorem fn_coraclelaw13_CoreGuard : P.funcs[F_coraclelaw13_CoreGuard]? = some Tryz.f4 := Tryz.func4
theorem fn_coraclelaw13_CoreBytes : P.funcs[F_coraclelaw13_CoreBytes]? = some Tryz.f5 := Tryz.func5
theorem fn_coraclelaw13_CoreNil : P.funcs[F_coraclelaw13_CoreNil]? = some Tryz.f6 := Tryz.func6
theorem fn_coraclelaw13_speaks : P.funcs[F_coraclelaw13_speaks]? = some Tryz.f7 := Tryz.func7
theorem fn_core_New : P.funcs[F_core_New]? = some Tryz.f8 := Tryz.func8
theorem fn_core_FS_Create : P.funcs[F_core_FS_Create]? = some Tryz.f9 := Tryz.func9
theorem fn_core_FS_Node : P.funcs[F_core_FS_Node]? = some Tryz.f10 := Tryz.func10
theorem fn_core_FS_SetAttr : P.funcs[F_core_FS_SetAttr]? = some Tryz.f11 := Tryz.func11
theorem fn_core_FS_Write : P.funcs[F_core_FS_Write]? = some Tryz.f12 := Tryz.func12
theorem fn_core_FS_Read : P.funcs[F_core_FS_Read]? = some Tryz.f13 := Tryz.func13
theorem fn_coraclelaw13_caller : P.funcs[F_coraclelaw13_caller]? = some Tryz.f14 := Tryz.func14
theorem fn_core_FS_Load : P.funcs[F_core_FS_Load]? = some Tryz.f15 := Tryz.func15
theorem fn_core_FS_Lookup : P.funcs[F_core_FS_Lookup]? = some Tryz.f16 := Tryz.func16
theorem fn_core_FS_Readdir : P.funcs[F_core_FS_Readdir]? = some Tryz.f17 := Tryz.func17
theorem fn_core_FS_Remove : P.funcs[F_core_FS_Remove]? = some Tryz.f18 := Tryz.func18
theorem fn_core_FS_Clone : P.funcs[F_core_FS_Clone]? = some Tryz.f19 := Tryz.func19
theorem fn_core_FS_IDs : P.funcs[F_core_FS_IDs]? = some Tryz.f20 := Tryz.func20
theorem fn_core_FS_Met : P.funcs[F_core_FS_Met]? = some Tryz.f21 := Tryz.func21
theorem fn_core_FS_Last : P.funcs[F_core_FS_Last]? = some Tryz.f22 := Tryz.func22
theorem fn_core_FS_Make : P.funcs[F_core_FS_Make]? = some Tryz.f23 := Tryz.func23
theorem fn_core_FS_touch : P.funcs[F_core_FS_touch]? = some Tryz.f24 := Tryz.func24
theorem fn_core_FS_spot : P.funcs[F_core_FS_spot]? = some Tryz.f25 := Tryz.func25
theorem fn_dir_Dir_Get : P.funcs[F_dir_Dir_Get]? = some Tryz.f26 := Tryz.func26
theorem fn_core_Caller_settable : P.funcs[F_core_Caller_settable]? = some Tryz.f27 := Tryz.func27
theorem fn_core_Caller_set : P.funcs[F_core_Caller_set]? = some Tryz.f28 := Tryz.func28
theorem fn_core_sizable : P.funcs[F_core_sizable]? = some Tryz.f29 := Tryz.func29
theorem fn_core_FS_add : P.funcs[F_core_FS_add]? = some Tryz.f30 := Tryz.func30
theorem fn_dir_Dir_Clone : P.funcs[F_dir_Dir_Clone]? = some Tryz.f31 := Tryz.func31
theorem fn_core_FS_get : P.funcs[F_core_FS_get]? = some Tryz.f32 := Tryz.func32
theorem fn_core_FS_file : P.funcs[F_core_FS_file]? = some Tryz.f33 := Tryz.func33
theorem fn_core_cut : P.funcs[F_core_cut]? = some Tryz.f34 := Tryz.func34
theorem fn_core_Node_fill : P.funcs[F_core_Node_fill]? = some Tryz.f35 := Tryz.func35
theorem fn_core_Caller_time : P.funcs[F_core_Caller_time]? = some Tryz.f36 := Tryz.func36
theorem fn_core_FS_dir : P.funcs[F_core_FS_dir]? = some Tryz.f37 := Tryz.func37
theorem fn_name_Check : P.funcs[F_name_Check]? = some Tryz.f38 := Tryz.func38
theorem fn_dir_Dir_Next : P.funcs[F_dir_Dir_Next]? = some Tryz.f39 := Tryz.func39
theorem fn_dir_Dir_After : P.funcs[F_dir_Dir_After]? = some Tryz.f40 := Tryz.func40
theorem fn_core_FS_named : P.funcs[F_core_FS_named]? = some Tryz.f41 := Tryz.func41
theorem fn_core_FS_lose : P.funcs[F_core_FS_lose]? = some Tryz.f42 := Tryz.func42
theorem fn_maps_Clone_M_core_Met_int_core_Met_int : P.funcs[F_maps_Clone_M_core_Met_int_core_Met_int]? = some Tryz.f43 := Tryz.func43
theorem fn_slices_Sorted_int : P.funcs[F_slices_Sorted_int]? = some Tryz.f44 := Tryz.func44
theorem fn_maps_Keys_M_int_P_core_Node_int_P_core_Node : P.funcs[F_maps_Keys_M_int_P_core_Node_int_P_core_Node]? = some Tryz.f45 := Tryz.func45
theorem fn_slices_SortedFunc_core_Met : P.funcs[F_slices_SortedFunc_core_Met]? = some Tryz.f46 := Tryz.func46
theorem fn_maps_Keys_M_core_Met_int_core_Met_int : P.funcs[F_maps_Keys_M_core_Met_int_core_Met_int]? = some Tryz.f47 := Tryz.func47
theorem fn_core_FS_Met_c1 : P.funcs[F_core_FS_Met_c1]? = some Tryz.f48 := Tryz.func48
theorem fn_strings_Compare : P.funcs[F_strings_Compare]? = some Tryz.f49 := Tryz.func49
theorem fn_dir_tree_string_dir_Entry_get : P.funcs[F_dir_tree_string_dir_Entry_get]? = some Tryz.f50 := Tryz.func50
theorem fn_core_Caller_owns : P.funcs[F_core_Caller_owns]? = some Tryz.f51 := Tryz.func51
theorem fn_core_Caller_may : P.funcs[F_core_Caller_may]? = some Tryz.f52 := Tryz.func52
theorem fn_slices_Contains_L_int_int : P.funcs[F_slices_Contains_L_int_int]? = some Tryz.f53 := Tryz.func53
theorem fn_dir_Dir_Add : P.funcs[F_dir_Dir_Add]? = some Tryz.f54 := Tryz.func54
theorem fn_core_FS_changed : P.funcs[F_core_FS_changed]? = some Tryz.f55 := Tryz.func55
theorem fn_dir_node_string_dir_Entry_twin : P.funcs[F_dir_node_string_dir_Entry_twin]? = some Tryz.f56 := Tryz.func56
theorem fn_dir_node_int_string_twin : P.funcs[F_dir_node_int_string_twin]? = some Tryz.f57 := Tryz.func57
theorem fn_strings_Repeat : P.funcs[F_strings_Repeat]? = some Tryz.f58 := Tryz.func58
theorem fn_strings_ContainsAny : P.funcs[F_strings_ContainsAny]? = some Tryz.f59 := Tryz.func59
theorem fn_dir_node_int_string_walk : P.funcs[F_dir_node_int_string_walk]? = some Tryz.f60 := Tryz.func60
theorem fn_dir_Dir_After_c1 : P.funcs[F_dir_Dir_After_c1]? = some Tryz.f61 := Tryz.func61
theorem fn_dir_Dir_Remove : P.funcs[F_dir_Dir_Remove]? = some Tryz.f62 := Tryz.func62
theorem fn_slices_Collect_int : P.funcs[F_slices_Collect_int]? = some Tryz.f64 := Tryz.func64
theorem fn_slices_Sort_L_int_int : P.funcs[F_slices_Sort_L_int_int]? = some Tryz.f65 := Tryz.func65
theorem fn_maps_Keys_M_int_P_core_Node_int_P_core_Node_c1 : P.funcs[F_maps_Keys_M_int_P_core_Node_int_P_core_Node_c1]? = some Tryz.f66 := Tryz.func66
theorem fn_slices_Collect_core_Met : P.funcs[F_slices_Collect_core_Met]? = some Tryz.f67 := Tryz.func67
theorem fn_slices_SortFunc_L_core_Met_core_Met : P.funcs[F_slices_SortFunc_L_core_Met_core_Met]? = some Tryz.f68 := Tryz.func68
theorem fn_maps_Keys_M_core_Met_int_core_Met_int_c1 : P.funcs[F_maps_Keys_M_core_Met_int_core_Met_int_c1]? = some Tryz.f69 := Tryz.func69
theorem fn_bytealg_CompareString : P.funcs[F_bytealg_CompareString]? = some Tryz.f70 := Tryz.func70
theorem fn_slices_BinarySearch_L_string_string : P.funcs[F_slices_BinarySearch_L_string_string]? = some Tryz.f71 := Tryz.func71
theorem fn_attr_May : P.funcs[F_attr_May]? = some Tryz.f72 := Tryz.func72
theorem fn_slices_Index_L_int_int : P.funcs[F_slices_Index_L_int_int]? = some Tryz.f73 := Tryz.func73
theorem fn_dir_Dir_free : P.funcs[F_dir_Dir_free]? = some Tryz.f74 := Tryz.func74
theorem fn_dir_Dir_lay : P.funcs[F_dir_Dir_lay]? = some Tryz.f75 := Tryz.func75
theorem fn_dir_Dir_Len : P.funcs[F_dir_Dir_Len]? = some Tryz.f76 := Tryz.func76
theorem fn_slices_Clone_L_string_string : P.funcs[F_slices_Clone_L_string_string]? = some Tryz.f77 := Tryz.func77
theorem fn_slices_Clone_L_dir_Entry_dir_Entry : P.funcs[F_slices_Clone_L_dir_Entry_dir_Entry]? = some Tryz.f78 := Tryz.func78
theorem fn_slices_Clone_L_int_int : P.funcs[F_slices_Clone_L_int_int]? = some Tryz.f79 := Tryz.func79
theorem fn_math_bits_Mul : P.funcs[F_math_bits_Mul]? = some Tryz.f80 := Tryz.func80
theorem fn_strings_HasPrefix : P.funcs[F_strings_HasPrefix]? = some Tryz.f81 := Tryz.func81
theorem fn_strings_Builder_Grow : P.funcs[F_strings_Builder_Grow]? = some Tryz.f82 := Tryz.func82
theorem fn_strings_Builder_WriteString : P.funcs[F_strings_Builder_WriteString]? = some Tryz.f83 := Tryz.func83
theorem fn_strings_Builder_Len : P.funcs[F_strings_Builder_Len]? = some Tryz.f84 := Tryz.func84
theorem fn_strings_Builder_String : P.funcs[F_strings_Builder_String]? = some Tryz.f85 := Tryz.func85
theorem fn_strings_IndexAny : P.funcs[F_strings_IndexAny]? = some Tryz.f86 := Tryz.func86
theorem fn_slices_BinarySearch_L_int_int : P.funcs[F_slices_BinarySearch_L_int_int]? = some Tryz.f87 := Tryz.func87
theorem fn_dir_tree_string_dir_Entry_remove : P.funcs[F_dir_tree_string_dir_Entry_remove]? = some Tryz.f88 := Tryz.func88
theorem fn_dir_tree_int_string_remove : P.funcs[F_dir_tree_int_string_remove]? = some Tryz.f89 := Tryz.func89
theorem fn_slices_AppendSeq_L_int_int : P.funcs[F_slices_AppendSeq_L_int_int]? = some Tryz.f90 := Tryz.func90
theorem fn_slices_pdqsortOrdered_int : P.funcs[F_slices_pdqsortOrdered_int]? = some Tryz.f91 := Tryz.func91
theorem fn_math_bits_Len : P.funcs[F_math_bits_Len]? = some Tryz.f92 := Tryz.func92
theorem fn_slices_AppendSeq_L_core_Met_core_Met : P.funcs[F_slices_AppendSeq_L_core_Met_core_Met]? = some Tryz.f93 := Tryz.func93
theorem fn_slices_pdqsortCmpFunc_core_Met : P.funcs[F_slices_pdqsortCmpFunc_core_Met]? = some Tryz.f94 := Tryz.func94
theorem fn_cmp_Less_string : P.funcs[F_cmp_Less_string]? = some Tryz.f96 := Tryz.func96
theorem fn_slices_isNaN_string : P.funcs[F_slices_isNaN_string]? = some Tryz.f97 := Tryz.func97
theorem fn_dir_tree_string_dir_Entry_put : P.funcs[F_dir_tree_string_dir_Entry_put]? = some Tryz.f98 := Tryz.func98
theorem fn_dir_tree_int_string_put : P.funcs[F_dir_tree_int_string_put]? = some Tryz.f99 := Tryz.func99
theorem fn_dir_tree_string_dir_Entry_height : P.funcs[F_dir_tree_string_dir_Entry_height]? = some Tryz.f100 := Tryz.func100
theorem fn_dir_tree_int_string_height : P.funcs[F_dir_tree_int_string_height]? = some Tryz.f101 := Tryz.func101
theorem fn_math_bits_Mul32 : P.funcs[F_math_bits_Mul32]? = some Tryz.f102 := Tryz.func102
theorem fn_math_bits_Mul64 : P.funcs[F_math_bits_Mul64]? = some Tryz.f103 := Tryz.func103
theorem fn_stringslite_HasPrefix : P.funcs[F_stringslite_HasPrefix]? = some Tryz.f104 := Tryz.func104
theorem fn_strings_Builder_copyCheck : P.funcs[F_strings_Builder_copyCheck]? = some Tryz.f105 := Tryz.func105
theorem fn_strings_Builder_grow : P.funcs[F_strings_Builder_grow]? = some Tryz.f106 := Tryz.func106
theorem fn_strings_IndexRune : P.funcs[F_strings_IndexRune]? = some Tryz.f107 := Tryz.func107
theorem fn_strings_shouldUseASCIISet : P.funcs[F_strings_shouldUseASCIISet]? = some Tryz.f108 := Tryz.func108
theorem fn_strings_makeASCIISet : P.funcs[F_strings_makeASCIISet]? = some Tryz.f109 := Tryz.func109
theorem fn_strings_asciiSet_contains : P.funcs[F_strings_asciiSet_contains]? = some Tryz.f110 := Tryz.func110
theorem fn_cmp_Less_int : P.funcs[F_cmp_Less_int]? = some Tryz.f111 := Tryz.func111
theorem fn_slices_isNaN_int : P.funcs[F_slices_isNaN_int]? = some Tryz.f112 := Tryz.func112
theorem fn_dir_node_string_dir_Entry_cut : P.funcs[F_dir_node_string_dir_Entry_cut]? = some Tryz.f113 := Tryz.func113
theorem fn_dir_node_string_dir_Entry_greatest : P.funcs[F_dir_node_string_dir_Entry_greatest]? = some Tryz.f114 := Tryz.func114
theorem fn_dir_node_string_dir_Entry_spare : P.funcs[F_dir_node_string_dir_Entry_spare]? = some Tryz.f115 := Tryz.func115
theorem fn_dir_node_int_string_cut : P.funcs[F_dir_node_int_string_cut]? = some Tryz.f116 := Tryz.func116
theorem fn_dir_node_int_string_greatest : P.funcs[F_dir_node_int_string_greatest]? = some Tryz.f117 := Tryz.func117
theorem fn_dir_node_int_string_spare : P.funcs[F_dir_node_int_string_spare]? = some Tryz.f118 := Tryz.func118
theorem fn_slices_insertionSortOrdered_int : P.funcs[F_slices_insertionSortOrdered_int]? = some Tryz.f119 := Tryz.func119
theorem fn_slices_heapSortOrdered_int : P.funcs[F_slices_heapSortOrdered_int]? = some Tryz.f120 := Tryz.func120
theorem fn_slices_breakPatternsOrdered_int : P.funcs[F_slices_breakPatternsOrdered_int]? = some Tryz.f121 := Tryz.func121
theorem fn_slices_choosePivotOrdered_int : P.funcs[F_slices_choosePivotOrdered_int]? = some Tryz.f122 := Tryz.func122
theorem fn_slices_reverseRangeOrdered_int : P.funcs[F_slices_reverseRangeOrdered_int]? = some Tryz.f123 := Tryz.func123
theorem fn_slices_partialInsertionSortOrdered_int : P.funcs[F_slices_partialInsertionSortOrdered_int]? = some Tryz.f124 := Tryz.func124
theorem fn_slices_partitionEqualOrdered_int : P.funcs[F_slices_partitionEqualOrdered_int]? = some Tryz.f125 := Tryz.func125
theorem fn_slices_partitionOrdered_int : P.funcs[F_slices_partitionOrdered_int]? = some Tryz.f126 := Tryz.func126
theorem fn_math_bits_Len32 : P.funcs[F_math_bits_Len32]? = some Tryz.f127 := Tryz.func127
theorem fn_math_bits_Len64 : P.funcs[F_math_bits_Len64]? = some Tryz.f128 := Tryz.func128
theorem fn_slices_insertionSortCmpFunc_core_Met : P.funcs[F_slices_insertionSortCmpFunc_core_Met]? = some Tryz.f129 := Tryz.func129
theorem fn_slices_heapSortCmpFunc_core_Met : P.funcs[F_slices_heapSortCmpFunc_core_Met]? = some Tryz.f130 := Tryz.func130
theorem fn_slices_breakPatternsCmpFunc_core_Met : P.funcs[F_slices_breakPatternsCmpFunc_core_Met]? = some Tryz.f131 := Tryz.func131
theorem fn_slices_choosePivotCmpFunc_core_Met : P.funcs[F_slices_choosePivotCmpFunc_core_Met]? = some Tryz.f132 := Tryz.func132
theorem fn_slices_reverseRangeCmpFunc_core_Met : P.funcs[F_slices_reverseRangeCmpFunc_core_Met]? = some Tryz.f133 := Tryz.func133
theorem fn_slices_partialInsertionSortCmpFunc_core_Met : P.funcs[F_slices_partialInsertionSortCmpFunc_core_Met]? = some Tryz.f134 := Tryz.func134
theorem fn_slices_partitionEqualCmpFunc_core_Met : P.funcs[F_slices_partitionEqualCmpFunc_core_Met]? = some Tryz.f135 := Tryz.func135
theorem fn_slices_partitionCmpFunc_core_Met : P.funcs[F_slices_partitionCmpFunc_core_Met]? = some Tryz.f136 := Tryz.func136
theorem fn_cmp_isNaN_string : P.funcs[F_cmp_isNaN_string]? = some Tryz.f137 := Tryz.func137
theorem fn_dir_node_string_dir_Entry_full : P.funcs[F_dir_node_string_dir_Entry_full]? = some Tryz.f138 := Tryz.func138
theorem fn_dir_node_string_dir_Entry_split : P.funcs[F_dir_node_string_dir_Entry_split]? = some Tryz.f139 := Tryz.func139
theorem fn_slices_Insert_L_string_string : P.funcs[F_slices_Insert_L_string_string]? = some Tryz.f140 := Tryz.func140
theorem fn_slices_Insert_L_dir_Entry_dir_Entry : P.funcs[F_slices_Insert_L_dir_Entry_dir_Entry]? = some Tryz.f141 := Tryz.func141
theorem fn_dir_node_int_string_full : P.funcs[F_dir_node_int_string_full]? = some Tryz.f142 := Tryz.func142
theorem fn_dir_node_int_string_split : P.funcs[F_dir_node_int_string_split]? = some Tryz.f143 := Tryz.func143
theorem fn_slices_Insert_L_int_int : P.funcs[F_slices_Insert_L_int_int]? = some Tryz.f144 := Tryz.func144
theorem fn_strings_IndexByte : P.funcs[F_strings_IndexByte]? = some Tryz.f147 := Tryz.func147
theorem fn_unicode_utf8_ValidRune : P.funcs[F_unicode_utf8_ValidRune]? = some Tryz.f148 := Tryz.func148
theorem fn_bytealg_Cutover : P.funcs[F_bytealg_Cutover]? = some Tryz.f149 := Tryz.func149
theorem fn_cmp_isNaN_int : P.funcs[F_cmp_isNaN_int]? = some Tryz.f151 := Tryz.func151
theorem fn_slices_Delete_L_string_string : P.funcs[F_slices_Delete_L_string_string]? = some Tryz.f152 := Tryz.func152
theorem fn_slices_Delete_L_dir_Entry_dir_Entry : P.funcs[F_slices_Delete_L_dir_Entry_dir_Entry]? = some Tryz.f153 := Tryz.func153
theorem fn_dir_node_string_dir_Entry_left : P.funcs[F_dir_node_string_dir_Entry_left]? = some Tryz.f154 := Tryz.func154
theorem fn_dir_node_string_dir_Entry_right : P.funcs[F_dir_node_string_dir_Entry_right]? = some Tryz.f155 := Tryz.func155
theorem fn_dir_node_string_dir_Entry_merge : P.funcs[F_dir_node_string_dir_Entry_merge]? = some Tryz.f156 := Tryz.func156
theorem fn_slices_Delete_L_int_int : P.funcs[F_slices_Delete_L_int_int]? = some Tryz.f157 := Tryz.func157
theorem fn_dir_node_int_string_left : P.funcs[F_dir_node_int_string_left]? = some Tryz.f158 := Tryz.func158
theorem fn_dir_node_int_string_right : P.funcs[F_dir_node_int_string_right]? = some Tryz.f159 := Tryz.func159
theorem fn_dir_node_int_string_merge : P.funcs[F_dir_node_int_string_merge]? = some Tryz.f160 := Tryz.func160
theorem fn_slices_siftDownOrdered_int : P.funcs[F_slices_siftDownOrdered_int]? = some Tryz.f161 := Tryz.func161
theorem fn_slices_nextPowerOfTwo : P.funcs[F_slices_nextPowerOfTwo]? = some Tryz.f162 := Tryz.func162
theorem fn_slices_xorshift_Next : P.funcs[F_slices_xorshift_Next]? = some Tryz.f163 := Tryz.func163
theorem fn_slices_medianAdjacentOrdered_int : P.funcs[F_slices_medianAdjacentOrdered_int]? = some Tryz.f164 := Tryz.func164
theorem fn_slices_medianOrdered_int : P.funcs[F_slices_medianOrdered_int]? = some Tryz.f165 := Tryz.func165
theorem fn_slices_siftDownCmpFunc_core_Met : P.funcs[F_slices_siftDownCmpFunc_core_Met]? = some Tryz.f166 := Tryz.func166
theorem fn_slices_medianAdjacentCmpFunc_core_Met : P.funcs[F_slices_medianAdjacentCmpFunc_core_Met]? = some Tryz.f167 := Tryz.func167
theorem fn_slices_medianCmpFunc_core_Met : P.funcs[F_slices_medianCmpFunc_core_Met]? = some Tryz.f168 := Tryz.func168
theorem fn_slices_Clone_L_P_dir_node_string_dir_Entry_P_dir_node_string_dir_Entry : P.funcs[F_slices_Clone_L_P_dir_node_string_dir_Entry_P_dir_node_string_dir_Entry]? = some Tryz.f169 := Tryz.func169
theorem fn_slices_Insert_L_P_dir_node_string_dir_Entry_P_dir_node_strin_h5e5b72 : P.funcs[F_slices_Insert_L_P_dir_node_string_dir_Entry_P_dir_node_strin_h5e5b72]? = some Tryz.f170 := Tryz.func170
theorem fn_slices_rotateRight_string : P.funcs[F_slices_rotateRight_string]? = some Tryz.f172 := Tryz.func172
theorem fn_slices_rotateRight_dir_Entry : P.funcs[F_slices_rotateRight_dir_Entry]? = some Tryz.f174 := Tryz.func174
theorem fn_slices_Clone_L_P_dir_node_int_string_P_dir_node_int_string : P.funcs[F_slices_Clone_L_P_dir_node_int_string_P_dir_node_int_string]? = some Tryz.f175 := Tryz.func175
theorem fn_slices_Insert_L_P_dir_node_int_string_P_dir_node_int_string : P.funcs[F_slices_Insert_L_P_dir_node_int_string_P_dir_node_int_string]? = some Tryz.f176 := Tryz.func176
theorem fn_slices_rotateRight_int : P.funcs[F_slices_rotateRight_int]? = some Tryz.f178 := Tryz.func178
theorem fn_stringslite_IndexByte : P.funcs[F_stringslite_IndexByte]? = some Tryz.f179 := Tryz.func179
theorem fn_slices_Delete_L_P_dir_node_string_dir_Entry_P_dir_node_strin_h545c8b : P.funcs[F_slices_Delete_L_P_dir_node_string_dir_Entry_P_dir_node_strin_h545c8b]? = some Tryz.f180 := Tryz.func180
theorem fn_slices_Delete_L_P_dir_node_int_string_P_dir_node_int_string : P.funcs[F_slices_Delete_L_P_dir_node_int_string_P_dir_node_int_string]? = some Tryz.f181 := Tryz.func181
theorem fn_slices_order2Ordered_int : P.funcs[F_slices_order2Ordered_int]? = some Tryz.f182 := Tryz.func182
theorem fn_slices_order2CmpFunc_core_Met : P.funcs[F_slices_order2CmpFunc_core_Met]? = some Tryz.f183 := Tryz.func183
theorem fn_slices_rotateRight_P_dir_node_string_dir_Entry : P.funcs[F_slices_rotateRight_P_dir_node_string_dir_Entry]? = some Tryz.f185 := Tryz.func185
theorem fn_slices_rotateLeft_string : P.funcs[F_slices_rotateLeft_string]? = some Tryz.f186 := Tryz.func186
theorem fn_slices_rotateLeft_dir_Entry : P.funcs[F_slices_rotateLeft_dir_Entry]? = some Tryz.f187 := Tryz.func187
theorem fn_slices_rotateRight_P_dir_node_int_string : P.funcs[F_slices_rotateRight_P_dir_node_int_string]? = some Tryz.f189 := Tryz.func189
theorem fn_slices_rotateLeft_int : P.funcs[F_slices_rotateLeft_int]? = some Tryz.f190 := Tryz.func190
theorem fn_slices_rotateLeft_P_dir_node_string_dir_Entry : P.funcs[F_slices_rotateLeft_P_dir_node_string_dir_Entry]? = some Tryz.f192 := Tryz.func192
theorem fn_slices_Reverse_L_string_string : P.funcs[F_slices_Reverse_L_string_string]? = some Tryz.f193 := Tryz.func193
theorem fn_slices_Reverse_L_dir_Entry_dir_Entry : P.funcs[F_slices_Reverse_L_dir_Entry_dir_Entry]? = some Tryz.f194 := Tryz.func194
theorem fn_slices_rotateLeft_P_dir_node_int_string : P.funcs[F_slices_rotateLeft_P_dir_node_int_string]? = some Tryz.f195 := Tryz.func195
theorem fn_slices_Reverse_L_int_int : P.funcs[F_slices_Reverse_L_int_int]? = some Tryz.f196 := Tryz.func196
theorem fn_slices_Reverse_L_P_dir_node_string_dir_Entry_P_dir_node_stri_hb313ec : P.funcs[F_slices_Reverse_L_P_dir_node_string_dir_Entry_P_dir_node_stri_hb313ec]? = some Tryz.f197 := Tryz.func197
theorem fn_slices_Reverse_L_P_dir_node_int_string_P_dir_node_int_string : P.funcs[F_slices_Reverse_L_P_dir_node_int_string_P_dir_node_int_string]? = some Tryz.f198 := Tryz.func198
theorem a_A2_int : arrI P T_A2_int = some (2, T_int, 1) := by kernel_rfl
theorem a_strings_asciiSet : arrI P T_strings_asciiSet = some (256, T_bool, 1) := by kernel_rfl
theorem e_L_P_dir_node_int_string : elemI P T_L_P_dir_node_int_string = some (T_P_dir_node_int_string, 1, 8) := by kernel_rfl
theorem e_L_P_dir_node_string_dir_Entry : elemI P T_L_P_dir_node_string_dir_Entry = some (T_P_dir_node_string_dir_Entry, 1, 8) := by kernel_rfl
theorem e_L_attr_Time : elemI P T_L_attr_Time = some (T_attr_Time, 2, 16) := by kernel_rfl
theorem e_L_core_Met : elemI P T_L_core_Met = some (T_core_Met, 2, 24) := by kernel_rfl
theorem e_L_dir_Entry : elemI P T_L_dir_Entry = some (T_dir_Entry, 3, 32) := by kernel_rfl
theorem e_L_int : elemI P T_L_int = some (T_int, 1, 8) := by kernel_rfl
theorem e_L_string : elemI P T_L_string = some (T_string, 1, 16) := by kernel_rfl
theorem e_L_struct_how_int_when_attr_Time_to_P_attr_Time : elemI P T_L_struct_how_int_when_attr_Time_to_P_attr_Time = some (T_struct_how_int_when_attr_Time_to_P_attr_Time, 4, 32) := by kernel_rfl
theorem e_L_uint8 : elemI P T_L_uint8 = some (T_uint8, 1, 1) := by kernel_rfl
theorem eqs_attr_Time : eqFs P T_attr_Time = some [.int .i64, .int .i64] := by kernel_rfl
theorem fo_api_Who_0 : fld P T_api_Who 0 = some 0 := by kernel_rfl
theorem fo_api_Who_1 : fld P T_api_Who 1 = some 1 := by kernel_rfl
theorem fo_api_Who_2 : fld P T_api_Who 2 = some 2 := by kernel_rfl
theorem fo_attr_Attr_0 : fld P T_attr_Attr 0 = some 0 := by kernel_rfl
theorem fo_attr_Attr_1 : fld P T_attr_Attr 1 = some 1 := by kernel_rfl
theorem fo_attr_Attr_10 : fld P T_attr_Attr 10 = some 10 := by kernel_rfl
theorem fo_attr_Attr_11 : fld P T_attr_Attr 11 = some 11 := by kernel_rfl
theorem fo_attr_Attr_12 : fld P T_attr_Attr 12 = some 13 := by kernel_rfl
theorem fo_attr_Attr_13 : fld P T_attr_Attr 13 = some 15 := by kernel_rfl
theorem fo_attr_Attr_2 : fld P T_attr_Attr 2 = some 2 := by kernel_rfl
theorem fo_attr_Attr_3 : fld P T_attr_Attr 3 = some 3 := by kernel_rfl
theorem fo_attr_Attr_4 : fld P T_attr_Attr 4 = some 4 := by kernel_rfl
theorem fo_attr_Attr_5 : fld P T_attr_Attr 5 = some 5 := by kernel_rfl
theorem fo_attr_Attr_6 : fld P T_attr_Attr 6 = some 6 := by kernel_rfl
theorem fo_attr_Attr_7 : fld P T_attr_Attr 7 = some 7 := by kernel_rfl
theorem fo_attr_Attr_8 : fld P T_attr_Attr 8 = some 8 := by kernel_rfl
theorem fo_attr_Attr_9 : fld P T_attr_Attr 9 = some 9 := by kernel_rfl
theorem fo_attr_Set_0 : fld P T_attr_Set 0 = some 0 := by kernel_rfl
theorem fo_attr_Set_1 : fld P T_attr_Set 1 = some 1 := by kernel_rfl
theorem fo_attr_Set_10 : fld P T_attr_Set 10 = some 10 := by kernel_rfl
theorem fo_attr_Set_11 : fld P T_attr_Set 11 = some 12 := by kernel_rfl
theorem fo_attr_Set_2 : fld P T_attr_Set 2 = some 2 := by kernel_rfl
theorem fo_attr_Set_3 : fld P T_attr_Set 3 = some 3 := by kernel_rfl
theorem fo_attr_Set_4 : fld P T_attr_Set 4 = some 4 := by kernel_rfl
theorem fo_attr_Set_5 : fld P T_attr_Set 5 = some 5 := by kernel_rfl
theorem fo_attr_Set_6 : fld P T_attr_Set 6 = some 6 := by kernel_rfl
theorem fo_attr_Set_7 : fld P T_attr_Set 7 = some 7 := by kernel_rfl
theorem fo_attr_Set_8 : fld P T_attr_Set 8 = some 8 := by kernel_rfl
theorem fo_attr_Set_9 : fld P T_attr_Set 9 = some 9 := by kernel_rfl
theorem fo_coraclelaw13_Act_1 : fld P T_coraclelaw13_Act 1 = some 1 := by kernel_rfl
theorem fo_coraclelaw13_Act_10 : fld P T_coraclelaw13_Act 10 = some 25 := by kernel_rfl
theorem fo_coraclelaw13_Act_5 : fld P T_coraclelaw13_Act 5 = some 5 := by kernel_rfl
theorem fo_coraclelaw13_Act_9 : fld P T_coraclelaw13_Act 9 = some 22 := by kernel_rfl
theorem fo_coraclelaw13_Who_0 : fld P T_coraclelaw13_Who 0 = some 0 := by kernel_rfl
theorem fo_coraclelaw13_Who_1 : fld P T_coraclelaw13_Who 1 = some 1 := by kernel_rfl
theorem fo_coraclelaw13_Who_2 : fld P T_coraclelaw13_Who 2 = some 2 := by kernel_rfl
theorem fo_core_Caller_0 : fld P T_core_Caller 0 = some 0 := by kernel_rfl
theorem fo_core_Caller_1 : fld P T_core_Caller 1 = some 3 := by kernel_rfl
theorem fo_core_FS_0 : fld P T_core_FS 0 = some 0 := by kernel_rfl
theorem fo_core_FS_1 : fld P T_core_FS 1 = some 1 := by kernel_rfl
theorem fo_core_FS_2 : fld P T_core_FS 2 = some 2 := by kernel_rfl
theorem fo_core_Met_0 : fld P T_core_Met 0 = some 0 := by kernel_rfl
theorem fo_core_Met_1 : fld P T_core_Met 1 = some 1 := by kernel_rfl
theorem fo_core_Node_0 : fld P T_core_Node 0 = some 0 := by kernel_rfl
theorem fo_core_Node_1 : fld P T_core_Node 1 = some 17 := by kernel_rfl
theorem fo_core_Node_2 : fld P T_core_Node 2 = some 18 := by kernel_rfl
theorem fo_core_Node_3 : fld P T_core_Node 3 = some 19 := by kernel_rfl
theorem fo_core_Node_4 : fld P T_core_Node 4 = some 20 := by kernel_rfl
theorem fo_dir_Dir_0 : fld P T_dir_Dir 0 = some 0 := by kernel_rfl
theorem fo_dir_Dir_1 : fld P T_dir_Dir 1 = some 2 := by kernel_rfl
theorem fo_dir_Dir_2 : fld P T_dir_Dir 2 = some 4 := by kernel_rfl
theorem fo_dir_Entry_0 : fld P T_dir_Entry 0 = some 0 := by kernel_rfl
theorem fo_dir_Entry_1 : fld P T_dir_Entry 1 = some 1 := by kernel_rfl
theorem fo_dir_Entry_2 : fld P T_dir_Entry 2 = some 2 := by kernel_rfl
theorem fo_dir_node_int_string_0 : fld P T_dir_node_int_string 0 = some 0 := by kernel_rfl
theorem fo_dir_node_int_string_1 : fld P T_dir_node_int_string 1 = some 1 := by kernel_rfl
theorem fo_dir_node_int_string_2 : fld P T_dir_node_int_string 2 = some 2 := by kernel_rfl
theorem fo_dir_node_string_dir_Entry_0 : fld P T_dir_node_string_dir_Entry 0 = some 0 := by kernel_rfl
theorem fo_dir_node_string_dir_Entry_1 : fld P T_dir_node_string_dir_Entry 1 = some 1 := by kernel_rfl
theorem fo_dir_node_string_dir_Entry_2 : fld P T_dir_node_string_dir_Entry 2 = some 2 := by kernel_rfl
theorem fo_dir_tree_int_string_0 : fld P T_dir_tree_int_string 0 = some 0 := by kernel_rfl
theorem fo_dir_tree_int_string_1 : fld P T_dir_tree_int_string 1 = some 1 := by kernel_rfl
theorem fo_dir_tree_string_dir_Entry_0 : fld P T_dir_tree_string_dir_Entry 0 = some 0 := by kernel_rfl
theorem fo_dir_tree_string_dir_Entry_1 : fld P T_dir_tree_string_dir_Entry 1 = some 1 := by kernel_rfl
theorem fo_strings_Builder_0 : fld P T_strings_Builder 0 = some 0 := by kernel_rfl
theorem fo_strings_Builder_1 : fld P T_strings_Builder 1 = some 1 := by kernel_rfl
theorem fo_struct_how_int_when_attr_Time_to_P_attr_Time_0 : fld P T_struct_how_int_when_attr_Time_to_P_attr_Time 0 = some 0 := by kernel_rfl
theorem fo_struct_how_int_when_attr_Time_to_P_attr_Time_1 : fld P T_struct_how_int_when_attr_Time_to_P_attr_Time 1 = some 1 := by kernel_rfl
theorem fo_struct_how_int_when_attr_Time_to_P_attr_Time_2 : fld P T_struct_how_int_when_attr_Time_to_P_attr_Time 2 = some 3 := by kernel_rfl
theorem g_attr_Attr : aggN P T_attr_Attr = some 17 := by kernel_rfl
theorem g_attr_Set : aggN P T_attr_Set = some 14 := by kernel_rfl
theorem g_attr_Time : aggN P T_attr_Time = some 2 := by kernel_rfl
theorem g_coraclelaw13_Act : aggN P T_coraclelaw13_Act = some 27 := by kernel_rfl
theorem g_coracleref13_Caller : aggN P T_coracleref13_Caller = some 4 := by kernel_rfl
theorem g_core_Caller : aggN P T_core_Caller = some 4 := by kernel_rfl
theorem g_core_Met : aggN P T_core_Met = some 2 := by kernel_rfl
theorem g_core_Node : aggN P T_core_Node = some 21 := by kernel_rfl
theorem g_dir_Entry : aggN P T_dir_Entry = some 3 := by kernel_rfl
theorem g_strings_asciiSet : aggN P T_strings_asciiSet = some 256 := by kernel_rfl
theorem g_struct_how_int_when_attr_Time_to_P_attr_Time : aggN P T_struct_how_int_when_attr_Time_to_P_attr_Time = some 4 := by kernel_rfl
theorem hb_attr_May : hasBody P F_attr_May = true := by kernel_rfl
theorem hb_bytealg_CompareString : hasBody P F_bytealg_CompareString = true := by kernel_rfl
theorem hb_bytealg_Cutover : hasBody P F_bytealg_Cutover = true := by kernel_rfl
theorem hb_cmp_Less_int : hasBody P F_cmp_Less_int = true := by kernel_rfl
theorem hb_cmp_Less_string : hasBody P F_cmp_Less_string = true := by kernel_rfl
theorem hb_cmp_isNaN_int : hasBody P F_cmp_isNaN_int = true := by kernel_rfl
theorem hb_cmp_isNaN_string : hasBody P F_cmp_isNaN_string = true := by kernel_rfl
theorem hb_coraclelaw13_caller : hasBody P F_coraclelaw13_caller = true := by kernel_rfl
theorem hb_coraclelaw13_speaks : hasBody P F_coraclelaw13_speaks = true := by kernel_rfl
theorem hb_core_Caller_may : hasBody P F_core_Caller_may = true := by kernel_rfl
theorem hb_core_Caller_owns : hasBody P F_core_Caller_owns = true := by kernel_rfl
theorem hb_core_Caller_set : hasBody P F_core_Caller_set = true := by kernel_rfl
theorem hb_core_Caller_settable : hasBody P F_core_Caller_settable = true := by kernel_rfl
theorem hb_core_Caller_time : hasBody P F_core_Caller_time = true := by kernel_rfl
theorem hb_core_FS_Clone : hasBody P F_core_FS_Clone = true := by kernel_rfl
theorem hb_core_FS_Create : hasBody P F_core_FS_Create = true := by kernel_rfl
theorem hb_core_FS_IDs : hasBody P F_core_FS_IDs = true := by kernel_rfl
theorem hb_core_FS_Last : hasBody P F_core_FS_Last = true := by kernel_rfl
theorem hb_core_FS_Load : hasBody P F_core_FS_Load = true := by kernel_rfl
theorem hb_core_FS_Lookup : hasBody P F_core_FS_Lookup = true := by kernel_rfl
theorem hb_core_FS_Make : hasBody P F_core_FS_Make = true := by kernel_rfl
theorem hb_core_FS_Met : hasBody P F_core_FS_Met = true := by kernel_rfl
theorem hb_core_FS_Node : hasBody P F_core_FS_Node = true := by kernel_rfl
theorem hb_core_FS_Read : hasBody P F_core_FS_Read = true := by kernel_rfl
theorem hb_core_FS_Readdir : hasBody P F_core_FS_Readdir = true := by kernel_rfl
theorem hb_core_FS_Remove : hasBody P F_core_FS_Remove = true := by kernel_rfl
theorem hb_core_FS_SetAttr : hasBody P F_core_FS_SetAttr = true := by kernel_rfl
theorem hb_core_FS_Write : hasBody P F_core_FS_Write = true := by kernel_rfl
theorem hb_core_FS_add : hasBody P F_core_FS_add = true := by kernel_rfl
theorem hb_core_FS_changed : hasBody P F_core_FS_changed = true := by kernel_rfl
theorem hb_core_FS_dir : hasBody P F_core_FS_dir = true := by kernel_rfl
theorem hb_core_FS_file : hasBody P F_core_FS_file = true := by kernel_rfl
theorem hb_core_FS_get : hasBody P F_core_FS_get = true := by kernel_rfl
theorem hb_core_FS_lose : hasBody P F_core_FS_lose = true := by kernel_rfl
theorem hb_core_FS_named : hasBody P F_core_FS_named = true := by kernel_rfl
theorem hb_core_FS_spot : hasBody P F_core_FS_spot = true := by kernel_rfl
theorem hb_core_FS_touch : hasBody P F_core_FS_touch = true := by kernel_rfl
theorem hb_core_New : hasBody P F_core_New = true := by kernel_rfl
theorem hb_core_Node_fill : hasBody P F_core_Node_fill = true := by kernel_rfl
theorem hb_core_cut : hasBody P F_core_cut = true := by kernel_rfl
theorem hb_core_sizable : hasBody P F_core_sizable = true := by kernel_rfl
theorem hb_dir_Dir_Add : hasBody P F_dir_Dir_Add = true := by kernel_rfl
theorem hb_dir_Dir_After : hasBody P F_dir_Dir_After = true := by kernel_rfl
theorem hb_dir_Dir_After_c1 : hasBody P F_dir_Dir_After_c1 = true := by kernel_rfl
theorem hb_dir_Dir_Clone : hasBody P F_dir_Dir_Clone = true := by kernel_rfl
theorem hb_dir_Dir_Get : hasBody P F_dir_Dir_Get = true := by kernel_rfl
theorem hb_dir_Dir_Len : hasBody P F_dir_Dir_Len = true := by kernel_rfl
theorem hb_dir_Dir_Next : hasBody P F_dir_Dir_Next = true := by kernel_rfl
theorem hb_dir_Dir_Remove : hasBody P F_dir_Dir_Remove = true := by kernel_rfl
theorem hb_dir_Dir_free : hasBody P F_dir_Dir_free = true := by kernel_rfl
theorem hb_dir_Dir_lay : hasBody P F_dir_Dir_lay = true := by kernel_rfl
theorem hb_dir_node_int_string_cut : hasBody P F_dir_node_int_string_cut = true := by kernel_rfl
theorem hb_dir_node_int_string_full : hasBody P F_dir_node_int_string_full = true := by kernel_rfl
theorem hb_dir_node_int_string_greatest : hasBody P F_dir_node_int_string_greatest = true := by kernel_rfl
theorem hb_dir_node_int_string_left : hasBody P F_dir_node_int_string_left = true := by kernel_rfl
theorem hb_dir_node_int_string_merge : hasBody P F_dir_node_int_string_merge = true := by kernel_rfl
theorem hb_dir_node_int_string_right : hasBody P F_dir_node_int_string_right = true := by kernel_rfl
theorem hb_dir_node_int_string_spare : hasBody P F_dir_node_int_string_spare = true := by kernel_rfl
theorem hb_dir_node_int_string_split : hasBody P F_dir_node_int_string_split = true := by kernel_rfl
theorem hb_dir_node_int_string_twin : hasBody P F_dir_node_int_string_twin = true := by kernel_rfl
theorem hb_dir_node_int_string_walk : hasBody P F_dir_node_int_string_walk = true := by kernel_rfl
theorem hb_dir_node_string_dir_Entry_cut : hasBody P F_dir_node_string_dir_Entry_cut = true := by kernel_rfl
theorem hb_dir_node_string_dir_Entry_full : hasBody P F_dir_node_string_dir_Entry_full = true := by kernel_rfl
theorem hb_dir_node_string_dir_Entry_greatest : hasBody P F_dir_node_string_dir_Entry_greatest = true := by kernel_rfl
theorem hb_dir_node_string_dir_Entry_left : hasBody P F_dir_node_string_dir_Entry_left = true := by kernel_rfl
theorem hb_dir_node_string_dir_Entry_merge : hasBody P F_dir_node_string_dir_Entry_merge = true := by kernel_rfl
theorem hb_dir_node_string_dir_Entry_right : hasBody P F_dir_node_string_dir_Entry_right = true := by kernel_rfl
theorem hb_dir_node_string_dir_Entry_spare : hasBody P F_dir_node_string_dir_Entry_spare = true := by kernel_rfl
theorem hb_dir_node_string_dir_Entry_split : hasBody P F_dir_node_string_dir_Entry_split = true := by kernel_rfl
theorem hb_dir_node_string_dir_Entry_twin : hasBody P F_dir_node_string_dir_Entry_twin = true := by kernel_rfl
theorem hb_dir_tree_int_string_height : hasBody P F_dir_tree_int_string_height = true := by kernel_rfl
theorem hb_dir_tree_int_string_put : hasBody P F_dir_tree_int_string_put = true := by kernel_rfl
theorem hb_dir_tree_int_string_remove : hasBody P F_dir_tree_int_string_remove = true := by kernel_rfl
theorem hb_dir_tree_string_dir_Entry_get : hasBody P F_dir_tree_string_dir_Entry_get = true := by kernel_rfl
theorem hb_dir_tree_string_dir_Entry_height : hasBody P F_dir_tree_string_dir_Entry_height = true := by kernel_rfl
theorem hb_dir_tree_string_dir_Entry_put : hasBody P F_dir_tree_string_dir_Entry_put = true := by kernel_rfl
theorem hb_dir_tree_string_dir_Entry_remove : hasBody P F_dir_tree_string_dir_Entry_remove = true := by kernel_rfl
theorem hb_maps_Clone_M_core_Met_int_core_Met_int : hasBody P F_maps_Clone_M_core_Met_int_core_Met_int = true := by kernel_rfl
theorem hb_maps_Keys_M_core_Met_int_core_Met_int : hasBody P F_maps_Keys_M_core_Met_int_core_Met_int = true := by kernel_rfl
theorem hb_maps_Keys_M_core_Met_int_core_Met_int_c1 : hasBody P F_maps_Keys_M_core_Met_int_core_Met_int_c1 = true := by kernel_rfl
theorem hb_maps_Keys_M_int_P_core_Node_int_P_core_Node : hasBody P F_maps_Keys_M_int_P_core_Node_int_P_core_Node = true := by kernel_rfl
theorem hb_maps_Keys_M_int_P_core_Node_int_P_core_Node_c1 : hasBody P F_maps_Keys_M_int_P_core_Node_int_P_core_Node_c1 = true := by kernel_rfl
theorem hb_math_bits_Len : hasBody P F_math_bits_Len = true := by kernel_rfl
theorem hb_math_bits_Len32 : hasBody P F_math_bits_Len32 = true := by kernel_rfl
theorem hb_math_bits_Len64 : hasBody P F_math_bits_Len64 = true := by kernel_rfl
theorem hb_math_bits_Mul : hasBody P F_math_bits_Mul = true := by kernel_rfl
theorem hb_math_bits_Mul32 : hasBody P F_math_bits_Mul32 = true := by kernel_rfl
theorem hb_math_bits_Mul64 : hasBody P F_math_bits_Mul64 = true := by kernel_rfl
theorem hb_name_Check : hasBody P F_name_Check = true := by kernel_rfl
theorem hb_slices_AppendSeq_L_core_Met_core_Met : hasBody P F_slices_AppendSeq_L_core_Met_core_Met = true := by kernel_rfl
theorem hb_slices_AppendSeq_L_int_int : hasBody P F_slices_AppendSeq_L_int_int = true := by kernel_rfl
theorem hb_slices_BinarySearch_L_int_int : hasBody P F_slices_BinarySearch_L_int_int = true := by kernel_rfl
theorem hb_slices_BinarySearch_L_string_string : hasBody P F_slices_BinarySearch_L_string_string = true := by kernel_rfl
theorem hb_slices_Clone_L_P_dir_node_int_string_P_dir_node_int_string : hasBody P F_slices_Clone_L_P_dir_node_int_string_P_dir_node_int_string = true := by kernel_rfl
theorem hb_slices_Clone_L_P_dir_node_string_dir_Entry_P_dir_node_string_dir_Entry : hasBody P F_slices_Clone_L_P_dir_node_string_dir_Entry_P_dir_node_string_dir_Entry = true := by kernel_rfl
theorem hb_slices_Clone_L_dir_Entry_dir_Entry : hasBody P F_slices_Clone_L_dir_Entry_dir_Entry = true := by kernel_rfl
theorem hb_slices_Clone_L_int_int : hasBody P F_slices_Clone_L_int_int = true := by kernel_rfl
theorem hb_slices_Clone_L_string_string : hasBody P F_slices_Clone_L_string_string = true := by kernel_rfl
theorem hb_slices_Collect_core_Met : hasBody P F_slices_Collect_core_Met = true := by kernel_rfl
theorem hb_slices_Collect_int : hasBody P F_slices_Collect_int = true := by kernel_rfl
theorem hb_slices_Contains_L_int_int : hasBody P F_slices_Contains_L_int_int = true := by kernel_rfl
theorem hb_slices_Delete_L_P_dir_node_int_string_P_dir_node_int_string : hasBody P F_slices_Delete_L_P_dir_node_int_string_P_dir_node_int_string = true := by kernel_rfl
theorem hb_slices_Delete_L_P_dir_node_string_dir_Entry_P_dir_node_strin_h545c8b : hasBody P F_slices_Delete_L_P_dir_node_string_dir_Entry_P_dir_node_strin_h545c8b = true := by kernel_rfl
theorem hb_slices_Delete_L_dir_Entry_dir_Entry : hasBody P F_slices_Delete_L_dir_Entry_dir_Entry = true := by kernel_rfl
theorem hb_slices_Delete_L_int_int : hasBody P F_slices_Delete_L_int_int = true := by kernel_rfl
theorem hb_slices_Delete_L_string_string : hasBody P F_slices_Delete_L_string_string = true := by kernel_rfl
theorem hb_slices_Index_L_int_int : hasBody P F_slices_Index_L_int_int = true := by kernel_rfl
theorem hb_slices_Insert_L_P_dir_node_int_string_P_dir_node_int_string : hasBody P F_slices_Insert_L_P_dir_node_int_string_P_dir_node_int_string = true := by kernel_rfl
theorem hb_slices_Insert_L_P_dir_node_string_dir_Entry_P_dir_node_strin_h5e5b72 : hasBody P F_slices_Insert_L_P_dir_node_string_dir_Entry_P_dir_node_strin_h5e5b72 = true := by kernel_rfl
theorem hb_slices_Insert_L_dir_Entry_dir_Entry : hasBody P F_slices_Insert_L_dir_Entry_dir_Entry = true := by kernel_rfl
theorem hb_slices_Insert_L_int_int : hasBody P F_slices_Insert_L_int_int = true := by kernel_rfl
theorem hb_slices_Insert_L_string_string : hasBody P F_slices_Insert_L_string_string = true := by kernel_rfl
theorem hb_slices_Reverse_L_P_dir_node_int_string_P_dir_node_int_string : hasBody P F_slices_Reverse_L_P_dir_node_int_string_P_dir_node_int_string = true := by kernel_rfl
theorem hb_slices_Reverse_L_P_dir_node_string_dir_Entry_P_dir_node_stri_hb313ec : hasBody P F_slices_Reverse_L_P_dir_node_string_dir_Entry_P_dir_node_stri_hb313ec = true := by kernel_rfl
theorem hb_slices_Reverse_L_dir_Entry_dir_Entry : hasBody P F_slices_Reverse_L_dir_Entry_dir_Entry = true := by kernel_rfl
theorem hb_slices_Reverse_L_int_int : hasBody P F_slices_Reverse_L_int_int = true := by kernel_rfl
theorem hb_slices_Reverse_L_string_string : hasBody P F_slices_Reverse_L_string_string = true := by kernel_rfl
theorem hb_slices_SortFunc_L_core_Met_core_Met : hasBody P F_slices_SortFunc_L_core_Met_core_Met = true := by kernel_rfl
theorem hb_slices_Sort_L_int_int : hasBody P F_slices_Sort_L_int_int = true := by kernel_rfl
theorem hb_slices_SortedFunc_core_Met : hasBody P F_slices_SortedFunc_core_Met = true := by kernel_rfl
theorem hb_slices_Sorted_int : hasBody P F_slices_Sorted_int = true := by kernel_rfl
theorem hb_slices_breakPatternsCmpFunc_core_Met : hasBody P F_slices_breakPatternsCmpFunc_core_Met = true := by kernel_rfl
theorem hb_slices_breakPatternsOrdered_int : hasBody P F_slices_breakPatternsOrdered_int = true := by kernel_rfl
theorem hb_slices_choosePivotCmpFunc_core_Met : hasBody P F_slices_choosePivotCmpFunc_core_Met = true := by kernel_rfl
theorem hb_slices_choosePivotOrdered_int : hasBody P F_slices_choosePivotOrdered_int = true := by kernel_rfl
theorem hb_slices_heapSortCmpFunc_core_Met : hasBody P F_slices_heapSortCmpFunc_core_Met = true := by kernel_rfl
theorem hb_slices_heapSortOrdered_int : hasBody P F_slices_heapSortOrdered_int = true := by kernel_rfl
theorem hb_slices_insertionSortCmpFunc_core_Met : hasBody P F_slices_insertionSortCmpFunc_core_Met = true := by kernel_rfl
theorem hb_slices_insertionSortOrdered_int : hasBody P F_slices_insertionSortOrdered_int = true := by kernel_rfl
theorem hb_slices_isNaN_int : hasBody P F_slices_isNaN_int = true := by kernel_rfl
theorem hb_slices_isNaN_string : hasBody P F_slices_isNaN_string = true := by kernel_rfl
theorem hb_slices_medianAdjacentCmpFunc_core_Met : hasBody P F_slices_medianAdjacentCmpFunc_core_Met = true := by kernel_rfl
theorem hb_slices_medianAdjacentOrdered_int : hasBody P F_slices_medianAdjacentOrdered_int = true := by kernel_rfl
theorem hb_slices_medianCmpFunc_core_Met : hasBody P F_slices_medianCmpFunc_core_Met = true := by kernel_rfl
theorem hb_slices_medianOrdered_int : hasBody P F_slices_medianOrdered_int = true := by kernel_rfl
theorem hb_slices_nextPowerOfTwo : hasBody P F_slices_nextPowerOfTwo = true := by kernel_rfl
theorem hb_slices_order2CmpFunc_core_Met : hasBody P F_slices_order2CmpFunc_core_Met = true := by kernel_rfl
theorem hb_slices_order2Ordered_int : hasBody P F_slices_order2Ordered_int = true := by kernel_rfl
theorem hb_slices_partialInsertionSortCmpFunc_core_Met : hasBody P F_slices_partialInsertionSortCmpFunc_core_Met = true := by kernel_rfl
theorem hb_slices_partialInsertionSortOrdered_int : hasBody P F_slices_partialInsertionSortOrdered_int = true := by kernel_rfl
theorem hb_slices_partitionCmpFunc_core_Met : hasBody P F_slices_partitionCmpFunc_core_Met = true := by kernel_rfl
theorem hb_slices_partitionEqualCmpFunc_core_Met : hasBody P F_slices_partitionEqualCmpFunc_core_Met = true := by kernel_rfl
theorem hb_slices_partitionEqualOrdered_int : hasBody P F_slices_partitionEqualOrdered_int = true := by kernel_rfl
theorem hb_slices_partitionOrdered_int : hasBody P F_slices_partitionOrdered_int = true := by kernel_rfl
theorem hb_slices_pdqsortCmpFunc_core_Met : hasBody P F_slices_pdqsortCmpFunc_core_Met = true := by kernel_rfl
theorem hb_slices_pdqsortOrdered_int : hasBody P F_slices_pdqsortOrdered_int = true := by kernel_rfl
theorem hb_slices_reverseRangeCmpFunc_core_Met : hasBody P F_slices_reverseRangeCmpFunc_core_Met = true := by kernel_rfl
theorem hb_slices_reverseRangeOrdered_int : hasBody P F_slices_reverseRangeOrdered_int = true := by kernel_rfl
theorem hb_slices_rotateLeft_P_dir_node_int_string : hasBody P F_slices_rotateLeft_P_dir_node_int_string = true := by kernel_rfl
theorem hb_slices_rotateLeft_P_dir_node_string_dir_Entry : hasBody P F_slices_rotateLeft_P_dir_node_string_dir_Entry = true := by kernel_rfl
theorem hb_slices_rotateLeft_dir_Entry : hasBody P F_slices_rotateLeft_dir_Entry = true := by kernel_rfl
theorem hb_slices_rotateLeft_int : hasBody P F_slices_rotateLeft_int = true := by kernel_rfl
theorem hb_slices_rotateLeft_string : hasBody P F_slices_rotateLeft_string = true := by kernel_rfl
theorem hb_slices_rotateRight_P_dir_node_int_string : hasBody P F_slices_rotateRight_P_dir_node_int_string = true := by kernel_rfl
theorem hb_slices_rotateRight_P_dir_node_string_dir_Entry : hasBody P F_slices_rotateRight_P_dir_node_string_dir_Entry = true := by kernel_rfl
theorem hb_slices_rotateRight_dir_Entry : hasBody P F_slices_rotateRight_dir_Entry = true := by kernel_rfl
theorem hb_slices_rotateRight_int : hasBody P F_slices_rotateRight_int = true := by kernel_rfl
theorem hb_slices_rotateRight_string : hasBody P F_slices_rotateRight_string = true := by kernel_rfl
theorem hb_slices_siftDownCmpFunc_core_Met : hasBody P F_slices_siftDownCmpFunc_core_Met = true := by kernel_rfl
theorem hb_slices_siftDownOrdered_int : hasBody P F_slices_siftDownOrdered_int = true := by kernel_rfl
theorem hb_slices_xorshift_Next : hasBody P F_slices_xorshift_Next = true := by kernel_rfl
theorem hb_strings_Builder_Grow : hasBody P F_strings_Builder_Grow = true := by kernel_rfl
theorem hb_strings_Builder_Len : hasBody P F_strings_Builder_Len = true := by kernel_rfl
theorem hb_strings_Builder_String : hasBody P F_strings_Builder_String = true := by kernel_rfl
theorem hb_strings_Builder_WriteString : hasBody P F_strings_Builder_WriteString = true := by kernel_rfl
theorem hb_strings_Builder_copyCheck : hasBody P F_strings_Builder_copyCheck = true := by kernel_rfl
theorem hb_strings_Builder_grow : hasBody P F_strings_Builder_grow = true := by kernel_rfl
theorem hb_strings_Compare : hasBody P F_strings_Compare = true := by kernel_rfl
theorem hb_strings_ContainsAny : hasBody P F_strings_ContainsAny = true := by kernel_rfl
theorem hb_strings_HasPrefix : hasBody P F_strings_HasPrefix = true := by kernel_rfl
theorem hb_strings_IndexAny : hasBody P F_strings_IndexAny = true := by kernel_rfl
theorem hb_strings_IndexByte : hasBody P F_strings_IndexByte = true := by kernel_rfl
theorem hb_strings_IndexRune : hasBody P F_strings_IndexRune = true := by kernel_rfl
theorem hb_strings_Repeat : hasBody P F_strings_Repeat = true := by kernel_rfl
theorem hb_strings_asciiSet_contains : hasBody P F_strings_asciiSet_contains = true := by kernel_rfl
theorem hb_strings_makeASCIISet : hasBody P F_strings_makeASCIISet = true := by kernel_rfl
theorem hb_strings_shouldUseASCIISet : hasBody P F_strings_shouldUseASCIISet = true := by kernel_rfl
theorem hb_stringslite_HasPrefix : hasBody P F_stringslite_HasPrefix = true := by kernel_rfl
theorem hb_stringslite_IndexByte : hasBody P F_stringslite_IndexByte = true := by kernel_rfl
theorem hb_unicode_utf8_ValidRune : hasBody P F_unicode_utf8_ValidRune = true := by kernel_rfl
theorem m_M_core_Met_int : mapI P T_M_core_Met_int = some (T_core_Met, T_int) := by kernel_rfl
theorem m_M_int_P_core_Node : mapI P T_M_int_P_core_Node = some (T_int, T_P_core_Node) := by kernel_rfl
theorem o_L_P_dir_node_int_string : one P T_L_P_dir_node_int_string = true := by kernel_rfl
theorem o_L_P_dir_node_string_dir_Entry : one P T_L_P_dir_node_string_dir_Entry = true := by kernel_rfl
theorem o_L_core_Met : one P T_L_core_Met = true := by kernel_rfl
theorem o_L_dir_Entry : one P T_L_dir_Entry = true := by kernel_rfl
theorem o_L_int : one P T_L_int = true := by kernel_rfl
theorem o_L_string : one P T_L_string = true := by kernel_rfl
theorem o_L_uint8 : one P T_L_uint8 = true := by kernel_rfl
theorem o_M_core_Met_int : one P T_M_core_Met_int = true := by kernel_rfl
theorem o_M_int_P_core_Node : one P T_M_int_P_core_Node = true := by kernel_rfl
theorem o_P_attr_Time : one P T_P_attr_Time = true := by kernel_rfl
theorem o_P_dir_Dir : one P T_P_dir_Dir = true := by kernel_rfl
theorem o_P_dir_node_int_string : one P T_P_dir_node_int_string = true := by kernel_rfl
theorem o_P_dir_node_string_dir_Entry : one P T_P_dir_node_string_dir_Entry = true := by kernel_rfl
theorem o_P_strings_Builder : one P T_P_strings_Builder = true := by kernel_rfl
theorem o_bool : one P T_bool = true := by kernel_rfl
theorem o_int : one P T_int = true := by kernel_rfl
theorem o_slices_xorshift : one P T_slices_xorshift = true := by kernel_rfl
theorem o_string : one P T_string = true := by kernel_rfl
theorem o_uint8 : one P T_uint8 = true := by kernel_rfl
theorem p_api_Who : plc P T_api_Who = some [(0, 1), (1, 1), (2, 1)] := by kernel_rfl
theorem p_attr_Attr : plc P T_attr_Attr = some [(0, 1), (1, 1), (2, 1), (3, 1), (4, 1), (5, 1), (6, 1), (7, 1), (8, 1), (9, 1), (10, 1), (11, 2), (13, 2), (15, 2)] := by kernel_rfl
theorem p_attr_Set : plc P T_attr_Set = some [(0, 1), (1, 1), (2, 1), (3, 1), (4, 1), (5, 1), (6, 1), (7, 1), (8, 1), (9, 1), (10, 2), (12, 2)] := by kernel_rfl
theorem p_attr_Time : plc P T_attr_Time = some [(0, 1), (1, 1)] := by kernel_rfl
theorem p_coracleref13_Caller : plc P T_coracleref13_Caller = some [(0, 1), (1, 1), (2, 1), (3, 1)] := by kernel_rfl
theorem p_core_Caller : plc P T_core_Caller = some [(0, 3), (3, 1)] := by kernel_rfl
theorem p_core_FS : plc P T_core_FS = some [(0, 1), (1, 1), (2, 1)] := by kernel_rfl
theorem p_core_Met : plc P T_core_Met = some [(0, 1), (1, 1)] := by kernel_rfl
theorem p_core_Node : plc P T_core_Node = some [(0, 17), (17, 1), (18, 1), (19, 1), (20, 1)] := by kernel_rfl
theorem p_dir_Dir : plc P T_dir_Dir = some [(0, 2), (2, 2), (4, 1)] := by kernel_rfl
theorem p_dir_Entry : plc P T_dir_Entry = some [(0, 1), (1, 1), (2, 1)] := by kernel_rfl
theorem p_dir_node_int_string : plc P T_dir_node_int_string = some [(0, 1), (1, 1), (2, 1)] := by kernel_rfl
theorem p_dir_node_string_dir_Entry : plc P T_dir_node_string_dir_Entry = some [(0, 1), (1, 1), (2, 1)] := by kernel_rfl
theorem p_dir_tree_int_string : plc P T_dir_tree_int_string = some [(0, 1), (1, 1)] := by kernel_rfl
theorem p_dir_tree_string_dir_Entry : plc P T_dir_tree_string_dir_Entry = some [(0, 1), (1, 1)] := by kernel_rfl
theorem p_struct_how_int_when_attr_Time_to_P_attr_Time : plc P T_struct_how_int_when_attr_Time_to_P_attr_Time = some [(0, 1), (1, 2), (3, 1)] := by kernel_rfl
theorem u_A0_P_runtime_PanicNilError : P.underlying T_A0_P_runtime_PanicNilError = some (.array 0 T_P_runtime_PanicNilError) := by kernel_rfl
theorem u_A256_bool : P.underlying T_A256_bool = some (.array 256 T_bool) := by kernel_rfl
theorem u_A2_A2_int : P.underlying T_A2_A2_int = some (.array 2 T_A2_int) := by kernel_rfl
theorem u_A2_int : P.underlying T_A2_int = some (.array 2 T_int) := by kernel_rfl
theorem u_A4_bool : P.underlying T_A4_bool = some (.array 4 T_bool) := by kernel_rfl
theorem u_A4_int : P.underlying T_A4_int = some (.array 4 T_int) := by kernel_rfl
theorem u_L_P_dir_node_int_string : P.underlying T_L_P_dir_node_int_string = some (.slice T_P_dir_node_int_string) := by kernel_rfl
theorem u_L_P_dir_node_string_dir_Entry : P.underlying T_L_P_dir_node_string_dir_Entry = some (.slice T_P_dir_node_string_dir_Entry) := by kernel_rfl
theorem u_L_attr_Time : P.underlying T_L_attr_Time = some (.slice T_attr_Time) := by kernel_rfl
theorem u_L_core_Met : P.underlying T_L_core_Met = some (.slice T_core_Met) := by kernel_rfl
theorem u_L_dir_Entry : P.underlying T_L_dir_Entry = some (.slice T_dir_Entry) := by kernel_rfl
theorem u_L_int : P.underlying T_L_int = some (.slice T_int) := by kernel_rfl
theorem u_L_string : P.underlying T_L_string = some (.slice T_string) := by kernel_rfl
theorem u_L_struct_how_int_when_attr_Time_to_P_attr_Time : P.underlying T_L_struct_how_int_when_attr_Time_to_P_attr_Time = some (.slice T_struct_how_int_when_attr_Time_to_P_attr_Time) := by kernel_rfl
theorem u_L_uint8 : P.underlying T_L_uint8 = some (.slice T_uint8) := by kernel_rfl
theorem u_M_core_Met_int : P.underlying T_M_core_Met_int = some (.map T_core_Met T_int) := by kernel_rfl
theorem u_M_int_P_core_Node : P.underlying T_M_int_P_core_Node = some (.map T_int T_P_core_Node) := by kernel_rfl
theorem u_P_abi_Type : P.underlying T_P_abi_Type = some (.pointer T_abi_Type) := by kernel_rfl
theorem u_P_attr_Time : P.underlying T_P_attr_Time = some (.pointer T_attr_Time) := by kernel_rfl
theorem u_P_core_FS : P.underlying T_P_core_FS = some (.pointer T_core_FS) := by kernel_rfl
theorem u_P_core_Node : P.underlying T_P_core_Node = some (.pointer T_core_Node) := by kernel_rfl
theorem u_P_dir_Dir : P.underlying T_P_dir_Dir = some (.pointer T_dir_Dir) := by kernel_rfl
theorem u_P_dir_node_int_string : P.underlying T_P_dir_node_int_string = some (.pointer T_dir_node_int_string) := by kernel_rfl
theorem u_P_dir_node_string_dir_Entry : P.underlying T_P_dir_node_string_dir_Entry = some (.pointer T_dir_node_string_dir_Entry) := by kernel_rfl
theorem u_P_dir_tree_int_string : P.underlying T_P_dir_tree_int_string = some (.pointer T_dir_tree_int_string) := by kernel_rfl
theorem u_P_dir_tree_string_dir_Entry : P.underlying T_P_dir_tree_string_dir_Entry = some (.pointer T_dir_tree_string_dir_Entry) := by kernel_rfl
theorem u_P_int : P.underlying T_P_int = some (.pointer T_int) := by kernel_rfl
theorem u_P_runtime_PanicNilError : P.underlying T_P_runtime_PanicNilError = some (.pointer T_runtime_PanicNilError) := by kernel_rfl
theorem u_P_runtime_TypeAssertionError : P.underlying T_P_runtime_TypeAssertionError = some (.pointer T_runtime_TypeAssertionError) := by kernel_rfl
theorem u_P_slices_xorshift : P.underlying T_P_slices_xorshift = some (.pointer T_slices_xorshift) := by kernel_rfl
theorem u_P_strings_Builder : P.underlying T_P_strings_Builder = some (.pointer T_strings_Builder) := by kernel_rfl
theorem u_P_strings_asciiSet : P.underlying T_P_strings_asciiSet = some (.pointer T_strings_asciiSet) := by kernel_rfl
theorem u_P_uint8 : P.underlying T_P_uint8 = some (.pointer T_uint8) := by kernel_rfl
theorem u_abi_BoundsErrorCode : P.underlying T_abi_BoundsErrorCode = some (.int .u8) := by kernel_rfl
theorem u_abi_Kind : P.underlying T_abi_Kind = some (.int .u8) := by kernel_rfl
theorem u_abi_NameOff : P.underlying T_abi_NameOff = some (.int .i32) := by kernel_rfl
theorem u_abi_TFlag : P.underlying T_abi_TFlag = some (.int .u8) := by kernel_rfl
theorem u_abi_TypeOff : P.underlying T_abi_TypeOff = some (.int .i32) := by kernel_rfl
theorem u_api_Status : P.underlying T_api_Status = some (.int .i64) := by kernel_rfl
theorem u_bool : P.underlying T_bool = some (.bool) := by kernel_rfl
theorem u_int : P.underlying T_int = some (.int .i64) := by kernel_rfl
theorem u_int32 : P.underlying T_int32 = some (.int .i32) := by kernel_rfl
theorem u_int64 : P.underlying T_int64 = some (.int .i64) := by kernel_rfl
theorem u_runtime_errorString : P.underlying T_runtime_errorString = some (.string) := by kernel_rfl
theorem u_runtime_plainError : P.underlying T_runtime_plainError = some (.string) := by kernel_rfl
theorem u_slices_sortedHint : P.underlying T_slices_sortedHint = some (.int .i64) := by kernel_rfl
theorem u_slices_xorshift : P.underlying T_slices_xorshift = some (.int .u64) := by kernel_rfl
theorem u_string : P.underlying T_string = some (.string) := by kernel_rfl
theorem u_strings_asciiSet : P.underlying T_strings_asciiSet = some (.array 256 T_bool) := by kernel_rfl
theorem u_uint : P.underlying T_uint = some (.int .u64) := by kernel_rfl
theorem u_uint32 : P.underlying T_uint32 = some (.int .u32) := by kernel_rfl
theorem u_uint64 : P.underlying T_uint64 = some (.int .u64) := by kernel_rfl
theorem u_uint8 : P.underlying T_uint8 = some (.int .u8) := by kernel_rfl
theorem u_uintptr : P.underlying T_uintptr = some (.int .u64) := by kernel_rfl
theorem u_unsafe_Pointer : P.underlying T_unsafe_Pointer = some (.unsafePointer) := by kernel_rfl
theorem z_L_dir_Entry : zeroC P T_L_dir_Entry = some [.slice none 0 0] := by kernel_rfl
theorem z_P_dir_node_int_string : zeroC P T_P_dir_node_int_string = some [.pointer none] := by kernel_rfl
theorem z_P_dir_node_string_dir_Entry : zeroC P T_P_dir_node_string_dir_Entry = some [.pointer none] := by kernel_rfl
theorem z_api_Who : zeroC P T_api_Who = some [.int .i64 0, .int .i64 0, .slice none 0 0] := by kernel_rfl
theorem z_attr_Attr : zeroC P T_attr_Attr = some [.int .i64 0, .int .i64 0, .int .i64 0, .int .i64 0, .int .i64 0, .int .i64 0, .int .i64 0, .int .i64 0, .int .i64 0, .int .i64 0, .int .i64 0, .int .i64 0, .int .i64 0, .int .i64 0, .int .i64 0, .int .i64 0, .int .i64 0] := by kernel_rfl
theorem z_attr_Set : zeroC P T_attr_Set = some [.bool false, .bool false, .bool false, .bool false, .int .i64 0, .int .i64 0, .int .i64 0, .int .i64 0, .int .i64 0, .int .i64 0, .int .i64 0, .int .i64 0, .int .i64 0, .int .i64 0] := by kernel_rfl
theorem z_attr_Time : zeroC P T_attr_Time = some [.int .i64 0, .int .i64 0] := by kernel_rfl
theorem z_coracleref13_Caller : zeroC P T_coracleref13_Caller = some [.int .i64 0, .int .i64 0, .slice none 0 0, .int .i64 0] := by kernel_rfl
theorem z_core_Caller : zeroC P T_core_Caller = some [.int .i64 0, .int .i64 0, .slice none 0 0, .int .i64 0] := by kernel_rfl
theorem z_core_FS : zeroC P T_core_FS = some [.map none, .int .i64 0, .map none] := by kernel_rfl
theorem z_core_Met : zeroC P T_core_Met = some [.int .i64 0, S []] := by kernel_rfl
theorem z_core_Node : zeroC P T_core_Node = some [.int .i64 0, .int .i64 0, .int .i64 0, .int .i64 0, .int .i64 0, .int .i64 0, .int .i64 0, .int .i64 0, .int .i64 0, .int .i64 0, .int .i64 0, .int .i64 0, .int .i64 0, .int .i64 0, .int .i64 0, .int .i64 0, .int .i64 0, S [], S [], .int .i64 0, .pointer none] := by kernel_rfl
theorem z_dir_Dir : zeroC P T_dir_Dir = some [.pointer none, .int .i64 0, .pointer none, .int .i64 0, .int .i64 0] := by kernel_rfl
theorem z_dir_Entry : zeroC P T_dir_Entry = some [S [], .int .i64 0, .int .i64 0] := by kernel_rfl
theorem z_dir_node_int_string : zeroC P T_dir_node_int_string = some [.slice none 0 0, .slice none 0 0, .slice none 0 0] := by kernel_rfl
theorem z_dir_node_string_dir_Entry : zeroC P T_dir_node_string_dir_Entry = some [.slice none 0 0, .slice none 0 0, .slice none 0 0] := by kernel_rfl
theorem z_dir_tree_int_string : zeroC P T_dir_tree_int_string = some [.pointer none, .int .i64 0] := by kernel_rfl
theorem z_dir_tree_string_dir_Entry : zeroC P T_dir_tree_string_dir_Entry = some [.pointer none, .int .i64 0] := by kernel_rfl
theorem z_int : zeroC P T_int = some [.int .i64 0] := by kernel_rfl
theorem z_slices_xorshift : zeroC P T_slices_xorshift = some [.int .u64 0] := by kernel_rfl
theorem z_string : zeroC P T_string = some [S []] := by kernel_rfl
theorem z_strings_Builder : zeroC P T_strings_Builder = some [.pointer none, .slice none 0 0] := by kernel_rfl
theorem z_strings_asciiSet : zeroC P T_strings_asciiSet = some [.bool false, .bool false, .bool false, .bool false, .bool false, .bool false, .bool false, .bool false, .bool false, .bool false, .bool false, .bool false, .bool false, .bool false, .bool false, .bool false, .bool false, .bool false, .bool false, .bool false, .bool false, .bool false, .bool false, .bool false, .bool false, .bool false, .bool false, .bool false, .bool false, .bool false, .bool false, .bool false, .bool false, .bool false, .bool false, .bool false, .bool false, .bool false, .bool false, .bool false, .bool false, .bool false, .bool false, .bool false, .bool false, .bool false, .bool false, .bool false, .bool false, .bool false, .bool false, .bool false, .bool false, .bool false, .bool false, .bool false, .bool false, .bool false, .bool false, .bool false, .bool false, .bool false, .bool false, .bool false, .bool false, .bool false, .bool false, .bool false, .bool false, .bool false, .bool false, .bool false, .bool false, .bool false, .bool false, .bool false, .bool false, .bool false, .bool false, .bool false, .bool false, .bool false, .bool false, .bool false, .bool false, .bool false, .bool false, .bool false, .bool false, .bool false, .bool false, .bool false, .bool false, .bool false, .bool false, .bool false, .bool false, .bool false, .bool false, .bool false, .bool false, .bool false, .bool false, .bool false, .bool false, .bool false, .bool false, .bool false, .bool false, .bool false, .bool false, .bool false, .bool false, .bool false, .bool false, .bool false, .bool false, .bool false, .bool false, .bool false, .bool false, .bool false, .bool false, .bool false, .bool false, .bool false, .bool false, .bool false, .bool false, .bool false, .bool false, .bool false, .bool false, .bool false, .bool false, .bool false, .bool false, .bool false, .bool false, .bool false, .bool false, .bool false, .bool false, .bool false, .bool false, .bool false, .bool false, .bool false, .bool false, .bool false, .bool false, .bool false, .bool false, .bool false, .bool false, .bool false, .bool false, .bool false, .bool false, .bool false, .bool false, .bool false, .bool false, .bool false, .bool false, .bool false, .bool false, .bool false, .bool false, .bool false, .bool false, .bool false, .bool false, .bool false, .bool false, .bool false, .bool false, .bool false, .bool false, .bool false, .bool false, .bool false, .bool false, .bool false, .bool false, .bool false, .bool false, .bool false, .bool false, .bool false, .bool false, .bool false, .bool false, .bool false, .bool false, .bool false, .bool false, .bool false, .bool false, .bool false, .bool false, .bool false, .bool false, .bool false, .bool false, .bool false, .bool false, .bool false, .bool false, .bool false, .bool false, .bool false, .bool false, .bool false, .bool false, .bool false, .bool false, .bool false, .bool false, .bool false, .bool false, .bool false, .bool false, .bool false, .bool false, .bool false, .bool false, .bool false, .bool false, .bool false, .bool false, .bool false, .bool false, .bool false, .bool false, .bool false, .bool false, .bool false, .bool false, .bool false, .bool false, .bool false, .bool false, .bool false, .bool false, .bool false, .bool false, .bool false, .bool false, .bool false, .bool false, .bool false, .bool false, .bool false, .bool false, .bool false] := by kernel_rfl
theorem z_struct_how_int_when_attr_Time_to_P_attr_Time : zeroC P T_struct_how_int_when_attr_Time_to_P_attr_Time = some [.int .i64 0, .int .i64 0, .int .i64 0, .pointer none] := by kernel_rfl
theorem z_uint8 : zeroC P T_uint8 = some [.int .u8 0] := by kernel_rfl
theorem zv_P_core_Node : zeroV P T_P_core_Node = some (.pointer none) := by kernel_rfl
end Go.Proofs.YteeiccjglmehcaaGreat
