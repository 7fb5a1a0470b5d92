/- The names of the functions and types of this translation, and the facts on types and functions that the walks use: each is read off the program by the kernel. Printed by gen.py. -/
import Derived.Test.YthlfbndanknnmaaDoorProg
import Derived.Test.YthlfbndanknnmaaDoorSx11
namespace Go.Proofs.YthlfbndanknnmaaDoor
open Go Go.Sx
noncomputable abbrev P : Program := Tryd.prog
abbrev T_unit : TypeId := 0
abbrev T_func : TypeId := 1
abbrev T_int64 : TypeId := 2
abbrev T_int : TypeId := 3
abbrev T_bool : TypeId := 4
abbrev T_uint8 : TypeId := 5
abbrev T_abi_BoundsErrorCode : TypeId := 6
abbrev T_struct_x_int64_y_int_signed_bool_code_abi_BoundsErrorCode : TypeId := 7
abbrev T_runtime_boundsError : TypeId := 8
abbrev T_string : TypeId := 9
abbrev T_runtime_errorString : TypeId := 10
abbrev T_runtime_plainError : TypeId := 11
abbrev T_uintptr : TypeId := 12
abbrev T_struct_msg_string_addr_uintptr : TypeId := 13
abbrev T_runtime_errorAddressString : TypeId := 14
abbrev T_P_runtime_TypeAssertionError : TypeId := 15
abbrev T_P_runtime_PanicNilError : TypeId := 16
abbrev T_P_abi_Type : TypeId := 17
abbrev T_struct_typ_P_abi_Type : TypeId := 18
abbrev T_maps_unhashableTypeError : TypeId := 19
abbrev T_interface : TypeId := 20
abbrev T_int32 : TypeId := 21
abbrev T_L_coraclelaw05_Act : TypeId := 22
abbrev T_func_bool : TypeId := 23
abbrev T_P_sector_Disk : TypeId := 24
abbrev T_P_sector_Disk_int : TypeId := 25
abbrev T_func_int_P_sector_Disk_int : TypeId := 26
abbrev T_P_coracleref05_Log : TypeId := 27
abbrev T_L_int : TypeId := 28
abbrev T_struct_Segs_int_IDs_L_int_Used_L_int_Seq_int_Boot__hc478ed : TypeId := 29
abbrev T_coracleref05_Log : TypeId := 30
abbrev T_api_Errno : TypeId := 31
abbrev T_func_P_sector_Disk_api_Errno : TypeId := 32
abbrev T_P_seglog_Log : TypeId := 33
abbrev T_L_seglog_Record : TypeId := 34
abbrev T_P_seglog_Log_L_seglog_Record_api_Errno : TypeId := 35
abbrev T_func_P_sector_Disk_P_seglog_Log_L_seglog_Record_api_Errno : TypeId := 36
abbrev T_L_coracleref05_Record : TypeId := 37
abbrev T_struct_What_int_N_int_Text_string : TypeId := 38
abbrev T_coraclelaw05_Act : TypeId := 39
abbrev T_struct_Seq_int_Segment_int_Body_string : TypeId := 40
abbrev T_seglog_Record : TypeId := 41
abbrev T_seglog_Record_api_Errno : TypeId := 42
abbrev T_func_string_seglog_Record_api_Errno : TypeId := 43
abbrev T_func_coraclelaw05_Act_string : TypeId := 44
abbrev T_coracleref05_Record : TypeId := 45
abbrev T_coracleref05_Record_int : TypeId := 46
abbrev T_func_P_coracleref05_Log_string_coracleref05_Record_int : TypeId := 47
abbrev T_func_int_api_Errno : TypeId := 48
abbrev T_func_P_coracleref05_Log_int_int : TypeId := 49
abbrev T_func_L_seglog_Record_L_coracleref05_Record_bool : TypeId := 50
abbrev T_func_P_seglog_Log_P_coracleref05_Log_bool : TypeId := 51
abbrev T_func_int_L_coraclelaw05_Act_bool : TypeId := 52
abbrev T_func_int_bool : TypeId := 53
abbrev T_L_seglog_Segment : TypeId := 54
abbrev T_func_L_seglog_Segment : TypeId := 55
abbrev T_func_int : TypeId := 56
abbrev T_P_sector_Disk_api_Errno : TypeId := 57
abbrev T_func_int_P_sector_Disk_api_Errno : TypeId := 58
abbrev T_L_uint8 : TypeId := 59
abbrev T_struct_ID_int_Used_int : TypeId := 60
abbrev T_seglog_Segment : TypeId := 61
abbrev T_func_int_func : TypeId := 62
abbrev T_func_P_sector_Disk_int : TypeId := 63
abbrev T_struct_serial_int_boot_int_seq_int_segments_L_seglog_Segment : TypeId := 64
abbrev T_seglog_checkpoint : TypeId := 65
abbrev T_func_int_string_api_Errno : TypeId := 66
abbrev T_func_string : TypeId := 67
abbrev T_func_api_Errno : TypeId := 68
abbrev T_struct_seglog_checkpoint_disk_P_sector_Disk_place_int : TypeId := 69
abbrev T_seglog_Log : TypeId := 70
abbrev T_string_api_Errno : TypeId := 71
abbrev T_func_int_string_api_Errno_func : TypeId := 72
abbrev T_seglog_checkpoint_bool : TypeId := 73
abbrev T_func_string_int_seglog_checkpoint_bool : TypeId := 74
abbrev T_L_seglog_Record_api_Errno : TypeId := 75
abbrev T_func_L_seglog_Record_api_Errno : TypeId := 76
abbrev T_func_L_seglog_Record_L_seglog_Record_api_Errno : TypeId := 77
abbrev T_func_L_seglog_Segment_seglog_checkpoint : TypeId := 78
abbrev T_func_seglog_checkpoint_api_Errno : TypeId := 79
abbrev T_func_int_int : TypeId := 80
abbrev T_P_seglog_Segment : TypeId := 81
abbrev T_func_P_seglog_Segment : TypeId := 82
abbrev T_func_int_int_string : TypeId := 83
abbrev T_int_int : TypeId := 84
abbrev T_func_P_coracleref05_Log_int_int_func : TypeId := 85
abbrev T_func_L_seglog_Segment_func_seglog_Segment_bool_int : TypeId := 86
abbrev T_func_seglog_Segment_bool : TypeId := 87
abbrev T_func_L_seglog_Segment_int_int_L_seglog_Segment : TypeId := 88
abbrev T_func_L_seglog_Segment_L_seglog_Segment : TypeId := 89
abbrev T_L_string : TypeId := 90
abbrev T_L_sector_write : TypeId := 91
abbrev T_struct_left_int_keep_int : TypeId := 92
abbrev T_struct_lasting_L_string_now_L_string_queue_L_secto_hc91497 : TypeId := 93
abbrev T_sector_Disk : TypeId := 94
abbrev T_struct_n_int_data_string : TypeId := 95
abbrev T_sector_write : TypeId := 96
abbrev T_P_strings_Builder : TypeId := 97
abbrev T_struct_addr_P_strings_Builder_buf_L_uint8 : TypeId := 98
abbrev T_strings_Builder : TypeId := 99
abbrev T_interface_Error_string : TypeId := 100
abbrev T_error : TypeId := 101
abbrev T_int_error : TypeId := 102
abbrev T_func_string_int_error : TypeId := 103
abbrev T_func_string_int_string : TypeId := 104
abbrev T_func_string_int : TypeId := 105
abbrev T_func_int_bool_func : TypeId := 106
abbrev T_func_L_seglog_Segment_func_seglog_Segment_bool_bool : TypeId := 107
abbrev T_func_string_string_string : TypeId := 108
abbrev T_seglog_Record_int_int_api_Errno : TypeId := 109
abbrev T_func_int_int_int_seglog_Record_int_int_api_Errno : TypeId := 110
abbrev T_A8_uint8 : TypeId := 111
abbrev T_uint64 : TypeId := 112
abbrev T_P_uint8 : TypeId := 113
abbrev T_uint : TypeId := 114
abbrev T_uint_uint : TypeId := 115
abbrev T_func_uint_uint_uint_uint : TypeId := 116
abbrev T_func_string_string_bool : TypeId := 117
abbrev T_func_string_uint8_string : TypeId := 118
abbrev T_A256_bool : TypeId := 119
abbrev T_strings_asciiSet : TypeId := 120
abbrev T_strings_asciiSet_bool : TypeId := 121
abbrev T_func_string_strings_asciiSet_bool : TypeId := 122
abbrev T_func_string_P_strings_asciiSet_string : TypeId := 123
abbrev T_P_strings_asciiSet : TypeId := 124
abbrev T_struct_boot_int_seq_int_n_int_of_int_body_string : TypeId := 125
abbrev T_seglog_part : TypeId := 126
abbrev T_seglog_part_bool : TypeId := 127
abbrev T_func_string_seglog_part_bool : TypeId := 128
abbrev T_unsafe_Pointer : TypeId := 129
abbrev T_func_unsafe_Pointer_unsafe_Pointer : TypeId := 130
abbrev T_uint32 : TypeId := 131
abbrev T_uint32_uint32 : TypeId := 132
abbrev T_func_uint32_uint32_uint32_uint32 : TypeId := 133
abbrev T_uint64_uint64 : TypeId := 134
abbrev T_func_uint64_uint64_uint64_uint64 : TypeId := 135
abbrev T_func_uint8_bool : TypeId := 136
abbrev T_int32_int : TypeId := 137
abbrev T_func_string_int32_int : TypeId := 138
abbrev T_func_string_int32_bool : TypeId := 139
abbrev T_func_int_L_uint8 : TypeId := 140
abbrev T_func_string_int32_int_func : TypeId := 141
abbrev T_A256_uint8 : TypeId := 142
abbrev T_struct_lo_uint8_hi_uint8 : TypeId := 143
abbrev T_utf8_acceptRange : TypeId := 144
abbrev T_A16_utf8_acceptRange : TypeId := 145
abbrev T_func_string_uint8_int : TypeId := 146
abbrev T_func_int32_bool : TypeId := 147
abbrev T_func_string_string_int : TypeId := 148
abbrev T_struct_interface_P_abi_Type_concrete_P_abi_Type_as_hf50685 : TypeId := 149
abbrev T_runtime_TypeAssertionError : TypeId := 150
abbrev T_A0_P_runtime_PanicNilError : TypeId := 151
abbrev T_struct_A0_P_runtime_PanicNilError : TypeId := 152
abbrev T_runtime_PanicNilError : TypeId := 153
abbrev T_abi_TFlag : TypeId := 154
abbrev T_abi_Kind : TypeId := 155
abbrev T_func_unsafe_Pointer_unsafe_Pointer_bool : TypeId := 156
abbrev T_abi_NameOff : TypeId := 157
abbrev T_abi_TypeOff : TypeId := 158
abbrev T_struct_Size_uintptr_PtrBytes_uintptr_Hash_uint32_T_h593585 : TypeId := 159
abbrev T_abi_Type : TypeId := 160
abbrev F_main_main : FuncId := 0
abbrev F_gosem_cut : FuncId := 1
abbrev F_gosem_cut_init : FuncId := 2
abbrev F_coraclelaw05_SeglogScripts : FuncId := 3
abbrev F_coraclelaw05_SeglogNil : FuncId := 4
abbrev F_coraclelaw05_SeglogFills : FuncId := 5
abbrev F_coraclelaw05_speaks : FuncId := 6
abbrev F_coraclelaw05_disk : FuncId := 7
abbrev F_seglog_Format : FuncId := 8
abbrev F_seglog_Open : FuncId := 9
abbrev F_seglog_Log_Append : FuncId := 10
abbrev F_coraclelaw05_body : FuncId := 11
abbrev F_coracleref05_Append : FuncId := 12
abbrev F_seglog_Log_Drop : FuncId := 13
abbrev F_coracleref05_Drop : FuncId := 14
abbrev F_coraclelaw05_records : FuncId := 15
abbrev F_coraclelaw05_same : FuncId := 16
abbrev F_seglog_Log_Fits : FuncId := 17
abbrev F_seglog_Log_Segments : FuncId := 18
abbrev F_seglog_Log_Free : FuncId := 19
abbrev F_seglog_Log_Boot : FuncId := 20
abbrev F_sector_New : FuncId := 21
abbrev F_sector_Disk_Crash : FuncId := 22
abbrev F_seglog_segments : FuncId := 23
abbrev F_sector_Disk_Write : FuncId := 24
abbrev F_seglog_checkpoint_bytes : FuncId := 25
abbrev F_sector_Disk_Flush : FuncId := 26
abbrev F_sector_Disk_Read : FuncId := 27
abbrev F_seglog_checkpointOf : FuncId := 28
abbrev F_seglog_Log_known : FuncId := 29
abbrev F_seglog_Log_further : FuncId := 30
abbrev F_seglog_Log_next : FuncId := 31
abbrev F_seglog_Log_save : FuncId := 32
abbrev F_seglog_parts : FuncId := 33
abbrev F_seglog_Log_open : FuncId := 34
abbrev F_seglog_checkpoint_last : FuncId := 35
abbrev F_seglog_number : FuncId := 36
abbrev F_coracleref05_Parts : FuncId := 37
abbrev F_coracleref05_Free : FuncId := 38
abbrev F_slices_IndexFunc_L_seglog_Segment_seglog_Segment : FuncId := 39
abbrev F_seglog_Log_Drop_c1 : FuncId := 40
abbrev F_slices_Delete_L_seglog_Segment_seglog_Segment : FuncId := 41
abbrev F_slices_Clone_L_seglog_Segment_seglog_Segment : FuncId := 42
abbrev F_sector_Disk_lose : FuncId := 43
abbrev F_sector_Disk_On : FuncId := 44
abbrev F_sector_Disk_Size : FuncId := 45
abbrev F_sector_Disk_torn : FuncId := 46
abbrev F_strings_Builder_WriteString : FuncId := 47
abbrev F_strings_Builder_String : FuncId := 48
abbrev F_strings_Repeat : FuncId := 49
abbrev F_seglog_taken : FuncId := 50
abbrev F_seglog_fits : FuncId := 51
abbrev F_slices_ContainsFunc_L_seglog_Segment_seglog_Segment : FuncId := 52
abbrev F_seglog_checkpointOf_c1 : FuncId := 53
abbrev F_strings_Trim : FuncId := 54
abbrev F_seglog_Log_record : FuncId := 55
abbrev F_seglog_Log_open_c1 : FuncId := 56
abbrev F_strings_Builder_copyCheck : FuncId := 57
abbrev F_math_bits_Mul : FuncId := 58
abbrev F_strings_HasPrefix : FuncId := 59
abbrev F_strings_Builder_Grow : FuncId := 60
abbrev F_strings_Builder_Len : FuncId := 61
abbrev F_strings_trimLeftByte : FuncId := 62
abbrev F_strings_trimRightByte : FuncId := 63
abbrev F_strings_makeASCIISet : FuncId := 64
abbrev F_strings_trimLeftASCII : FuncId := 65
abbrev F_strings_trimRightASCII : FuncId := 66
abbrev F_strings_trimLeftUnicode : FuncId := 67
abbrev F_strings_trimRightUnicode : FuncId := 68
abbrev F_seglog_partOf : FuncId := 69
abbrev F_abi_NoEscape : FuncId := 70
abbrev F_math_bits_Mul32 : FuncId := 71
abbrev F_math_bits_Mul64 : FuncId := 72
abbrev F_stringslite_HasPrefix : FuncId := 73
abbrev F_strings_Builder_grow : FuncId := 74
abbrev F_strings_asciiSet_contains : FuncId := 75
abbrev F_unicode_utf8_DecodeRuneInString : FuncId := 76
abbrev F_strings_ContainsRune : FuncId := 77
abbrev F_unicode_utf8_DecodeLastRuneInString : FuncId := 78
abbrev F_bytealg_MakeNoZero : FuncId := 79
abbrev F_unicode_utf8_decodeRuneInStringSlow : FuncId := 80
abbrev F_strings_IndexRune : FuncId := 81
abbrev F_unicode_utf8_RuneStart : FuncId := 82
abbrev F_strings_IndexByte : FuncId := 83
abbrev F_unicode_utf8_ValidRune : FuncId := 84
abbrev F_bytealg_Cutover : FuncId := 85
abbrev F_bytealg_IndexString : FuncId := 86
abbrev F_stringslite_IndexByte : FuncId := 87
abbrev F_bytealg_IndexByteString : FuncId := 88
abbrev F_runtime_boundsError_Error : FuncId := 89
abbrev F_runtime_boundsError_RuntimeError : FuncId := 90
abbrev F_runtime_errorString_Error : FuncId := 91
abbrev F_runtime_errorString_RuntimeError : FuncId := 92
abbrev F_runtime_plainError_Error : FuncId := 93
abbrev F_runtime_plainError_RuntimeError : FuncId := 94
abbrev F_runtime_errorAddressString_Error : FuncId := 95
abbrev F_runtime_errorAddressString_RuntimeError : FuncId := 96
abbrev F_runtime_TypeAssertionError_Error : FuncId := 97
abbrev F_runtime_TypeAssertionError_RuntimeError : FuncId := 98
abbrev F_runtime_PanicNilError_Error : FuncId := 99
abbrev F_runtime_PanicNilError_RuntimeError : FuncId := 100
abbrev F_abi_Type_Align : FuncId := 101
abbrev F_runtime_maps_unhashableTypeError_Error : FuncId := 102
abbrev F_runtime_maps_unhashableTypeError_RuntimeError : FuncId := 103
abbrev F_strings_Builder_Reset : FuncId := 104
abbrev F_abi_Kind_String : FuncId := 105
abbrev F_var_s_door_gosem_cut_vars_holds_initialisers_alone_see_the_m_hcac5a3 : FuncId := 106
abbrev F_var_s_door_the_look_of_gosem_cut_vars_went_over_the_folder_t_h579dcb : FuncId := 107
abbrev F_var_s_door_unicode_utf8_acceptRanges_is_laid_by_its_own_init_hdc18c9 : FuncId := 108
abbrev F_var_s_door_unicode_utf8_first_is_laid_by_its_text_alone_pinned_1 : FuncId := 109
abbrev F_gosem_cut_vars : FuncId := 110
theorem mixed : P.follows .mixedOrders = true := by kernel_rfl
theorem fn_gosem_cut_init : P.funcs[F_gosem_cut_init]? = some Tryd.f2 := Tryd.func2
theorem fn_coraclelaw05_SeglogScripts : P.funcs[F_coraclelaw05_SeglogScripts]? = some Tryd.f3 := Tryd.func3
theorem fn_coraclelaw05_SeglogNil : P.funcs[F_coraclelaw05_SeglogNil]? = some Tryd.f4 := Tryd.func4
theorem fn_coraclelaw05_SeglogFills : P.funcs[F_coraclelaw05_SeglogFills]? = some Tryd.f5 := Tryd.func5
theorem fn_coraclelaw05_speaks : P.funcs[F_coraclelaw05_speaks]? = some Tryd.f6 := Tryd.func6
theorem fn_coraclelaw05_disk : P.funcs[F_coraclelaw05_disk]? = some Tryd.f7 := Tryd.func7
theorem fn_seglog_Format : P.funcs[F_seglog_Format]? = some Tryd.f8 := Tryd.func8
theorem fn_seglog_Open : P.funcs[F_seglog_Open]? = some Tryd.f9 := Tryd.func9
theorem fn_seglog_Log_Append : P.funcs[F_seglog_Log_Append]? = some Tryd.f10 := Tryd.func10
theorem fn_coraclelaw05_body : P.funcs[F_coraclelaw05_body]? = some Tryd.f11 := Tryd.func11
theorem fn_coracleref05_Append : P.funcs[F_coracleref05_Append]? = some Tryd.f12 := Tryd.func12
theorem fn_seglog_Log_Drop : P.funcs[F_seglog_Log_Drop]? = some Tryd.f13 := Tryd.func13
theorem fn_coracleref05_Drop : P.funcs[F_coracleref05_Drop]? = some Tryd.f14 := Tryd.func14
theorem fn_coraclelaw05_records : P.funcs[F_coraclelaw05_records]? = some Tryd.f15 := Tryd.func15
theorem fn_coraclelaw05_same : P.funcs[F_coraclelaw05_same]? = some Tryd.f16 := Tryd.func16
theorem fn_seglog_Log_Fits : P.funcs[F_seglog_Log_Fits]? = some Tryd.f17 := Tryd.func17
theorem fn_seglog_Log_Segments : P.funcs[F_seglog_Log_Segments]? = some Tryd.f18 := Tryd.func18
theorem fn_seglog_Log_Free : P.funcs[F_seglog_Log_Free]? = some Tryd.f19 := Tryd.func19
theorem fn_seglog_Log_Boot : P.funcs[F_seglog_Log_Boot]? = some Tryd.f20 := Tryd.func20
theorem fn_sector_New : P.funcs[F_sector_New]? = some Tryd.f21 := Tryd.func21
theorem fn_sector_Disk_Crash : P.funcs[F_sector_Disk_Crash]? = some Tryd.f22 := Tryd.func22
theorem fn_seglog_segments : P.funcs[F_seglog_segments]? = some Tryd.f23 := Tryd.func23
theorem fn_sector_Disk_Write : P.funcs[F_sector_Disk_Write]? = some Tryd.f24 := Tryd.func24
theorem fn_seglog_checkpoint_bytes : P.funcs[F_seglog_checkpoint_bytes]? = some Tryd.f25 := Tryd.func25
theorem fn_sector_Disk_Flush : P.funcs[F_sector_Disk_Flush]? = some Tryd.f26 := Tryd.func26
theorem fn_sector_Disk_Read : P.funcs[F_sector_Disk_Read]? = some Tryd.f27 := Tryd.func27
theorem fn_seglog_checkpointOf : P.funcs[F_seglog_checkpointOf]? = some Tryd.f28 := Tryd.func28
theorem fn_seglog_Log_known : P.funcs[F_seglog_Log_known]? = some Tryd.f29 := Tryd.func29
theorem fn_seglog_Log_further : P.funcs[F_seglog_Log_further]? = some Tryd.f30 := Tryd.func30
theorem fn_seglog_Log_next : P.funcs[F_seglog_Log_next]? = some Tryd.f31 := Tryd.func31
theorem fn_seglog_Log_save : P.funcs[F_seglog_Log_save]? = some Tryd.f32 := Tryd.func32
theorem fn_seglog_parts : P.funcs[F_seglog_parts]? = some Tryd.f33 := Tryd.func33
theorem fn_seglog_Log_open : P.funcs[F_seglog_Log_open]? = some Tryd.f34 := Tryd.func34
theorem fn_seglog_checkpoint_last : P.funcs[F_seglog_checkpoint_last]? = some Tryd.f35 := Tryd.func35
theorem fn_seglog_number : P.funcs[F_seglog_number]? = some Tryd.f36 := Tryd.func36
theorem fn_coracleref05_Parts : P.funcs[F_coracleref05_Parts]? = some Tryd.f37 := Tryd.func37
theorem fn_coracleref05_Free : P.funcs[F_coracleref05_Free]? = some Tryd.f38 := Tryd.func38
theorem fn_slices_IndexFunc_L_seglog_Segment_seglog_Segment : P.funcs[F_slices_IndexFunc_L_seglog_Segment_seglog_Segment]? = some Tryd.f39 := Tryd.func39
theorem fn_seglog_Log_Drop_c1 : P.funcs[F_seglog_Log_Drop_c1]? = some Tryd.f40 := Tryd.func40
theorem fn_slices_Delete_L_seglog_Segment_seglog_Segment : P.funcs[F_slices_Delete_L_seglog_Segment_seglog_Segment]? = some Tryd.f41 := Tryd.func41
theorem fn_slices_Clone_L_seglog_Segment_seglog_Segment : P.funcs[F_slices_Clone_L_seglog_Segment_seglog_Segment]? = some Tryd.f42 := Tryd.func42
theorem fn_sector_Disk_lose : P.funcs[F_sector_Disk_lose]? = some Tryd.f43 := Tryd.func43
theorem fn_sector_Disk_On : P.funcs[F_sector_Disk_On]? = some Tryd.f44 := Tryd.func44
theorem fn_sector_Disk_Size : P.funcs[F_sector_Disk_Size]? = some Tryd.f45 := Tryd.func45
theorem fn_sector_Disk_torn : P.funcs[F_sector_Disk_torn]? = some Tryd.f46 := Tryd.func46
theorem fn_strings_Builder_WriteString : P.funcs[F_strings_Builder_WriteString]? = some Tryd.f47 := Tryd.func47
theorem fn_strings_Builder_String : P.funcs[F_strings_Builder_String]? = some Tryd.f48 := Tryd.func48
theorem fn_strings_Repeat : P.funcs[F_strings_Repeat]? = some Tryd.f49 := Tryd.func49
theorem fn_seglog_taken : P.funcs[F_seglog_taken]? = some Tryd.f50 := Tryd.func50
theorem fn_seglog_fits : P.funcs[F_seglog_fits]? = some Tryd.f51 := Tryd.func51
theorem fn_slices_ContainsFunc_L_seglog_Segment_seglog_Segment : P.funcs[F_slices_ContainsFunc_L_seglog_Segment_seglog_Segment]? = some Tryd.f52 := Tryd.func52
theorem fn_seglog_checkpointOf_c1 : P.funcs[F_seglog_checkpointOf_c1]? = some Tryd.f53 := Tryd.func53
theorem fn_strings_Trim : P.funcs[F_strings_Trim]? = some Tryd.f54 := Tryd.func54
theorem fn_seglog_Log_record : P.funcs[F_seglog_Log_record]? = some Tryd.f55 := Tryd.func55
theorem fn_seglog_Log_open_c1 : P.funcs[F_seglog_Log_open_c1]? = some Tryd.f56 := Tryd.func56
theorem fn_strings_Builder_copyCheck : P.funcs[F_strings_Builder_copyCheck]? = some Tryd.f57 := Tryd.func57
theorem fn_math_bits_Mul : P.funcs[F_math_bits_Mul]? = some Tryd.f58 := Tryd.func58
theorem fn_strings_HasPrefix : P.funcs[F_strings_HasPrefix]? = some Tryd.f59 := Tryd.func59
theorem fn_strings_Builder_Grow : P.funcs[F_strings_Builder_Grow]? = some Tryd.f60 := Tryd.func60
theorem fn_strings_Builder_Len : P.funcs[F_strings_Builder_Len]? = some Tryd.f61 := Tryd.func61
theorem fn_strings_trimLeftByte : P.funcs[F_strings_trimLeftByte]? = some Tryd.f62 := Tryd.func62
theorem fn_strings_trimRightByte : P.funcs[F_strings_trimRightByte]? = some Tryd.f63 := Tryd.func63
theorem fn_strings_makeASCIISet : P.funcs[F_strings_makeASCIISet]? = some Tryd.f64 := Tryd.func64
theorem fn_strings_trimLeftASCII : P.funcs[F_strings_trimLeftASCII]? = some Tryd.f65 := Tryd.func65
theorem fn_strings_trimRightASCII : P.funcs[F_strings_trimRightASCII]? = some Tryd.f66 := Tryd.func66
theorem fn_strings_trimLeftUnicode : P.funcs[F_strings_trimLeftUnicode]? = some Tryd.f67 := Tryd.func67
theorem fn_strings_trimRightUnicode : P.funcs[F_strings_trimRightUnicode]? = some Tryd.f68 := Tryd.func68
theorem fn_seglog_partOf : P.funcs[F_seglog_partOf]? = some Tryd.f69 := Tryd.func69
theorem fn_math_bits_Mul32 : P.funcs[F_math_bits_Mul32]? = some Tryd.f71 := Tryd.func71
theorem fn_math_bits_Mul64 : P.funcs[F_math_bits_Mul64]? = some Tryd.f72 := Tryd.func72
theorem fn_stringslite_HasPrefix : P.funcs[F_stringslite_HasPrefix]? = some Tryd.f73 := Tryd.func73
theorem fn_strings_Builder_grow : P.funcs[F_strings_Builder_grow]? = some Tryd.f74 := Tryd.func74
theorem fn_strings_asciiSet_contains : P.funcs[F_strings_asciiSet_contains]? = some Tryd.f75 := Tryd.func75
theorem fn_unicode_utf8_DecodeRuneInString : P.funcs[F_unicode_utf8_DecodeRuneInString]? = some Tryd.f76 := Tryd.func76
theorem fn_strings_ContainsRune : P.funcs[F_strings_ContainsRune]? = some Tryd.f77 := Tryd.func77
theorem fn_unicode_utf8_DecodeLastRuneInString : P.funcs[F_unicode_utf8_DecodeLastRuneInString]? = some Tryd.f78 := Tryd.func78
theorem fn_unicode_utf8_decodeRuneInStringSlow : P.funcs[F_unicode_utf8_decodeRuneInStringSlow]? = some Tryd.f80 := Tryd.func80
theorem fn_strings_IndexRune : P.funcs[F_strings_IndexRune]? = some Tryd.f81 := Tryd.func81
theorem fn_unicode_utf8_RuneStart : P.funcs[F_unicode_utf8_RuneStart]? = some Tryd.f82 := Tryd.func82
theorem fn_strings_IndexByte : P.funcs[F_strings_IndexByte]? = some Tryd.f83 := Tryd.func83
theorem fn_unicode_utf8_ValidRune : P.funcs[F_unicode_utf8_ValidRune]? = some Tryd.f84 := Tryd.func84
theorem fn_bytealg_Cutover : P.funcs[F_bytealg_Cutover]? = some Tryd.f85 := Tryd.func85
theorem fn_stringslite_IndexByte : P.funcs[F_stringslite_IndexByte]? = some Tryd.f87 := Tryd.func87
theorem fn_gosem_cut_vars : P.funcs[F_gosem_cut_vars]? = some Tryd.f110 := Tryd.func110
theorem a_A16_utf8_acceptRange : arrI P T_A16_utf8_acceptRange = some (16, T_utf8_acceptRange, 2) := by kernel_rfl
theorem a_A256_uint8 : arrI P T_A256_uint8 = some (256, T_uint8, 1) := by kernel_rfl
theorem a_A8_uint8 : arrI P T_A8_uint8 = some (8, T_uint8, 1) := by kernel_rfl
theorem a_strings_asciiSet : arrI P T_strings_asciiSet = some (256, T_bool, 1) := by kernel_rfl
theorem e_L_coraclelaw05_Act : elemI P T_L_coraclelaw05_Act = some (T_coraclelaw05_Act, 3, 32) := by kernel_rfl
theorem e_L_coracleref05_Record : elemI P T_L_coracleref05_Record = some (T_coracleref05_Record, 3, 32) := by kernel_rfl
theorem e_L_int : elemI P T_L_int = some (T_int, 1, 8) := by kernel_rfl
theorem e_L_sector_write : elemI P T_L_sector_write = some (T_sector_write, 2, 24) := by kernel_rfl
theorem e_L_seglog_Record : elemI P T_L_seglog_Record = some (T_seglog_Record, 3, 32) := by kernel_rfl
theorem e_L_seglog_Segment : elemI P T_L_seglog_Segment = some (T_seglog_Segment, 2, 16) := by kernel_rfl
theorem e_L_string : elemI P T_L_string = some (T_string, 1, 16) := by kernel_rfl
theorem e_L_uint8 : elemI P T_L_uint8 = some (T_uint8, 1, 1) := by kernel_rfl
theorem eqs_coracleref05_Record : eqFs P T_coracleref05_Record = some [.int .i64, .int .i64, .string] := by kernel_rfl
theorem eqs_seglog_Record : eqFs P T_seglog_Record = some [.int .i64, .int .i64, .string] := by kernel_rfl
theorem fo_coraclelaw05_Act_0 : fld P T_coraclelaw05_Act 0 = some 0 := by kernel_rfl
theorem fo_coraclelaw05_Act_1 : fld P T_coraclelaw05_Act 1 = some 1 := by kernel_rfl
theorem fo_coraclelaw05_Act_2 : fld P T_coraclelaw05_Act 2 = some 2 := by kernel_rfl
theorem fo_coracleref05_Log_0 : fld P T_coracleref05_Log 0 = some 0 := by kernel_rfl
theorem fo_coracleref05_Log_1 : fld P T_coracleref05_Log 1 = some 1 := by kernel_rfl
theorem fo_coracleref05_Log_2 : fld P T_coracleref05_Log 2 = some 2 := by kernel_rfl
theorem fo_coracleref05_Log_3 : fld P T_coracleref05_Log 3 = some 3 := by kernel_rfl
theorem fo_coracleref05_Log_4 : fld P T_coracleref05_Log 4 = some 4 := by kernel_rfl
theorem fo_coracleref05_Record_1 : fld P T_coracleref05_Record 1 = some 1 := by kernel_rfl
theorem fo_sector_Disk_0 : fld P T_sector_Disk 0 = some 0 := by kernel_rfl
theorem fo_sector_Disk_1 : fld P T_sector_Disk 1 = some 1 := by kernel_rfl
theorem fo_sector_Disk_2 : fld P T_sector_Disk 2 = some 2 := by kernel_rfl
theorem fo_sector_Disk_3 : fld P T_sector_Disk 3 = some 3 := by kernel_rfl
theorem fo_sector_Disk_4 : fld P T_sector_Disk 4 = some 5 := by kernel_rfl
theorem fo_sector_Disk_5 : fld P T_sector_Disk 5 = some 6 := by kernel_rfl
theorem fo_sector_Disk_6 : fld P T_sector_Disk 6 = some 7 := by kernel_rfl
theorem fo_sector_write_0 : fld P T_sector_write 0 = some 0 := by kernel_rfl
theorem fo_sector_write_1 : fld P T_sector_write 1 = some 1 := by kernel_rfl
theorem fo_seglog_Log_0 : fld P T_seglog_Log 0 = some 0 := by kernel_rfl
theorem fo_seglog_Log_1 : fld P T_seglog_Log 1 = some 4 := by kernel_rfl
theorem fo_seglog_Log_2 : fld P T_seglog_Log 2 = some 5 := by kernel_rfl
theorem fo_seglog_Record_0 : fld P T_seglog_Record 0 = some 0 := by kernel_rfl
theorem fo_seglog_Record_2 : fld P T_seglog_Record 2 = some 2 := by kernel_rfl
theorem fo_seglog_Segment_0 : fld P T_seglog_Segment 0 = some 0 := by kernel_rfl
theorem fo_seglog_Segment_1 : fld P T_seglog_Segment 1 = some 1 := by kernel_rfl
theorem fo_seglog_checkpoint_0 : fld P T_seglog_checkpoint 0 = some 0 := by kernel_rfl
theorem fo_seglog_checkpoint_1 : fld P T_seglog_checkpoint 1 = some 1 := by kernel_rfl
theorem fo_seglog_checkpoint_2 : fld P T_seglog_checkpoint 2 = some 2 := by kernel_rfl
theorem fo_seglog_checkpoint_3 : fld P T_seglog_checkpoint 3 = some 3 := by kernel_rfl
theorem fo_seglog_part_0 : fld P T_seglog_part 0 = some 0 := by kernel_rfl
theorem fo_seglog_part_1 : fld P T_seglog_part 1 = some 1 := by kernel_rfl
theorem fo_seglog_part_2 : fld P T_seglog_part 2 = some 2 := by kernel_rfl
theorem fo_seglog_part_3 : fld P T_seglog_part 3 = some 3 := by kernel_rfl
theorem fo_seglog_part_4 : fld P T_seglog_part 4 = some 4 := by kernel_rfl
theorem fo_strings_Builder_0 : fld P T_strings_Builder 0 = some 0 := by kernel_rfl
theorem fo_strings_Builder_1 : fld P T_strings_Builder 1 = some 1 := by kernel_rfl
theorem fo_struct_left_int_keep_int_0 : fld P T_struct_left_int_keep_int 0 = some 0 := by kernel_rfl
theorem fo_struct_left_int_keep_int_1 : fld P T_struct_left_int_keep_int 1 = some 1 := by kernel_rfl
theorem fo_utf8_acceptRange_0 : fld P T_utf8_acceptRange 0 = some 0 := by kernel_rfl
theorem fo_utf8_acceptRange_1 : fld P T_utf8_acceptRange 1 = some 1 := by kernel_rfl
theorem g_A16_utf8_acceptRange : aggN P T_A16_utf8_acceptRange = some 32 := by kernel_rfl
theorem g_coraclelaw05_Act : aggN P T_coraclelaw05_Act = some 3 := by kernel_rfl
theorem g_coracleref05_Record : aggN P T_coracleref05_Record = some 3 := by kernel_rfl
theorem g_sector_write : aggN P T_sector_write = some 2 := by kernel_rfl
theorem g_seglog_Record : aggN P T_seglog_Record = some 3 := by kernel_rfl
theorem g_seglog_Segment : aggN P T_seglog_Segment = some 2 := by kernel_rfl
theorem g_seglog_checkpoint : aggN P T_seglog_checkpoint = some 4 := by kernel_rfl
theorem g_seglog_part : aggN P T_seglog_part = some 5 := by kernel_rfl
theorem g_strings_asciiSet : aggN P T_strings_asciiSet = some 256 := by kernel_rfl
theorem g_utf8_acceptRange : aggN P T_utf8_acceptRange = some 2 := by kernel_rfl
theorem hb_bytealg_Cutover : hasBody P F_bytealg_Cutover = true := by kernel_rfl
theorem hb_coraclelaw05_body : hasBody P F_coraclelaw05_body = true := by kernel_rfl
theorem hb_coraclelaw05_disk : hasBody P F_coraclelaw05_disk = true := by kernel_rfl
theorem hb_coraclelaw05_records : hasBody P F_coraclelaw05_records = true := by kernel_rfl
theorem hb_coraclelaw05_same : hasBody P F_coraclelaw05_same = true := by kernel_rfl
theorem hb_coraclelaw05_speaks : hasBody P F_coraclelaw05_speaks = true := by kernel_rfl
theorem hb_coracleref05_Append : hasBody P F_coracleref05_Append = true := by kernel_rfl
theorem hb_coracleref05_Drop : hasBody P F_coracleref05_Drop = true := by kernel_rfl
theorem hb_coracleref05_Free : hasBody P F_coracleref05_Free = true := by kernel_rfl
theorem hb_coracleref05_Parts : hasBody P F_coracleref05_Parts = true := by kernel_rfl
theorem hb_math_bits_Mul : hasBody P F_math_bits_Mul = true := by kernel_rfl
theorem hb_math_bits_Mul32 : hasBody P F_math_bits_Mul32 = true := by kernel_rfl
theorem hb_math_bits_Mul64 : hasBody P F_math_bits_Mul64 = true := by kernel_rfl
theorem hb_sector_Disk_Crash : hasBody P F_sector_Disk_Crash = true := by kernel_rfl
theorem hb_sector_Disk_Flush : hasBody P F_sector_Disk_Flush = true := by kernel_rfl
theorem hb_sector_Disk_On : hasBody P F_sector_Disk_On = true := by kernel_rfl
theorem hb_sector_Disk_Read : hasBody P F_sector_Disk_Read = true := by kernel_rfl
theorem hb_sector_Disk_Size : hasBody P F_sector_Disk_Size = true := by kernel_rfl
theorem hb_sector_Disk_Write : hasBody P F_sector_Disk_Write = true := by kernel_rfl
theorem hb_sector_Disk_lose : hasBody P F_sector_Disk_lose = true := by kernel_rfl
theorem hb_sector_Disk_torn : hasBody P F_sector_Disk_torn = true := by kernel_rfl
theorem hb_sector_New : hasBody P F_sector_New = true := by kernel_rfl
theorem hb_seglog_Format : hasBody P F_seglog_Format = true := by kernel_rfl
theorem hb_seglog_Log_Append : hasBody P F_seglog_Log_Append = true := by kernel_rfl
theorem hb_seglog_Log_Boot : hasBody P F_seglog_Log_Boot = true := by kernel_rfl
theorem hb_seglog_Log_Drop : hasBody P F_seglog_Log_Drop = true := by kernel_rfl
theorem hb_seglog_Log_Drop_c1 : hasBody P F_seglog_Log_Drop_c1 = true := by kernel_rfl
theorem hb_seglog_Log_Fits : hasBody P F_seglog_Log_Fits = true := by kernel_rfl
theorem hb_seglog_Log_Free : hasBody P F_seglog_Log_Free = true := by kernel_rfl
theorem hb_seglog_Log_Segments : hasBody P F_seglog_Log_Segments = true := by kernel_rfl
theorem hb_seglog_Log_further : hasBody P F_seglog_Log_further = true := by kernel_rfl
theorem hb_seglog_Log_known : hasBody P F_seglog_Log_known = true := by kernel_rfl
theorem hb_seglog_Log_next : hasBody P F_seglog_Log_next = true := by kernel_rfl
theorem hb_seglog_Log_open : hasBody P F_seglog_Log_open = true := by kernel_rfl
theorem hb_seglog_Log_open_c1 : hasBody P F_seglog_Log_open_c1 = true := by kernel_rfl
theorem hb_seglog_Log_record : hasBody P F_seglog_Log_record = true := by kernel_rfl
theorem hb_seglog_Log_save : hasBody P F_seglog_Log_save = true := by kernel_rfl
theorem hb_seglog_Open : hasBody P F_seglog_Open = true := by kernel_rfl
theorem hb_seglog_checkpointOf : hasBody P F_seglog_checkpointOf = true := by kernel_rfl
theorem hb_seglog_checkpointOf_c1 : hasBody P F_seglog_checkpointOf_c1 = true := by kernel_rfl
theorem hb_seglog_checkpoint_bytes : hasBody P F_seglog_checkpoint_bytes = true := by kernel_rfl
theorem hb_seglog_checkpoint_last : hasBody P F_seglog_checkpoint_last = true := by kernel_rfl
theorem hb_seglog_fits : hasBody P F_seglog_fits = true := by kernel_rfl
theorem hb_seglog_number : hasBody P F_seglog_number = true := by kernel_rfl
theorem hb_seglog_partOf : hasBody P F_seglog_partOf = true := by kernel_rfl
theorem hb_seglog_parts : hasBody P F_seglog_parts = true := by kernel_rfl
theorem hb_seglog_segments : hasBody P F_seglog_segments = true := by kernel_rfl
theorem hb_seglog_taken : hasBody P F_seglog_taken = true := by kernel_rfl
theorem hb_slices_Clone_L_seglog_Segment_seglog_Segment : hasBody P F_slices_Clone_L_seglog_Segment_seglog_Segment = true := by kernel_rfl
theorem hb_slices_ContainsFunc_L_seglog_Segment_seglog_Segment : hasBody P F_slices_ContainsFunc_L_seglog_Segment_seglog_Segment = true := by kernel_rfl
theorem hb_slices_Delete_L_seglog_Segment_seglog_Segment : hasBody P F_slices_Delete_L_seglog_Segment_seglog_Segment = true := by kernel_rfl
theorem hb_slices_IndexFunc_L_seglog_Segment_seglog_Segment : hasBody P F_slices_IndexFunc_L_seglog_Segment_seglog_Segment = true := by kernel_rfl
theorem hb_strings_Builder_Grow : hasBody P F_strings_Builder_Grow = true := by kernel_rfl
theorem hb_strings_Builder_Len : hasBody P F_strings_Builder_Len = true := by kernel_rfl
theorem hb_strings_Builder_String : hasBody P F_strings_Builder_String = true := by kernel_rfl
theorem hb_strings_Builder_WriteString : hasBody P F_strings_Builder_WriteString = true := by kernel_rfl
theorem hb_strings_Builder_copyCheck : hasBody P F_strings_Builder_copyCheck = true := by kernel_rfl
theorem hb_strings_Builder_grow : hasBody P F_strings_Builder_grow = true := by kernel_rfl
theorem hb_strings_ContainsRune : hasBody P F_strings_ContainsRune = true := by kernel_rfl
theorem hb_strings_HasPrefix : hasBody P F_strings_HasPrefix = true := by kernel_rfl
theorem hb_strings_IndexByte : hasBody P F_strings_IndexByte = true := by kernel_rfl
theorem hb_strings_IndexRune : hasBody P F_strings_IndexRune = true := by kernel_rfl
theorem hb_strings_Repeat : hasBody P F_strings_Repeat = true := by kernel_rfl
theorem hb_strings_Trim : hasBody P F_strings_Trim = true := by kernel_rfl
theorem hb_strings_asciiSet_contains : hasBody P F_strings_asciiSet_contains = true := by kernel_rfl
theorem hb_strings_makeASCIISet : hasBody P F_strings_makeASCIISet = true := by kernel_rfl
theorem hb_strings_trimLeftASCII : hasBody P F_strings_trimLeftASCII = true := by kernel_rfl
theorem hb_strings_trimLeftByte : hasBody P F_strings_trimLeftByte = true := by kernel_rfl
theorem hb_strings_trimLeftUnicode : hasBody P F_strings_trimLeftUnicode = true := by kernel_rfl
theorem hb_strings_trimRightASCII : hasBody P F_strings_trimRightASCII = true := by kernel_rfl
theorem hb_strings_trimRightByte : hasBody P F_strings_trimRightByte = true := by kernel_rfl
theorem hb_strings_trimRightUnicode : hasBody P F_strings_trimRightUnicode = true := by kernel_rfl
theorem hb_stringslite_HasPrefix : hasBody P F_stringslite_HasPrefix = true := by kernel_rfl
theorem hb_stringslite_IndexByte : hasBody P F_stringslite_IndexByte = true := by kernel_rfl
theorem hb_unicode_utf8_DecodeLastRuneInString : hasBody P F_unicode_utf8_DecodeLastRuneInString = true := by kernel_rfl
theorem hb_unicode_utf8_DecodeRuneInString : hasBody P F_unicode_utf8_DecodeRuneInString = true := by kernel_rfl
theorem hb_unicode_utf8_RuneStart : hasBody P F_unicode_utf8_RuneStart = true := by kernel_rfl
theorem hb_unicode_utf8_ValidRune : hasBody P F_unicode_utf8_ValidRune = true := by kernel_rfl
theorem hb_unicode_utf8_decodeRuneInStringSlow : hasBody P F_unicode_utf8_decodeRuneInStringSlow = true := by kernel_rfl
theorem o_L_int : one P T_L_int = true := by kernel_rfl
theorem o_L_sector_write : one P T_L_sector_write = true := by kernel_rfl
theorem o_L_seglog_Segment : one P T_L_seglog_Segment = true := by kernel_rfl
theorem o_L_string : one P T_L_string = true := by kernel_rfl
theorem o_L_uint8 : one P T_L_uint8 = true := by kernel_rfl
theorem o_P_sector_Disk : one P T_P_sector_Disk = true := by kernel_rfl
theorem o_P_strings_Builder : one P T_P_strings_Builder = true := by kernel_rfl
theorem o_bool : one P T_bool = true := by kernel_rfl
theorem o_int : one P T_int = true := by kernel_rfl
theorem o_string : one P T_string = true := by kernel_rfl
theorem o_uint8 : one P T_uint8 = true := by kernel_rfl
theorem p_coracleref05_Log : plc P T_coracleref05_Log = some [(0, 1), (1, 1), (2, 1), (3, 1), (4, 1), (5, 1)] := by kernel_rfl
theorem p_coracleref05_Record : plc P T_coracleref05_Record = some [(0, 1), (1, 1), (2, 1)] := by kernel_rfl
theorem p_sector_Disk : plc P T_sector_Disk = some [(0, 1), (1, 1), (2, 1), (3, 2), (5, 1), (6, 1), (7, 1)] := by kernel_rfl
theorem p_sector_write : plc P T_sector_write = some [(0, 1), (1, 1)] := by kernel_rfl
theorem p_seglog_Log : plc P T_seglog_Log = some [(0, 4), (4, 1), (5, 1)] := by kernel_rfl
theorem p_seglog_Record : plc P T_seglog_Record = some [(0, 1), (1, 1), (2, 1)] := by kernel_rfl
theorem p_seglog_Segment : plc P T_seglog_Segment = some [(0, 1), (1, 1)] := by kernel_rfl
theorem p_seglog_checkpoint : plc P T_seglog_checkpoint = some [(0, 1), (1, 1), (2, 1), (3, 1)] := by kernel_rfl
theorem p_seglog_part : plc P T_seglog_part = some [(0, 1), (1, 1), (2, 1), (3, 1), (4, 1)] := by kernel_rfl
theorem p_utf8_acceptRange : plc P T_utf8_acceptRange = some [(0, 1), (1, 1)] := by kernel_rfl
theorem u_A0_P_runtime_PanicNilError : P.underlying T_A0_P_runtime_PanicNilError = some (.array 0 T_P_runtime_PanicNilError) := by kernel_rfl
theorem u_A16_utf8_acceptRange : P.underlying T_A16_utf8_acceptRange = some (.array 16 T_utf8_acceptRange) := by kernel_rfl
theorem u_A256_bool : P.underlying T_A256_bool = some (.array 256 T_bool) := by kernel_rfl
theorem u_A256_uint8 : P.underlying T_A256_uint8 = some (.array 256 T_uint8) := by kernel_rfl
theorem u_A8_uint8 : P.underlying T_A8_uint8 = some (.array 8 T_uint8) := by kernel_rfl
theorem u_L_coraclelaw05_Act : P.underlying T_L_coraclelaw05_Act = some (.slice T_coraclelaw05_Act) := by kernel_rfl
theorem u_L_coracleref05_Record : P.underlying T_L_coracleref05_Record = some (.slice T_coracleref05_Record) := by kernel_rfl
theorem u_L_int : P.underlying T_L_int = some (.slice T_int) := by kernel_rfl
theorem u_L_sector_write : P.underlying T_L_sector_write = some (.slice T_sector_write) := by kernel_rfl
theorem u_L_seglog_Record : P.underlying T_L_seglog_Record = some (.slice T_seglog_Record) := by kernel_rfl
theorem u_L_seglog_Segment : P.underlying T_L_seglog_Segment = some (.slice T_seglog_Segment) := by kernel_rfl
theorem u_L_string : P.underlying T_L_string = some (.slice T_string) := by kernel_rfl
theorem u_L_uint8 : P.underlying T_L_uint8 = some (.slice T_uint8) := by kernel_rfl
theorem u_P_abi_Type : P.underlying T_P_abi_Type = some (.pointer T_abi_Type) := by kernel_rfl
theorem u_P_coracleref05_Log : P.underlying T_P_coracleref05_Log = some (.pointer T_coracleref05_Log) := by kernel_rfl
theorem u_P_runtime_PanicNilError : P.underlying T_P_runtime_PanicNilError = some (.pointer T_runtime_PanicNilError) := by kernel_rfl
theorem u_P_runtime_TypeAssertionError : P.underlying T_P_runtime_TypeAssertionError = some (.pointer T_runtime_TypeAssertionError) := by kernel_rfl
theorem u_P_sector_Disk : P.underlying T_P_sector_Disk = some (.pointer T_sector_Disk) := by kernel_rfl
theorem u_P_seglog_Log : P.underlying T_P_seglog_Log = some (.pointer T_seglog_Log) := by kernel_rfl
theorem u_P_seglog_Segment : P.underlying T_P_seglog_Segment = some (.pointer T_seglog_Segment) := by kernel_rfl
theorem u_P_strings_Builder : P.underlying T_P_strings_Builder = some (.pointer T_strings_Builder) := by kernel_rfl
theorem u_P_strings_asciiSet : P.underlying T_P_strings_asciiSet = some (.pointer T_strings_asciiSet) := by kernel_rfl
theorem u_P_uint8 : P.underlying T_P_uint8 = some (.pointer T_uint8) := by kernel_rfl
theorem u_abi_BoundsErrorCode : P.underlying T_abi_BoundsErrorCode = some (.int .u8) := by kernel_rfl
theorem u_abi_Kind : P.underlying T_abi_Kind = some (.int .u8) := by kernel_rfl
theorem u_abi_NameOff : P.underlying T_abi_NameOff = some (.int .i32) := by kernel_rfl
theorem u_abi_TFlag : P.underlying T_abi_TFlag = some (.int .u8) := by kernel_rfl
theorem u_abi_TypeOff : P.underlying T_abi_TypeOff = some (.int .i32) := by kernel_rfl
theorem u_api_Errno : P.underlying T_api_Errno = some (.int .i64) := by kernel_rfl
theorem u_bool : P.underlying T_bool = some (.bool) := by kernel_rfl
theorem u_int : P.underlying T_int = some (.int .i64) := by kernel_rfl
theorem u_int32 : P.underlying T_int32 = some (.int .i32) := by kernel_rfl
theorem u_int64 : P.underlying T_int64 = some (.int .i64) := by kernel_rfl
theorem u_runtime_errorString : P.underlying T_runtime_errorString = some (.string) := by kernel_rfl
theorem u_runtime_plainError : P.underlying T_runtime_plainError = some (.string) := by kernel_rfl
theorem u_string : P.underlying T_string = some (.string) := by kernel_rfl
theorem u_strings_asciiSet : P.underlying T_strings_asciiSet = some (.array 256 T_bool) := by kernel_rfl
theorem u_uint : P.underlying T_uint = some (.int .u64) := by kernel_rfl
theorem u_uint32 : P.underlying T_uint32 = some (.int .u32) := by kernel_rfl
theorem u_uint64 : P.underlying T_uint64 = some (.int .u64) := by kernel_rfl
theorem u_uint8 : P.underlying T_uint8 = some (.int .u8) := by kernel_rfl
theorem u_uintptr : P.underlying T_uintptr = some (.int .u64) := by kernel_rfl
theorem u_unsafe_Pointer : P.underlying T_unsafe_Pointer = some (.unsafePointer) := by kernel_rfl
theorem z_A16_utf8_acceptRange : zeroC P T_A16_utf8_acceptRange = some [.int .u8 0, .int .u8 0, .int .u8 0, .int .u8 0, .int .u8 0, .int .u8 0, .int .u8 0, .int .u8 0, .int .u8 0, .int .u8 0, .int .u8 0, .int .u8 0, .int .u8 0, .int .u8 0, .int .u8 0, .int .u8 0, .int .u8 0, .int .u8 0, .int .u8 0, .int .u8 0, .int .u8 0, .int .u8 0, .int .u8 0, .int .u8 0, .int .u8 0, .int .u8 0, .int .u8 0, .int .u8 0, .int .u8 0, .int .u8 0, .int .u8 0, .int .u8 0] := by kernel_rfl
theorem z_A8_uint8 : zeroC P T_A8_uint8 = some [.int .u8 0, .int .u8 0, .int .u8 0, .int .u8 0, .int .u8 0, .int .u8 0, .int .u8 0, .int .u8 0] := by kernel_rfl
theorem z_coraclelaw05_Act : zeroC P T_coraclelaw05_Act = some [.int .i64 0, .int .i64 0, S []] := by kernel_rfl
theorem z_coracleref05_Log : zeroC P T_coracleref05_Log = some [.int .i64 0, .slice none 0 0, .slice none 0 0, .int .i64 0, .int .i64 0, .int .i64 0] := by kernel_rfl
theorem z_coracleref05_Record : zeroC P T_coracleref05_Record = some [.int .i64 0, .int .i64 0, S []] := by kernel_rfl
theorem z_int : zeroC P T_int = some [.int .i64 0] := by kernel_rfl
theorem z_sector_Disk : zeroC P T_sector_Disk = some [.slice none 0 0, .slice none 0 0, .slice none 0 0, .int .i64 0, .int .i64 0, .bool false, .int .i64 0, .int .i64 0] := by kernel_rfl
theorem z_sector_write : zeroC P T_sector_write = some [.int .i64 0, S []] := by kernel_rfl
theorem z_seglog_Log : zeroC P T_seglog_Log = some [.int .i64 0, .int .i64 0, .int .i64 0, .slice none 0 0, .pointer none, .int .i64 0] := by kernel_rfl
theorem z_seglog_Record : zeroC P T_seglog_Record = some [.int .i64 0, .int .i64 0, S []] := by kernel_rfl
theorem z_seglog_Segment : zeroC P T_seglog_Segment = some [.int .i64 0, .int .i64 0] := by kernel_rfl
theorem z_seglog_checkpoint : zeroC P T_seglog_checkpoint = some [.int .i64 0, .int .i64 0, .int .i64 0, .slice none 0 0] := by kernel_rfl
theorem z_seglog_part : zeroC P T_seglog_part = some [.int .i64 0, .int .i64 0, .int .i64 0, .int .i64 0, S []] := by kernel_rfl
theorem z_string : zeroC P T_string = some [S []] := by kernel_rfl
theorem z_strings_Builder : zeroC P T_strings_Builder = some [.pointer none, .slice none 0 0] := by kernel_rfl
theorem z_strings_asciiSet : zeroC P T_strings_asciiSet = some [.bool false, .bool false, .bool false, .bool false, .bool false, .bool false, .bool false, .bool false, .bool false, .bool false, .bool false, .bool false, .bool false, .bool false, .bool false, .bool false, .bool false, .bool false, .bool false, .bool false, .bool false, .bool false, .bool false, .bool false, .bool false, .bool false, .bool false, .bool false, .bool false, .bool false, .bool false, .bool false, .bool false, .bool false, .bool false, .bool false, .bool false, .bool false, .bool false, .bool false, .bool false, .bool false, .bool false, .bool false, .bool false, .bool false, .bool false, .bool false, .bool false, .bool false, .bool false, .bool false, .bool false, .bool false, .bool false, .bool false, .bool false, .bool false, .bool false, .bool false, .bool false, .bool false, .bool false, .bool false, .bool false, .bool false, .bool false, .bool false, .bool false, .bool false, .bool false, .bool false, .bool false, .bool false, .bool false, .bool false, .bool false, .bool false, .bool false, .bool false, .bool false, .bool false, .bool false, .bool false, .bool false, .bool false, .bool false, .bool false, .bool false, .bool false, .bool false, .bool false, .bool false, .bool false, .bool false, .bool false, .bool false, .bool false, .bool false, .bool false, .bool false, .bool false, .bool false, .bool false, .bool false, .bool false, .bool false, .bool false, .bool false, .bool false, .bool false, .bool false, .bool false, .bool false, .bool false, .bool false, .bool false, .bool false, .bool false, .bool false, .bool false, .bool false, .bool false, .bool false, .bool false, .bool false, .bool false, .bool false, .bool false, .bool false, .bool false, .bool false, .bool false, .bool false, .bool false, .bool false, .bool false, .bool false, .bool false, .bool false, .bool false, .bool false, .bool false, .bool false, .bool false, .bool false, .bool false, .bool false, .bool false, .bool false, .bool false, .bool false, .bool false, .bool false, .bool false, .bool false, .bool false, .bool false, .bool false, .bool false, .bool false, .bool false, .bool false, .bool false, .bool false, .bool false, .bool false, .bool false, .bool false, .bool false, .bool false, .bool false, .bool false, .bool false, .bool false, .bool false, .bool false, .bool false, .bool false, .bool false, .bool false, .bool false, .bool false, .bool false, .bool false, .bool false, .bool false, .bool false, .bool false, .bool false, .bool false, .bool false, .bool false, .bool false, .bool false, .bool false, .bool false, .bool false, .bool false, .bool false, .bool false, .bool false, .bool false, .bool false, .bool false, .bool false, .bool false, .bool false, .bool false, .bool false, .bool false, .bool false, .bool false, .bool false, .bool false, .bool false, .bool false, .bool false, .bool false, .bool false, .bool false, .bool false, .bool false, .bool false, .bool false, .bool false, .bool false, .bool false, .bool false, .bool false, .bool false, .bool false, .bool false, .bool false, .bool false, .bool false, .bool false, .bool false, .bool false, .bool false, .bool false, .bool false, .bool false, .bool false, .bool false, .bool false, .bool false, .bool false, .bool false, .bool false, .bool false, .bool false, .bool false, .bool false, .bool false, .bool false] := by kernel_rfl
theorem z_uint8 : zeroC P T_uint8 = some [.int .u8 0] := by kernel_rfl
theorem z_utf8_acceptRange : zeroC P T_utf8_acceptRange = some [.int .u8 0, .int .u8 0] := by kernel_rfl
end Go.Proofs.YthlfbndanknnmaaDoor
