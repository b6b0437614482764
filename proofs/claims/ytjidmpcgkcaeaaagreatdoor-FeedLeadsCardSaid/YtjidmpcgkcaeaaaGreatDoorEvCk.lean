import Derived.Test.YtjidmpcgkcaeaaaGreatDoorEvFn
import Derived.Test.YtjidmpcgkcaeaaaGreatDoorEvIR
import Derived.Test.YtjidmpcgkcaeaaaGreatDoorProg
import Derived.KernelRfl
namespace Go.Proofs.YtjidmpcgkcaeaaaGreatDoor.Ev
open Go.Proofs
abbrev Ck (k : Nat) (f : FnD) : Prop := FnChk Tryz.prog k f
theorem c10 : Ck 10 ir_usufructref33_Same := FnChk_of Tryz.func10 Tryz.call10 (by kernel_rfl)
theorem c120 : Ck 120 ir_state_find_api_Saga_int_1 := FnChk_of Tryz.func120 Tryz.call120 (by kernel_rfl)
theorem c114 : Ck 114 ir_slices_IndexFunc_api_Saga_api_Saga := FnChk_of Tryz.func114 Tryz.call114 (by kernel_rfl)
theorem c94 : Ck 94 ir_state_find_api_Saga_int := FnChk_of Tryz.func94 Tryz.call94 (by kernel_rfl)
theorem c82 : Ck 82 ir_state_number := FnChk_of Tryz.func82 Tryz.call82 (by kernel_rfl)
theorem c56 : Ck 56 ir_state_Find := FnChk_of Tryz.func56 Tryz.call56 (by kernel_rfl)
theorem c32 : Ck 32 ir_feed_phase := FnChk_of Tryz.func32 Tryz.call32 (by kernel_rfl)
theorem c108 : Ck 108 ir_slices_Clone_api_Step_api_Step := FnChk_of Tryz.func108 Tryz.call108 (by kernel_rfl)
theorem c73 : Ck 73 ir_def_Own := FnChk_of Tryz.func73 Tryz.call73 (by kernel_rfl)
theorem c91 : Ck 91 ir_state_define_1 := FnChk_of Tryz.func91 Tryz.call91 (by kernel_rfl)
theorem c90 : Ck 90 ir_slices_IndexFunc_api_Def_api_Def := FnChk_of Tryz.func90 Tryz.call90 (by kernel_rfl)
theorem c116 : Ck 116 ir_state_find_api_Def_string_1 := FnChk_of Tryz.func116 Tryz.call116 (by kernel_rfl)
theorem c89 : Ck 89 ir_state_find_api_Def_string := FnChk_of Tryz.func89 Tryz.call89 (by kernel_rfl)
theorem c80 : Ck 80 ir_state_name := FnChk_of Tryz.func80 Tryz.call80 (by kernel_rfl)
theorem c53 : Ck 53 ir_state_define := FnChk_of Tryz.func53 Tryz.call53 (by kernel_rfl)
theorem c119 : Ck 119 ir_tick_Of := FnChk_of Tryz.func119 Tryz.call119 (by kernel_rfl)
theorem c93 : Ck 93 ir_saga_Begin := FnChk_of Tryz.func93 Tryz.call93 (by kernel_rfl)
theorem c87 : Ck 87 ir_state_Def := FnChk_of Tryz.func87 Tryz.call87 (by kernel_rfl)
theorem c54 : Ck 54 ir_state_start := FnChk_of Tryz.func54 Tryz.call54 (by kernel_rfl)
theorem c155 : Ck 155 ir_def_way := FnChk_of Tryz.func155 Tryz.call155 (by kernel_rfl)
theorem c141 : Ck 141 ir_def_Key := FnChk_of Tryz.func141 Tryz.call141 (by kernel_rfl)
theorem c140 : Ck 140 ir_tick_Add := FnChk_of Tryz.func140 Tryz.call140 (by kernel_rfl)
theorem c146 : Ck 146 ir_def_End := FnChk_of Tryz.func146 Tryz.call146 (by kernel_rfl)
theorem c153 : Ck 153 ir_saga_ahead := FnChk_of Tryz.func153 Tryz.call153 (by kernel_rfl)
theorem c145 : Ck 145 ir_tick_Due := FnChk_of Tryz.func145 Tryz.call145 (by kernel_rfl)
theorem c136 : Ck 136 ir_saga_plan := FnChk_of Tryz.func136 Tryz.call136 (by kernel_rfl)
theorem c133 : Ck 133 ir_backoff_Good := FnChk_of Tryz.func133 Tryz.call133 (by kernel_rfl)
theorem c135 : Ck 135 ir_backoff_Left := FnChk_of Tryz.func135 Tryz.call135 (by kernel_rfl)
theorem c139 : Ck 139 ir_saga_may := FnChk_of Tryz.func139 Tryz.call139 (by kernel_rfl)
theorem c95 : Ck 95 ir_saga_Over := FnChk_of Tryz.func95 Tryz.call95 (by kernel_rfl)
theorem c115 : Ck 115 ir_saga_tries := FnChk_of Tryz.func115 Tryz.call115 (by kernel_rfl)
theorem c75 : Ck 75 ir_tick_Good := FnChk_of Tryz.func75 Tryz.call75 (by kernel_rfl)
theorem c132 : Ck 132 ir_def_step_1 := FnChk_of Tryz.func132 Tryz.call132 (by kernel_rfl)
theorem c151 : Ck 151 ir_slices_IndexFunc_api_Step_api_Step := FnChk_of Tryz.func151 Tryz.call151 (by kernel_rfl)
theorem c131 : Ck 131 ir_slices_ContainsFunc_api_Step_api_Step := FnChk_of Tryz.func131 Tryz.call131 (by kernel_rfl)
theorem c113 : Ck 113 ir_label_letter := FnChk_of Tryz.func113 Tryz.call113 (by kernel_rfl)
theorem c112 : Ck 112 ir_label_may := FnChk_of Tryz.func112 Tryz.call112 (by kernel_rfl)
theorem c111 : Ck 111 ir_label_Runes := FnChk_of Tryz.func111 Tryz.call111 (by kernel_rfl)
theorem c78 : Ck 78 ir_label_Good := FnChk_of Tryz.func78 Tryz.call78 (by kernel_rfl)
theorem c109 : Ck 109 ir_def_step := FnChk_of Tryz.func109 Tryz.call109 (by kernel_rfl)
theorem c77 : Ck 77 ir_def_Check := FnChk_of Tryz.func77 Tryz.call77 (by kernel_rfl)
theorem c88 : Ck 88 ir_saga_Good := FnChk_of Tryz.func88 Tryz.call88 (by kernel_rfl)
theorem c138 : Ck 138 ir_saga_check := FnChk_of Tryz.func138 Tryz.call138 (by kernel_rfl)
theorem c121 : Ck 121 ir_saga_Emit := FnChk_of Tryz.func121 Tryz.call121 (by kernel_rfl)
theorem c158 : Ck 158 ir_tick_Times := FnChk_of Tryz.func158 Tryz.call158 (by kernel_rfl)
theorem c159 : Ck 159 ir_tick_Pow := FnChk_of Tryz.func159 Tryz.call159 (by kernel_rfl)
theorem c156 : Ck 156 ir_backoff_Wait := FnChk_of Tryz.func156 Tryz.call156 (by kernel_rfl)
theorem c149 : Ck 149 ir_saga_at := FnChk_of Tryz.func149 Tryz.call149 (by kernel_rfl)
theorem c150 : Ck 150 ir_saga_over := FnChk_of Tryz.func150 Tryz.call150 (by kernel_rfl)
theorem c147 : Ck 147 ir_saga_back := FnChk_of Tryz.func147 Tryz.call147 (by kernel_rfl)
theorem c144 : Ck 144 ir_saga_fails := FnChk_of Tryz.func144 Tryz.call144 (by kernel_rfl)
theorem c143 : Ck 143 ir_saga_done := FnChk_of Tryz.func143 Tryz.call143 (by kernel_rfl)
theorem c142 : Ck 142 ir_saga_accepted := FnChk_of Tryz.func142 Tryz.call142 (by kernel_rfl)
theorem c122 : Ck 122 ir_saga_Reply := FnChk_of Tryz.func122 Tryz.call122 (by kernel_rfl)
theorem c123 : Ck 123 ir_saga_Late := FnChk_of Tryz.func123 Tryz.call123 (by kernel_rfl)
theorem c124 : Ck 124 ir_saga_Expire := FnChk_of Tryz.func124 Tryz.call124 (by kernel_rfl)
theorem c125 : Ck 125 ir_saga_Cancel := FnChk_of Tryz.func125 Tryz.call125 (by kernel_rfl)
theorem c148 : Ck 148 ir_saga_parked := FnChk_of Tryz.func148 Tryz.call148 (by kernel_rfl)
theorem c126 : Ck 126 ir_saga_Retry := FnChk_of Tryz.func126 Tryz.call126 (by kernel_rfl)
theorem c127 : Ck 127 ir_saga_Skip := FnChk_of Tryz.func127 Tryz.call127 (by kernel_rfl)
theorem c128 : Ck 128 ir_saga_Abandon := FnChk_of Tryz.func128 Tryz.call128 (by kernel_rfl)
theorem c97 : Ck 97 ir_state_call := FnChk_of Tryz.func97 Tryz.call97 (by kernel_rfl)
theorem c55 : Ck 55 ir_state_step := FnChk_of Tryz.func55 Tryz.call55 (by kernel_rfl)
theorem c86 : Ck 86 ir_state_Good_2 := FnChk_of Tryz.func86 Tryz.call86 (by kernel_rfl)
theorem c85 : Ck 85 ir_slices_ContainsFunc_api_Saga_api_Saga := FnChk_of Tryz.func85 Tryz.call85 (by kernel_rfl)
theorem c83 : Ck 83 ir_slices_ContainsFunc_api_Def_api_Def := FnChk_of Tryz.func83 Tryz.call83 (by kernel_rfl)
theorem c84 : Ck 84 ir_state_Good_1 := FnChk_of Tryz.func84 Tryz.call84 (by kernel_rfl)
theorem c79 : Ck 79 ir_state_rises_api_Def_string := FnChk_of Tryz.func79 Tryz.call79 (by kernel_rfl)
theorem c81 : Ck 81 ir_state_rises_api_Saga_int := FnChk_of Tryz.func81 Tryz.call81 (by kernel_rfl)
theorem c52 : Ck 52 ir_state_Good := FnChk_of Tryz.func52 Tryz.call52 (by kernel_rfl)
theorem c76 : Ck 76 ir_code_empty := FnChk_of Tryz.func76 Tryz.call76 (by kernel_rfl)
theorem c51 : Ck 51 ir_code_Good := FnChk_of Tryz.func51 Tryz.call51 (by kernel_rfl)
theorem c74 : Ck 74 ir_slices_Clone_api_Saga_api_Saga := FnChk_of Tryz.func74 Tryz.call74 (by kernel_rfl)
theorem c50 : Ck 50 ir_state_own := FnChk_of Tryz.func50 Tryz.call50 (by kernel_rfl)
theorem c31 : Ck 31 ir_state_Do := FnChk_of Tryz.func31 Tryz.call31 (by kernel_rfl)
theorem c19 : Ck 19 ir_feed_follow := FnChk_of Tryz.func19 Tryz.call19 (by kernel_rfl)
theorem c8 : Ck 8 ir_feed_Of := FnChk_of Tryz.func8 Tryz.call8 (by kernel_rfl)
theorem c9 : Ck 9 ir_feed_Page := FnChk_of Tryz.func9 Tryz.call9 (by kernel_rfl)
theorem c30 : Ck 30 ir_usufructlaw13_Small := FnChk_of Tryz.func30 Tryz.call30 (by kernel_rfl)
theorem c18 : Ck 18 ir_usufructlaw16_Short := FnChk_of Tryz.func18 Tryz.call18 (by kernel_rfl)
theorem c7 : Ck 7 ir_usufructlaw33_few := FnChk_of Tryz.func7 Tryz.call7 (by kernel_rfl)
theorem c6 : Ck 6 ir_usufructlaw33_awake := FnChk_of Tryz.func6 Tryz.call6 (by kernel_rfl)
theorem c3 : Ck 3 ir_usufructlaw33_FeedPages := FnChk_of Tryz.func3 Tryz.call3 (by kernel_rfl)
theorem c36 : Ck 36 ir_usufructref16_Find := FnChk_of Tryz.func36 Tryz.call36 (by kernel_rfl)
theorem c21 : Ck 21 ir_usufructref33_phase := FnChk_of Tryz.func21 Tryz.call21 (by kernel_rfl)
theorem c15 : Ck 15 ir_usufructref33_Of := FnChk_of Tryz.func15 Tryz.call15 (by kernel_rfl)
theorem c12 : Ck 12 ir_feed_Now := FnChk_of Tryz.func12 Tryz.call12 (by kernel_rfl)
theorem c14 : Ck 14 ir_usufructref33_Now := FnChk_of Tryz.func14 Tryz.call14 (by kernel_rfl)
theorem c13 : Ck 13 ir_usufructref33_One := FnChk_of Tryz.func13 Tryz.call13 (by kernel_rfl)
theorem c43 : Ck 43 ir_usufructref16_with := FnChk_of Tryz.func43 Tryz.call43 (by kernel_rfl)
theorem c104 : Ck 104 ir_usufructref13_Decimal := FnChk_of Tryz.func104 Tryz.call104 (by kernel_rfl)
theorem c64 : Ck 64 ir_usufructref13_Key := FnChk_of Tryz.func64 Tryz.call64 (by kernel_rfl)
theorem c103 : Ck 103 ir_usufructref01_Of := FnChk_of Tryz.func103 Tryz.call103 (by kernel_rfl)
theorem c63 : Ck 63 ir_usufructref01_Add := FnChk_of Tryz.func63 Tryz.call63 (by kernel_rfl)
theorem c39 : Ck 39 ir_usufructref14_Emit := FnChk_of Tryz.func39 Tryz.call39 (by kernel_rfl)
theorem c62 : Ck 62 ir_usufructref13_End := FnChk_of Tryz.func62 Tryz.call62 (by kernel_rfl)
theorem c41 : Ck 41 ir_usufructref14_Over := FnChk_of Tryz.func41 Tryz.call41 (by kernel_rfl)
theorem c61 : Ck 61 ir_usufructref14_Plan := FnChk_of Tryz.func61 Tryz.call61 (by kernel_rfl)
theorem c60 : Ck 60 ir_usufructref14_tick := FnChk_of Tryz.func60 Tryz.call60 (by kernel_rfl)
theorem c98 : Ck 98 ir_usufructref11_Good := FnChk_of Tryz.func98 Tryz.call98 (by kernel_rfl)
theorem c99 : Ck 99 ir_usufructref02_At := FnChk_of Tryz.func99 Tryz.call99 (by kernel_rfl)
theorem c102 : Ck 102 ir_usufructref02_Runes := FnChk_of Tryz.func102 Tryz.call102 (by kernel_rfl)
theorem c101 : Ck 101 ir_usufructref02_letter := FnChk_of Tryz.func101 Tryz.call101 (by kernel_rfl)
theorem c100 : Ck 100 ir_usufructref02_may := FnChk_of Tryz.func100 Tryz.call100 (by kernel_rfl)
theorem c58 : Ck 58 ir_usufructref02_Good := FnChk_of Tryz.func58 Tryz.call58 (by kernel_rfl)
theorem c57 : Ck 57 ir_usufructref13_Check := FnChk_of Tryz.func57 Tryz.call57 (by kernel_rfl)
theorem c59 : Ck 59 ir_usufructref14_Good := FnChk_of Tryz.func59 Tryz.call59 (by kernel_rfl)
theorem c37 : Ck 37 ir_usufructref14_Check := FnChk_of Tryz.func37 Tryz.call37 (by kernel_rfl)
theorem c38 : Ck 38 ir_usufructref14_May := FnChk_of Tryz.func38 Tryz.call38 (by kernel_rfl)
theorem c69 : Ck 69 ir_usufructref14_end := FnChk_of Tryz.func69 Tryz.call69 (by kernel_rfl)
theorem c68 : Ck 68 ir_usufructref14_put := FnChk_of Tryz.func68 Tryz.call68 (by kernel_rfl)
theorem c67 : Ck 67 ir_usufructref14_Back := FnChk_of Tryz.func67 Tryz.call67 (by kernel_rfl)
theorem c129 : Ck 129 ir_usufructref01_Times := FnChk_of Tryz.func129 Tryz.call129 (by kernel_rfl)
theorem c105 : Ck 105 ir_usufructref11_Wait := FnChk_of Tryz.func105 Tryz.call105 (by kernel_rfl)
theorem c66 : Ck 66 ir_usufructref14_Fails := FnChk_of Tryz.func66 Tryz.call66 (by kernel_rfl)
theorem c65 : Ck 65 ir_usufructref14_Done := FnChk_of Tryz.func65 Tryz.call65 (by kernel_rfl)
theorem c40 : Ck 40 ir_usufructref14_Reply := FnChk_of Tryz.func40 Tryz.call40 (by kernel_rfl)
theorem c42 : Ck 42 ir_usufructref14_Do := FnChk_of Tryz.func42 Tryz.call42 (by kernel_rfl)
theorem c35 : Ck 35 ir_usufructref16_Def := FnChk_of Tryz.func35 Tryz.call35 (by kernel_rfl)
theorem c34 : Ck 34 ir_usufructref16_Good := FnChk_of Tryz.func34 Tryz.call34 (by kernel_rfl)
theorem c33 : Ck 33 ir_usufructref15_Good := FnChk_of Tryz.func33 Tryz.call33 (by kernel_rfl)
theorem c20 : Ck 20 ir_usufructref16_Do := FnChk_of Tryz.func20 Tryz.call20 (by kernel_rfl)
theorem c11 : Ck 11 ir_usufructref24_Follow := FnChk_of Tryz.func11 Tryz.call11 (by kernel_rfl)
theorem c4 : Ck 4 ir_usufructlaw33_FeedTells := FnChk_of Tryz.func4 Tryz.call4 (by kernel_rfl)
theorem c130 : Ck 130 ir_slices_swapRangeCmpFunc_api_Change := FnChk_of Tryz.func130 Tryz.call130 (by kernel_rfl)
theorem c107 : Ck 107 ir_slices_rotateCmpFunc_api_Change := FnChk_of Tryz.func107 Tryz.call107 (by kernel_rfl)
theorem c72 : Ck 72 ir_slices_symMergeCmpFunc_api_Change := FnChk_of Tryz.func72 Tryz.call72 (by kernel_rfl)
theorem c71 : Ck 71 ir_slices_insertionSortCmpFunc_api_Change := FnChk_of Tryz.func71 Tryz.call71 (by kernel_rfl)
theorem c48 : Ck 48 ir_slices_stableCmpFunc_api_Change := FnChk_of Tryz.func48 Tryz.call48 (by kernel_rfl)
theorem c27 : Ck 27 ir_slices_SortStableFunc_api_Change_api_Change := FnChk_of Tryz.func27 Tryz.call27 (by kernel_rfl)
theorem c49 : Ck 49 ir_cmp_isNaN_int := FnChk_of Tryz.func49 Tryz.call49 (by kernel_rfl)
theorem c29 : Ck 29 ir_cmp_Compare_int := FnChk_of Tryz.func29 Tryz.call29 (by kernel_rfl)
theorem c28 : Ck 28 ir_feed_Latest_1 := FnChk_of Tryz.func28 Tryz.call28 (by kernel_rfl)
theorem c17 : Ck 17 ir_feed_Latest := FnChk_of Tryz.func17 Tryz.call17 (by kernel_rfl)
theorem c44 : Ck 44 ir_slices_BinarySearchFunc_api_Phased_api_Phased_int := FnChk_of Tryz.func44 Tryz.call44 (by kernel_rfl)
theorem c45 : Ck 45 ir_feed_find_1 := FnChk_of Tryz.func45 Tryz.call45 (by kernel_rfl)
theorem c24 : Ck 24 ir_feed_find := FnChk_of Tryz.func24 Tryz.call24 (by kernel_rfl)
theorem c23 : Ck 23 ir_slices_Clone_api_Phased_api_Phased := FnChk_of Tryz.func23 Tryz.call23 (by kernel_rfl)
theorem c22 : Ck 22 ir_feed_rises := FnChk_of Tryz.func22 Tryz.call22 (by kernel_rfl)
theorem c16 : Ck 16 ir_feed_Apply := FnChk_of Tryz.func16 Tryz.call16 (by kernel_rfl)
theorem c5 : Ck 5 ir_usufructlaw33_FeedLeads := FnChk_of Tryz.func5 Tryz.call5 (by kernel_rfl)
theorem fns_ok : ∀ f fd, fns f = some fd → FnChk Tryz.prog f fd := by
  intro f fd h
  unfold fns at h
  split at h
  · cases h; exact c3
  · cases h; exact c4
  · cases h; exact c5
  · cases h; exact c6
  · cases h; exact c7
  · cases h; exact c8
  · cases h; exact c9
  · cases h; exact c10
  · cases h; exact c11
  · cases h; exact c12
  · cases h; exact c13
  · cases h; exact c14
  · cases h; exact c15
  · cases h; exact c16
  · cases h; exact c17
  · cases h; exact c18
  · cases h; exact c19
  · cases h; exact c20
  · cases h; exact c21
  · cases h; exact c22
  · cases h; exact c23
  · cases h; exact c24
  · cases h; exact c27
  · cases h; exact c28
  · cases h; exact c29
  · cases h; exact c30
  · cases h; exact c31
  · cases h; exact c32
  · cases h; exact c33
  · cases h; exact c34
  · cases h; exact c35
  · cases h; exact c36
  · cases h; exact c37
  · cases h; exact c38
  · cases h; exact c39
  · cases h; exact c40
  · cases h; exact c41
  · cases h; exact c42
  · cases h; exact c43
  · cases h; exact c44
  · cases h; exact c45
  · cases h; exact c48
  · cases h; exact c49
  · cases h; exact c50
  · cases h; exact c51
  · cases h; exact c52
  · cases h; exact c53
  · cases h; exact c54
  · cases h; exact c55
  · cases h; exact c56
  · cases h; exact c57
  · cases h; exact c58
  · cases h; exact c59
  · cases h; exact c60
  · cases h; exact c61
  · cases h; exact c62
  · cases h; exact c63
  · cases h; exact c64
  · cases h; exact c65
  · cases h; exact c66
  · cases h; exact c67
  · cases h; exact c68
  · cases h; exact c69
  · cases h; exact c71
  · cases h; exact c72
  · cases h; exact c73
  · cases h; exact c74
  · cases h; exact c75
  · cases h; exact c76
  · cases h; exact c77
  · cases h; exact c78
  · cases h; exact c79
  · cases h; exact c80
  · cases h; exact c81
  · cases h; exact c82
  · cases h; exact c83
  · cases h; exact c84
  · cases h; exact c85
  · cases h; exact c86
  · cases h; exact c87
  · cases h; exact c88
  · cases h; exact c89
  · cases h; exact c90
  · cases h; exact c91
  · cases h; exact c93
  · cases h; exact c94
  · cases h; exact c95
  · cases h; exact c97
  · cases h; exact c98
  · cases h; exact c99
  · cases h; exact c100
  · cases h; exact c101
  · cases h; exact c102
  · cases h; exact c103
  · cases h; exact c104
  · cases h; exact c105
  · cases h; exact c107
  · cases h; exact c108
  · cases h; exact c109
  · cases h; exact c111
  · cases h; exact c112
  · cases h; exact c113
  · cases h; exact c114
  · cases h; exact c115
  · cases h; exact c116
  · cases h; exact c119
  · cases h; exact c120
  · cases h; exact c121
  · cases h; exact c122
  · cases h; exact c123
  · cases h; exact c124
  · cases h; exact c125
  · cases h; exact c126
  · cases h; exact c127
  · cases h; exact c128
  · cases h; exact c129
  · cases h; exact c130
  · cases h; exact c131
  · cases h; exact c132
  · cases h; exact c133
  · cases h; exact c135
  · cases h; exact c136
  · cases h; exact c138
  · cases h; exact c139
  · cases h; exact c140
  · cases h; exact c141
  · cases h; exact c142
  · cases h; exact c143
  · cases h; exact c144
  · cases h; exact c145
  · cases h; exact c146
  · cases h; exact c147
  · cases h; exact c148
  · cases h; exact c149
  · cases h; exact c150
  · cases h; exact c151
  · cases h; exact c153
  · cases h; exact c155
  · cases h; exact c156
  · cases h; exact c158
  · cases h; exact c159
  · cases h
end Go.Proofs.YtjidmpcgkcaeaaaGreatDoor.Ev
