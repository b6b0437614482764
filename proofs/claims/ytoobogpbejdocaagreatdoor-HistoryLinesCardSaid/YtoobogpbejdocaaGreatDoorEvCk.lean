import Derived.Test.YtoobogpbejdocaaGreatDoorEvFn
import Derived.Test.YtoobogpbejdocaaGreatDoorEvIR
import Derived.Test.YtoobogpbejdocaaGreatDoorProg
import Derived.KernelRfl
namespace Go.Proofs.YtoobogpbejdocaaGreatDoor.Ev
open Go.Proofs
abbrev Ck (k : Nat) (f : FnD) : Prop := FnChk Tryz.prog k f
theorem c16 : Ck 16 ir_usufructref13_Decimal := FnChk_of Tryz.func16 Tryz.call16 (by kernel_rfl)
theorem c42 : Ck 42 ir_usufructref27_Phase := FnChk_of Tryz.func42 Tryz.call42 (by kernel_rfl)
theorem c64 : Ck 64 ir_usufructref16_Def := FnChk_of Tryz.func64 Tryz.call64 (by kernel_rfl)
theorem c41 : Ck 41 ir_usufructref27_try := FnChk_of Tryz.func41 Tryz.call41 (by kernel_rfl)
theorem c65 : Ck 65 ir_usufructref16_Find := FnChk_of Tryz.func65 Tryz.call65 (by kernel_rfl)
theorem c40 : Ck 40 ir_usufructref27_saga := FnChk_of Tryz.func40 Tryz.call40 (by kernel_rfl)
theorem c15 : Ck 15 ir_usufructref27_Line := FnChk_of Tryz.func15 Tryz.call15 (by kernel_rfl)
theorem c77 : Ck 77 ir_script_Phase := FnChk_of Tryz.func77 Tryz.call77 (by kernel_rfl)
theorem c175 : Ck 175 ir_slices_Clone_api_Step_api_Step := FnChk_of Tryz.func175 Tryz.call175 (by kernel_rfl)
theorem c130 : Ck 130 ir_def_Own := FnChk_of Tryz.func130 Tryz.call130 (by kernel_rfl)
theorem c179 : Ck 179 ir_state_find_api_Def_string_1 := FnChk_of Tryz.func179 Tryz.call179 (by kernel_rfl)
theorem c146 : Ck 146 ir_slices_IndexFunc_api_Def_api_Def := FnChk_of Tryz.func146 Tryz.call146 (by kernel_rfl)
theorem c145 : Ck 145 ir_state_find_api_Def_string := FnChk_of Tryz.func145 Tryz.call145 (by kernel_rfl)
theorem c136 : Ck 136 ir_state_name := FnChk_of Tryz.func136 Tryz.call136 (by kernel_rfl)
theorem c143 : Ck 143 ir_state_Def := FnChk_of Tryz.func143 Tryz.call143 (by kernel_rfl)
theorem c111 : Ck 111 ir_history_moment_try := FnChk_of Tryz.func111 Tryz.call111 (by kernel_rfl)
theorem c76 : Ck 76 ir_history_moment_deed := FnChk_of Tryz.func76 Tryz.call76 (by kernel_rfl)
theorem c183 : Ck 183 ir_state_find_api_Saga_int_1 := FnChk_of Tryz.func183 Tryz.call183 (by kernel_rfl)
theorem c177 : Ck 177 ir_slices_IndexFunc_api_Saga_api_Saga := FnChk_of Tryz.func177 Tryz.call177 (by kernel_rfl)
theorem c150 : Ck 150 ir_state_find_api_Saga_int := FnChk_of Tryz.func150 Tryz.call150 (by kernel_rfl)
theorem c138 : Ck 138 ir_state_number := FnChk_of Tryz.func138 Tryz.call138 (by kernel_rfl)
theorem c110 : Ck 110 ir_state_Find := FnChk_of Tryz.func110 Tryz.call110 (by kernel_rfl)
theorem c75 : Ck 75 ir_history_moment_saga := FnChk_of Tryz.func75 Tryz.call75 (by kernel_rfl)
theorem c38 : Ck 38 ir_history_moment_line := FnChk_of Tryz.func38 Tryz.call38 (by kernel_rfl)
theorem c74 : Ck 74 ir_history_moments_1 := FnChk_of Tryz.func74 Tryz.call74 (by kernel_rfl)
theorem c147 : Ck 147 ir_state_define_1 := FnChk_of Tryz.func147 Tryz.call147 (by kernel_rfl)
theorem c107 : Ck 107 ir_state_define := FnChk_of Tryz.func107 Tryz.call107 (by kernel_rfl)
theorem c182 : Ck 182 ir_tick_Of := FnChk_of Tryz.func182 Tryz.call182 (by kernel_rfl)
theorem c149 : Ck 149 ir_saga_Begin := FnChk_of Tryz.func149 Tryz.call149 (by kernel_rfl)
theorem c108 : Ck 108 ir_state_start := FnChk_of Tryz.func108 Tryz.call108 (by kernel_rfl)
theorem c245 : Ck 245 ir_def_way := FnChk_of Tryz.func245 Tryz.call245 (by kernel_rfl)
theorem c225 : Ck 225 ir_def_Key := FnChk_of Tryz.func225 Tryz.call225 (by kernel_rfl)
theorem c224 : Ck 224 ir_tick_Add := FnChk_of Tryz.func224 Tryz.call224 (by kernel_rfl)
theorem c230 : Ck 230 ir_def_End := FnChk_of Tryz.func230 Tryz.call230 (by kernel_rfl)
theorem c244 : Ck 244 ir_saga_ahead := FnChk_of Tryz.func244 Tryz.call244 (by kernel_rfl)
theorem c229 : Ck 229 ir_tick_Due := FnChk_of Tryz.func229 Tryz.call229 (by kernel_rfl)
theorem c220 : Ck 220 ir_saga_plan := FnChk_of Tryz.func220 Tryz.call220 (by kernel_rfl)
theorem c218 : Ck 218 ir_backoff_Good := FnChk_of Tryz.func218 Tryz.call218 (by kernel_rfl)
theorem c219 : Ck 219 ir_backoff_Left := FnChk_of Tryz.func219 Tryz.call219 (by kernel_rfl)
theorem c223 : Ck 223 ir_saga_may := FnChk_of Tryz.func223 Tryz.call223 (by kernel_rfl)
theorem c151 : Ck 151 ir_saga_Over := FnChk_of Tryz.func151 Tryz.call151 (by kernel_rfl)
theorem c178 : Ck 178 ir_saga_tries := FnChk_of Tryz.func178 Tryz.call178 (by kernel_rfl)
theorem c132 : Ck 132 ir_tick_Good := FnChk_of Tryz.func132 Tryz.call132 (by kernel_rfl)
theorem c217 : Ck 217 ir_def_step_1 := FnChk_of Tryz.func217 Tryz.call217 (by kernel_rfl)
theorem c242 : Ck 242 ir_slices_IndexFunc_api_Step_api_Step := FnChk_of Tryz.func242 Tryz.call242 (by kernel_rfl)
theorem c216 : Ck 216 ir_slices_ContainsFunc_api_Step_api_Step := FnChk_of Tryz.func216 Tryz.call216 (by kernel_rfl)
theorem c83 : Ck 83 ir_label_letter := FnChk_of Tryz.func83 Tryz.call83 (by kernel_rfl)
theorem c82 : Ck 82 ir_label_may := FnChk_of Tryz.func82 Tryz.call82 (by kernel_rfl)
theorem c81 : Ck 81 ir_label_Runes := FnChk_of Tryz.func81 Tryz.call81 (by kernel_rfl)
theorem c45 : Ck 45 ir_label_Good := FnChk_of Tryz.func45 Tryz.call45 (by kernel_rfl)
theorem c176 : Ck 176 ir_def_step := FnChk_of Tryz.func176 Tryz.call176 (by kernel_rfl)
theorem c134 : Ck 134 ir_def_Check := FnChk_of Tryz.func134 Tryz.call134 (by kernel_rfl)
theorem c144 : Ck 144 ir_saga_Good := FnChk_of Tryz.func144 Tryz.call144 (by kernel_rfl)
theorem c222 : Ck 222 ir_saga_check := FnChk_of Tryz.func222 Tryz.call222 (by kernel_rfl)
theorem c184 : Ck 184 ir_saga_Emit := FnChk_of Tryz.func184 Tryz.call184 (by kernel_rfl)
theorem c248 : Ck 248 ir_tick_Times := FnChk_of Tryz.func248 Tryz.call248 (by kernel_rfl)
theorem c249 : Ck 249 ir_tick_Pow := FnChk_of Tryz.func249 Tryz.call249 (by kernel_rfl)
theorem c246 : Ck 246 ir_backoff_Wait := FnChk_of Tryz.func246 Tryz.call246 (by kernel_rfl)
theorem c233 : Ck 233 ir_saga_at := FnChk_of Tryz.func233 Tryz.call233 (by kernel_rfl)
theorem c234 : Ck 234 ir_saga_over := FnChk_of Tryz.func234 Tryz.call234 (by kernel_rfl)
theorem c231 : Ck 231 ir_saga_back := FnChk_of Tryz.func231 Tryz.call231 (by kernel_rfl)
theorem c228 : Ck 228 ir_saga_fails := FnChk_of Tryz.func228 Tryz.call228 (by kernel_rfl)
theorem c227 : Ck 227 ir_saga_done := FnChk_of Tryz.func227 Tryz.call227 (by kernel_rfl)
theorem c226 : Ck 226 ir_saga_accepted := FnChk_of Tryz.func226 Tryz.call226 (by kernel_rfl)
theorem c185 : Ck 185 ir_saga_Reply := FnChk_of Tryz.func185 Tryz.call185 (by kernel_rfl)
theorem c186 : Ck 186 ir_saga_Late := FnChk_of Tryz.func186 Tryz.call186 (by kernel_rfl)
theorem c187 : Ck 187 ir_saga_Expire := FnChk_of Tryz.func187 Tryz.call187 (by kernel_rfl)
theorem c188 : Ck 188 ir_saga_Cancel := FnChk_of Tryz.func188 Tryz.call188 (by kernel_rfl)
theorem c232 : Ck 232 ir_saga_parked := FnChk_of Tryz.func232 Tryz.call232 (by kernel_rfl)
theorem c189 : Ck 189 ir_saga_Retry := FnChk_of Tryz.func189 Tryz.call189 (by kernel_rfl)
theorem c190 : Ck 190 ir_saga_Skip := FnChk_of Tryz.func190 Tryz.call190 (by kernel_rfl)
theorem c191 : Ck 191 ir_saga_Abandon := FnChk_of Tryz.func191 Tryz.call191 (by kernel_rfl)
theorem c153 : Ck 153 ir_state_call := FnChk_of Tryz.func153 Tryz.call153 (by kernel_rfl)
theorem c109 : Ck 109 ir_state_step := FnChk_of Tryz.func109 Tryz.call109 (by kernel_rfl)
theorem c142 : Ck 142 ir_state_Good_2 := FnChk_of Tryz.func142 Tryz.call142 (by kernel_rfl)
theorem c141 : Ck 141 ir_slices_ContainsFunc_api_Saga_api_Saga := FnChk_of Tryz.func141 Tryz.call141 (by kernel_rfl)
theorem c139 : Ck 139 ir_slices_ContainsFunc_api_Def_api_Def := FnChk_of Tryz.func139 Tryz.call139 (by kernel_rfl)
theorem c140 : Ck 140 ir_state_Good_1 := FnChk_of Tryz.func140 Tryz.call140 (by kernel_rfl)
theorem c135 : Ck 135 ir_state_rises_api_Def_string := FnChk_of Tryz.func135 Tryz.call135 (by kernel_rfl)
theorem c137 : Ck 137 ir_state_rises_api_Saga_int := FnChk_of Tryz.func137 Tryz.call137 (by kernel_rfl)
theorem c106 : Ck 106 ir_state_Good := FnChk_of Tryz.func106 Tryz.call106 (by kernel_rfl)
theorem c133 : Ck 133 ir_code_empty := FnChk_of Tryz.func133 Tryz.call133 (by kernel_rfl)
theorem c105 : Ck 105 ir_code_Good := FnChk_of Tryz.func105 Tryz.call105 (by kernel_rfl)
theorem c131 : Ck 131 ir_slices_Clone_api_Saga_api_Saga := FnChk_of Tryz.func131 Tryz.call131 (by kernel_rfl)
theorem c104 : Ck 104 ir_state_own := FnChk_of Tryz.func104 Tryz.call104 (by kernel_rfl)
theorem c73 : Ck 73 ir_state_Do := FnChk_of Tryz.func73 Tryz.call73 (by kernel_rfl)
theorem c37 : Ck 37 ir_history_moments := FnChk_of Tryz.func37 Tryz.call37 (by kernel_rfl)
theorem c13 : Ck 13 ir_history_Of := FnChk_of Tryz.func13 Tryz.call13 (by kernel_rfl)
theorem c14 : Ck 14 ir_history_All := FnChk_of Tryz.func14 Tryz.call14 (by kernel_rfl)
theorem c72 : Ck 72 ir_usufructref16_with := FnChk_of Tryz.func72 Tryz.call72 (by kernel_rfl)
theorem c98 : Ck 98 ir_usufructref13_Key := FnChk_of Tryz.func98 Tryz.call98 (by kernel_rfl)
theorem c128 : Ck 128 ir_usufructref01_Of := FnChk_of Tryz.func128 Tryz.call128 (by kernel_rfl)
theorem c97 : Ck 97 ir_usufructref01_Add := FnChk_of Tryz.func97 Tryz.call97 (by kernel_rfl)
theorem c68 : Ck 68 ir_usufructref14_Emit := FnChk_of Tryz.func68 Tryz.call68 (by kernel_rfl)
theorem c96 : Ck 96 ir_usufructref13_End := FnChk_of Tryz.func96 Tryz.call96 (by kernel_rfl)
theorem c70 : Ck 70 ir_usufructref14_Over := FnChk_of Tryz.func70 Tryz.call70 (by kernel_rfl)
theorem c95 : Ck 95 ir_usufructref14_Plan := FnChk_of Tryz.func95 Tryz.call95 (by kernel_rfl)
theorem c94 : Ck 94 ir_usufructref14_tick := FnChk_of Tryz.func94 Tryz.call94 (by kernel_rfl)
theorem c123 : Ck 123 ir_usufructref11_Good := FnChk_of Tryz.func123 Tryz.call123 (by kernel_rfl)
theorem c124 : Ck 124 ir_usufructref02_At := FnChk_of Tryz.func124 Tryz.call124 (by kernel_rfl)
theorem c127 : Ck 127 ir_usufructref02_Runes := FnChk_of Tryz.func127 Tryz.call127 (by kernel_rfl)
theorem c126 : Ck 126 ir_usufructref02_letter := FnChk_of Tryz.func126 Tryz.call126 (by kernel_rfl)
theorem c125 : Ck 125 ir_usufructref02_may := FnChk_of Tryz.func125 Tryz.call125 (by kernel_rfl)
theorem c92 : Ck 92 ir_usufructref02_Good := FnChk_of Tryz.func92 Tryz.call92 (by kernel_rfl)
theorem c91 : Ck 91 ir_usufructref13_Check := FnChk_of Tryz.func91 Tryz.call91 (by kernel_rfl)
theorem c93 : Ck 93 ir_usufructref14_Good := FnChk_of Tryz.func93 Tryz.call93 (by kernel_rfl)
theorem c66 : Ck 66 ir_usufructref14_Check := FnChk_of Tryz.func66 Tryz.call66 (by kernel_rfl)
theorem c67 : Ck 67 ir_usufructref14_May := FnChk_of Tryz.func67 Tryz.call67 (by kernel_rfl)
theorem c103 : Ck 103 ir_usufructref14_end := FnChk_of Tryz.func103 Tryz.call103 (by kernel_rfl)
theorem c102 : Ck 102 ir_usufructref14_put := FnChk_of Tryz.func102 Tryz.call102 (by kernel_rfl)
theorem c101 : Ck 101 ir_usufructref14_Back := FnChk_of Tryz.func101 Tryz.call101 (by kernel_rfl)
theorem c174 : Ck 174 ir_usufructref01_Times := FnChk_of Tryz.func174 Tryz.call174 (by kernel_rfl)
theorem c129 : Ck 129 ir_usufructref11_Wait := FnChk_of Tryz.func129 Tryz.call129 (by kernel_rfl)
theorem c100 : Ck 100 ir_usufructref14_Fails := FnChk_of Tryz.func100 Tryz.call100 (by kernel_rfl)
theorem c99 : Ck 99 ir_usufructref14_Done := FnChk_of Tryz.func99 Tryz.call99 (by kernel_rfl)
theorem c69 : Ck 69 ir_usufructref14_Reply := FnChk_of Tryz.func69 Tryz.call69 (by kernel_rfl)
theorem c71 : Ck 71 ir_usufructref14_Do := FnChk_of Tryz.func71 Tryz.call71 (by kernel_rfl)
theorem c63 : Ck 63 ir_usufructref16_Good := FnChk_of Tryz.func63 Tryz.call63 (by kernel_rfl)
theorem c62 : Ck 62 ir_usufructref15_Good := FnChk_of Tryz.func62 Tryz.call62 (by kernel_rfl)
theorem c36 : Ck 36 ir_usufructref16_Do := FnChk_of Tryz.func36 Tryz.call36 (by kernel_rfl)
theorem c12 : Ck 12 ir_usufructref24_Follow := FnChk_of Tryz.func12 Tryz.call12 (by kernel_rfl)
theorem c61 : Ck 61 ir_usufructlaw13_Small := FnChk_of Tryz.func61 Tryz.call61 (by kernel_rfl)
theorem c35 : Ck 35 ir_usufructlaw16_Short := FnChk_of Tryz.func35 Tryz.call35 (by kernel_rfl)
theorem c11 : Ck 11 ir_usufructlaw27_few := FnChk_of Tryz.func11 Tryz.call11 (by kernel_rfl)
theorem c10 : Ck 10 ir_usufructlaw27_awake := FnChk_of Tryz.func10 Tryz.call10 (by kernel_rfl)
theorem c3 : Ck 3 ir_usufructlaw27_HistoryLines := FnChk_of Tryz.func3 Tryz.call3 (by kernel_rfl)
theorem c4 : Ck 4 ir_usufructlaw27_HistoryFewer := FnChk_of Tryz.func4 Tryz.call4 (by kernel_rfl)
theorem fns_ok : ∀ f fd, fns f = some fd → FnChk Tryz.prog f fd := by
  intro f fd h
  unfold fns at h
  split at h
  · cases h; exact c3
  · cases h; exact c4
  · cases h; exact c10
  · cases h; exact c11
  · cases h; exact c12
  · cases h; exact c13
  · cases h; exact c14
  · cases h; exact c15
  · cases h; exact c16
  · cases h; exact c35
  · cases h; exact c36
  · cases h; exact c37
  · cases h; exact c38
  · cases h; exact c40
  · cases h; exact c41
  · cases h; exact c42
  · cases h; exact c45
  · cases h; exact c61
  · cases h; exact c62
  · cases h; exact c63
  · cases h; exact c64
  · cases h; exact c65
  · cases h; exact c66
  · cases h; exact c67
  · cases h; exact c68
  · cases h; exact c69
  · cases h; exact c70
  · cases h; exact c71
  · cases h; exact c72
  · cases h; exact c73
  · cases h; exact c74
  · cases h; exact c75
  · cases h; exact c76
  · cases h; exact c77
  · cases h; exact c81
  · cases h; exact c82
  · cases h; exact c83
  · cases h; exact c91
  · cases h; exact c92
  · cases h; exact c93
  · cases h; exact c94
  · cases h; exact c95
  · cases h; exact c96
  · cases h; exact c97
  · cases h; exact c98
  · cases h; exact c99
  · cases h; exact c100
  · cases h; exact c101
  · cases h; exact c102
  · cases h; exact c103
  · cases h; exact c104
  · cases h; exact c105
  · cases h; exact c106
  · cases h; exact c107
  · cases h; exact c108
  · cases h; exact c109
  · cases h; exact c110
  · cases h; exact c111
  · cases h; exact c123
  · cases h; exact c124
  · cases h; exact c125
  · cases h; exact c126
  · cases h; exact c127
  · cases h; exact c128
  · cases h; exact c129
  · cases h; exact c130
  · cases h; exact c131
  · cases h; exact c132
  · cases h; exact c133
  · cases h; exact c134
  · cases h; exact c135
  · cases h; exact c136
  · cases h; exact c137
  · cases h; exact c138
  · cases h; exact c139
  · cases h; exact c140
  · cases h; exact c141
  · cases h; exact c142
  · cases h; exact c143
  · cases h; exact c144
  · cases h; exact c145
  · cases h; exact c146
  · cases h; exact c147
  · cases h; exact c149
  · cases h; exact c150
  · cases h; exact c151
  · cases h; exact c153
  · cases h; exact c174
  · cases h; exact c175
  · cases h; exact c176
  · cases h; exact c177
  · cases h; exact c178
  · cases h; exact c179
  · cases h; exact c182
  · cases h; exact c183
  · cases h; exact c184
  · cases h; exact c185
  · cases h; exact c186
  · cases h; exact c187
  · cases h; exact c188
  · cases h; exact c189
  · cases h; exact c190
  · cases h; exact c191
  · cases h; exact c216
  · cases h; exact c217
  · cases h; exact c218
  · cases h; exact c219
  · cases h; exact c220
  · cases h; exact c222
  · cases h; exact c223
  · cases h; exact c224
  · cases h; exact c225
  · cases h; exact c226
  · cases h; exact c227
  · cases h; exact c228
  · cases h; exact c229
  · cases h; exact c230
  · cases h; exact c231
  · cases h; exact c232
  · cases h; exact c233
  · cases h; exact c234
  · cases h; exact c242
  · cases h; exact c244
  · cases h; exact c245
  · cases h; exact c246
  · cases h; exact c248
  · cases h; exact c249
  · cases h
theorem l1001300 : LoopChk Tryz.prog 1001300 ir_history_Of_R0 := LoopChk_of (by decide) (by kernel_rfl) (by kernel_rfl)
theorem l1001400 : LoopChk Tryz.prog 1001400 ir_history_All_R0 := LoopChk_of (by decide) (by kernel_rfl) (by kernel_rfl)
theorem loops_ok : ∀ k d, loops k = some d → LoopChk Tryz.prog k d := by
  intro f fd h
  unfold loops at h
  split at h
  · cases h; exact l1001300
  · cases h; exact l1001400
  · cases h
end Go.Proofs.YtoobogpbejdocaaGreatDoor.Ev
