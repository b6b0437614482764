import Derived.Test.YtjidmpcgkcaeaaaGreatDoorEvFn
import Derived.Test.YtjidmpcgkcaeaaaGreatDoorEvIR
import Derived.Test.YtjidmpcgkcaeaaaGreatDoorProg
import Derived.KernelRfl
namespace Go.Proofs.YtjidmpcgkcaeaaaGreatDoor.Ev
open Go.Proofs
theorem ck_usufructref33_Same : FnChk Tryz.prog f_usufructref33_Same ir_usufructref33_Same := FnChk_of Tryz.func10 Tryz.call10 (by kernel_rfl)
theorem ck_state_find_api_Saga_int_1 : FnChk Tryz.prog f_state_find_api_Saga_int_1 ir_state_find_api_Saga_int_1 := FnChk_of Tryz.func120 Tryz.call120 (by kernel_rfl)
theorem ck_slices_IndexFunc_api_Saga_api_Saga : FnChk Tryz.prog f_slices_IndexFunc_api_Saga_api_Saga ir_slices_IndexFunc_api_Saga_api_Saga := FnChk_of Tryz.func114 Tryz.call114 (by kernel_rfl)
theorem ck_state_find_api_Saga_int : FnChk Tryz.prog f_state_find_api_Saga_int ir_state_find_api_Saga_int := FnChk_of Tryz.func94 Tryz.call94 (by kernel_rfl)
theorem ck_state_number : FnChk Tryz.prog f_state_number ir_state_number := FnChk_of Tryz.func82 Tryz.call82 (by kernel_rfl)
theorem ck_state_Find : FnChk Tryz.prog f_state_Find ir_state_Find := FnChk_of Tryz.func56 Tryz.call56 (by kernel_rfl)
theorem ck_feed_phase : FnChk Tryz.prog f_feed_phase ir_feed_phase := FnChk_of Tryz.func32 Tryz.call32 (by kernel_rfl)
theorem ck_slices_Clone_api_Step_api_Step : FnChk Tryz.prog f_slices_Clone_api_Step_api_Step ir_slices_Clone_api_Step_api_Step := FnChk_of Tryz.func108 Tryz.call108 (by kernel_rfl)
theorem ck_def_Own : FnChk Tryz.prog f_def_Own ir_def_Own := FnChk_of Tryz.func73 Tryz.call73 (by kernel_rfl)
theorem ck_state_define_1 : FnChk Tryz.prog f_state_define_1 ir_state_define_1 := FnChk_of Tryz.func91 Tryz.call91 (by kernel_rfl)
theorem ck_slices_IndexFunc_api_Def_api_Def : FnChk Tryz.prog f_slices_IndexFunc_api_Def_api_Def ir_slices_IndexFunc_api_Def_api_Def := FnChk_of Tryz.func90 Tryz.call90 (by kernel_rfl)
theorem ck_state_find_api_Def_string_1 : FnChk Tryz.prog f_state_find_api_Def_string_1 ir_state_find_api_Def_string_1 := FnChk_of Tryz.func116 Tryz.call116 (by kernel_rfl)
theorem ck_state_find_api_Def_string : FnChk Tryz.prog f_state_find_api_Def_string ir_state_find_api_Def_string := FnChk_of Tryz.func89 Tryz.call89 (by kernel_rfl)
theorem ck_state_name : FnChk Tryz.prog f_state_name ir_state_name := FnChk_of Tryz.func80 Tryz.call80 (by kernel_rfl)
theorem ck_state_define : FnChk Tryz.prog f_state_define ir_state_define := FnChk_of Tryz.func53 Tryz.call53 (by kernel_rfl)
theorem ck_tick_Of : FnChk Tryz.prog f_tick_Of ir_tick_Of := FnChk_of Tryz.func119 Tryz.call119 (by kernel_rfl)
theorem ck_saga_Begin : FnChk Tryz.prog f_saga_Begin ir_saga_Begin := FnChk_of Tryz.func93 Tryz.call93 (by kernel_rfl)
theorem ck_state_Def : FnChk Tryz.prog f_state_Def ir_state_Def := FnChk_of Tryz.func87 Tryz.call87 (by kernel_rfl)
theorem ck_state_start : FnChk Tryz.prog f_state_start ir_state_start := FnChk_of Tryz.func54 Tryz.call54 (by kernel_rfl)
theorem ck_def_way : FnChk Tryz.prog f_def_way ir_def_way := FnChk_of Tryz.func155 Tryz.call155 (by kernel_rfl)
theorem ck_def_Key : FnChk Tryz.prog f_def_Key ir_def_Key := FnChk_of Tryz.func141 Tryz.call141 (by kernel_rfl)
theorem ck_tick_Add : FnChk Tryz.prog f_tick_Add ir_tick_Add := FnChk_of Tryz.func140 Tryz.call140 (by kernel_rfl)
theorem ck_def_End : FnChk Tryz.prog f_def_End ir_def_End := FnChk_of Tryz.func146 Tryz.call146 (by kernel_rfl)
theorem ck_saga_ahead : FnChk Tryz.prog f_saga_ahead ir_saga_ahead := FnChk_of Tryz.func153 Tryz.call153 (by kernel_rfl)
theorem ck_tick_Due : FnChk Tryz.prog f_tick_Due ir_tick_Due := FnChk_of Tryz.func145 Tryz.call145 (by kernel_rfl)
theorem ck_saga_plan : FnChk Tryz.prog f_saga_plan ir_saga_plan := FnChk_of Tryz.func136 Tryz.call136 (by kernel_rfl)
theorem ck_backoff_Good : FnChk Tryz.prog f_backoff_Good ir_backoff_Good := FnChk_of Tryz.func133 Tryz.call133 (by kernel_rfl)
theorem ck_backoff_Left : FnChk Tryz.prog f_backoff_Left ir_backoff_Left := FnChk_of Tryz.func135 Tryz.call135 (by kernel_rfl)
theorem ck_saga_may : FnChk Tryz.prog f_saga_may ir_saga_may := FnChk_of Tryz.func139 Tryz.call139 (by kernel_rfl)
theorem ck_saga_Over : FnChk Tryz.prog f_saga_Over ir_saga_Over := FnChk_of Tryz.func95 Tryz.call95 (by kernel_rfl)
theorem ck_saga_tries : FnChk Tryz.prog f_saga_tries ir_saga_tries := FnChk_of Tryz.func115 Tryz.call115 (by kernel_rfl)
theorem ck_tick_Good : FnChk Tryz.prog f_tick_Good ir_tick_Good := FnChk_of Tryz.func75 Tryz.call75 (by kernel_rfl)
theorem ck_def_step_1 : FnChk Tryz.prog f_def_step_1 ir_def_step_1 := FnChk_of Tryz.func132 Tryz.call132 (by kernel_rfl)
theorem ck_slices_IndexFunc_api_Step_api_Step : FnChk Tryz.prog f_slices_IndexFunc_api_Step_api_Step ir_slices_IndexFunc_api_Step_api_Step := FnChk_of Tryz.func151 Tryz.call151 (by kernel_rfl)
theorem ck_slices_ContainsFunc_api_Step_api_Step : FnChk Tryz.prog f_slices_ContainsFunc_api_Step_api_Step ir_slices_ContainsFunc_api_Step_api_Step := FnChk_of Tryz.func131 Tryz.call131 (by kernel_rfl)
theorem ck_label_letter : FnChk Tryz.prog f_label_letter ir_label_letter := FnChk_of Tryz.func113 Tryz.call113 (by kernel_rfl)
theorem ck_label_may : FnChk Tryz.prog f_label_may ir_label_may := FnChk_of Tryz.func112 Tryz.call112 (by kernel_rfl)
theorem ck_label_Runes : FnChk Tryz.prog f_label_Runes ir_label_Runes := FnChk_of Tryz.func111 Tryz.call111 (by kernel_rfl)
theorem ck_label_Good : FnChk Tryz.prog f_label_Good ir_label_Good := FnChk_of Tryz.func78 Tryz.call78 (by kernel_rfl)
theorem ck_def_step : FnChk Tryz.prog f_def_step ir_def_step := FnChk_of Tryz.func109 Tryz.call109 (by kernel_rfl)
theorem ck_def_Check : FnChk Tryz.prog f_def_Check ir_def_Check := FnChk_of Tryz.func77 Tryz.call77 (by kernel_rfl)
theorem ck_saga_Good : FnChk Tryz.prog f_saga_Good ir_saga_Good := FnChk_of Tryz.func88 Tryz.call88 (by kernel_rfl)
theorem ck_saga_check : FnChk Tryz.prog f_saga_check ir_saga_check := FnChk_of Tryz.func138 Tryz.call138 (by kernel_rfl)
theorem ck_saga_Emit : FnChk Tryz.prog f_saga_Emit ir_saga_Emit := FnChk_of Tryz.func121 Tryz.call121 (by kernel_rfl)
theorem ck_tick_Times : FnChk Tryz.prog f_tick_Times ir_tick_Times := FnChk_of Tryz.func158 Tryz.call158 (by kernel_rfl)
theorem ck_tick_Pow : FnChk Tryz.prog f_tick_Pow ir_tick_Pow := FnChk_of Tryz.func159 Tryz.call159 (by kernel_rfl)
theorem ck_backoff_Wait : FnChk Tryz.prog f_backoff_Wait ir_backoff_Wait := FnChk_of Tryz.func156 Tryz.call156 (by kernel_rfl)
theorem ck_saga_at : FnChk Tryz.prog f_saga_at ir_saga_at := FnChk_of Tryz.func149 Tryz.call149 (by kernel_rfl)
theorem ck_saga_over : FnChk Tryz.prog f_saga_over ir_saga_over := FnChk_of Tryz.func150 Tryz.call150 (by kernel_rfl)
theorem ck_saga_back : FnChk Tryz.prog f_saga_back ir_saga_back := FnChk_of Tryz.func147 Tryz.call147 (by kernel_rfl)
theorem ck_saga_fails : FnChk Tryz.prog f_saga_fails ir_saga_fails := FnChk_of Tryz.func144 Tryz.call144 (by kernel_rfl)
theorem ck_saga_done : FnChk Tryz.prog f_saga_done ir_saga_done := FnChk_of Tryz.func143 Tryz.call143 (by kernel_rfl)
theorem ck_saga_accepted : FnChk Tryz.prog f_saga_accepted ir_saga_accepted := FnChk_of Tryz.func142 Tryz.call142 (by kernel_rfl)
theorem ck_saga_Reply : FnChk Tryz.prog f_saga_Reply ir_saga_Reply := FnChk_of Tryz.func122 Tryz.call122 (by kernel_rfl)
theorem ck_saga_Late : FnChk Tryz.prog f_saga_Late ir_saga_Late := FnChk_of Tryz.func123 Tryz.call123 (by kernel_rfl)
theorem ck_saga_Expire : FnChk Tryz.prog f_saga_Expire ir_saga_Expire := FnChk_of Tryz.func124 Tryz.call124 (by kernel_rfl)
theorem ck_saga_Cancel : FnChk Tryz.prog f_saga_Cancel ir_saga_Cancel := FnChk_of Tryz.func125 Tryz.call125 (by kernel_rfl)
theorem ck_saga_parked : FnChk Tryz.prog f_saga_parked ir_saga_parked := FnChk_of Tryz.func148 Tryz.call148 (by kernel_rfl)
theorem ck_saga_Retry : FnChk Tryz.prog f_saga_Retry ir_saga_Retry := FnChk_of Tryz.func126 Tryz.call126 (by kernel_rfl)
theorem ck_saga_Skip : FnChk Tryz.prog f_saga_Skip ir_saga_Skip := FnChk_of Tryz.func127 Tryz.call127 (by kernel_rfl)
theorem ck_saga_Abandon : FnChk Tryz.prog f_saga_Abandon ir_saga_Abandon := FnChk_of Tryz.func128 Tryz.call128 (by kernel_rfl)
theorem ck_state_call : FnChk Tryz.prog f_state_call ir_state_call := FnChk_of Tryz.func97 Tryz.call97 (by kernel_rfl)
theorem ck_state_step : FnChk Tryz.prog f_state_step ir_state_step := FnChk_of Tryz.func55 Tryz.call55 (by kernel_rfl)
theorem ck_state_Good_2 : FnChk Tryz.prog f_state_Good_2 ir_state_Good_2 := FnChk_of Tryz.func86 Tryz.call86 (by kernel_rfl)
theorem ck_slices_ContainsFunc_api_Saga_api_Saga : FnChk Tryz.prog f_slices_ContainsFunc_api_Saga_api_Saga ir_slices_ContainsFunc_api_Saga_api_Saga := FnChk_of Tryz.func85 Tryz.call85 (by kernel_rfl)
theorem ck_slices_ContainsFunc_api_Def_api_Def : FnChk Tryz.prog f_slices_ContainsFunc_api_Def_api_Def ir_slices_ContainsFunc_api_Def_api_Def := FnChk_of Tryz.func83 Tryz.call83 (by kernel_rfl)
theorem ck_state_Good_1 : FnChk Tryz.prog f_state_Good_1 ir_state_Good_1 := FnChk_of Tryz.func84 Tryz.call84 (by kernel_rfl)
theorem ck_state_rises_api_Def_string : FnChk Tryz.prog f_state_rises_api_Def_string ir_state_rises_api_Def_string := FnChk_of Tryz.func79 Tryz.call79 (by kernel_rfl)
theorem ck_state_rises_api_Saga_int : FnChk Tryz.prog f_state_rises_api_Saga_int ir_state_rises_api_Saga_int := FnChk_of Tryz.func81 Tryz.call81 (by kernel_rfl)
theorem ck_state_Good : FnChk Tryz.prog f_state_Good ir_state_Good := FnChk_of Tryz.func52 Tryz.call52 (by kernel_rfl)
theorem ck_code_empty : FnChk Tryz.prog f_code_empty ir_code_empty := FnChk_of Tryz.func76 Tryz.call76 (by kernel_rfl)
theorem ck_code_Good : FnChk Tryz.prog f_code_Good ir_code_Good := FnChk_of Tryz.func51 Tryz.call51 (by kernel_rfl)
theorem ck_slices_Clone_api_Saga_api_Saga : FnChk Tryz.prog f_slices_Clone_api_Saga_api_Saga ir_slices_Clone_api_Saga_api_Saga := FnChk_of Tryz.func74 Tryz.call74 (by kernel_rfl)
theorem ck_state_own : FnChk Tryz.prog f_state_own ir_state_own := FnChk_of Tryz.func50 Tryz.call50 (by kernel_rfl)
theorem ck_state_Do : FnChk Tryz.prog f_state_Do ir_state_Do := FnChk_of Tryz.func31 Tryz.call31 (by kernel_rfl)
theorem ck_feed_follow : FnChk Tryz.prog f_feed_follow ir_feed_follow := FnChk_of Tryz.func19 Tryz.call19 (by kernel_rfl)
theorem ck_feed_Of : FnChk Tryz.prog f_feed_Of ir_feed_Of := FnChk_of Tryz.func8 Tryz.call8 (by kernel_rfl)
theorem ck_feed_Page : FnChk Tryz.prog f_feed_Page ir_feed_Page := FnChk_of Tryz.func9 Tryz.call9 (by kernel_rfl)
theorem ck_usufructlaw13_Small : FnChk Tryz.prog f_usufructlaw13_Small ir_usufructlaw13_Small := FnChk_of Tryz.func30 Tryz.call30 (by kernel_rfl)
theorem ck_usufructlaw16_Short : FnChk Tryz.prog f_usufructlaw16_Short ir_usufructlaw16_Short := FnChk_of Tryz.func18 Tryz.call18 (by kernel_rfl)
theorem ck_usufructlaw33_few : FnChk Tryz.prog f_usufructlaw33_few ir_usufructlaw33_few := FnChk_of Tryz.func7 Tryz.call7 (by kernel_rfl)
theorem ck_usufructlaw33_awake : FnChk Tryz.prog f_usufructlaw33_awake ir_usufructlaw33_awake := FnChk_of Tryz.func6 Tryz.call6 (by kernel_rfl)
theorem ck_usufructlaw33_FeedPages : FnChk Tryz.prog f_usufructlaw33_FeedPages ir_usufructlaw33_FeedPages := FnChk_of Tryz.func3 Tryz.call3 (by kernel_rfl)
theorem ck_usufructref16_Find : FnChk Tryz.prog f_usufructref16_Find ir_usufructref16_Find := FnChk_of Tryz.func36 Tryz.call36 (by kernel_rfl)
theorem ck_usufructref33_phase : FnChk Tryz.prog f_usufructref33_phase ir_usufructref33_phase := FnChk_of Tryz.func21 Tryz.call21 (by kernel_rfl)
theorem ck_usufructref33_Of : FnChk Tryz.prog f_usufructref33_Of ir_usufructref33_Of := FnChk_of Tryz.func15 Tryz.call15 (by kernel_rfl)
theorem ck_feed_Now : FnChk Tryz.prog f_feed_Now ir_feed_Now := FnChk_of Tryz.func12 Tryz.call12 (by kernel_rfl)
theorem ck_usufructref33_Now : FnChk Tryz.prog f_usufructref33_Now ir_usufructref33_Now := FnChk_of Tryz.func14 Tryz.call14 (by kernel_rfl)
theorem ck_usufructref33_One : FnChk Tryz.prog f_usufructref33_One ir_usufructref33_One := FnChk_of Tryz.func13 Tryz.call13 (by kernel_rfl)
theorem ck_usufructref16_with : FnChk Tryz.prog f_usufructref16_with ir_usufructref16_with := FnChk_of Tryz.func43 Tryz.call43 (by kernel_rfl)
theorem ck_usufructref13_Decimal : FnChk Tryz.prog f_usufructref13_Decimal ir_usufructref13_Decimal := FnChk_of Tryz.func104 Tryz.call104 (by kernel_rfl)
theorem ck_usufructref13_Key : FnChk Tryz.prog f_usufructref13_Key ir_usufructref13_Key := FnChk_of Tryz.func64 Tryz.call64 (by kernel_rfl)
theorem ck_usufructref01_Of : FnChk Tryz.prog f_usufructref01_Of ir_usufructref01_Of := FnChk_of Tryz.func103 Tryz.call103 (by kernel_rfl)
theorem ck_usufructref01_Add : FnChk Tryz.prog f_usufructref01_Add ir_usufructref01_Add := FnChk_of Tryz.func63 Tryz.call63 (by kernel_rfl)
theorem ck_usufructref14_Emit : FnChk Tryz.prog f_usufructref14_Emit ir_usufructref14_Emit := FnChk_of Tryz.func39 Tryz.call39 (by kernel_rfl)
theorem ck_usufructref13_End : FnChk Tryz.prog f_usufructref13_End ir_usufructref13_End := FnChk_of Tryz.func62 Tryz.call62 (by kernel_rfl)
theorem ck_usufructref14_Over : FnChk Tryz.prog f_usufructref14_Over ir_usufructref14_Over := FnChk_of Tryz.func41 Tryz.call41 (by kernel_rfl)
theorem ck_usufructref14_Plan : FnChk Tryz.prog f_usufructref14_Plan ir_usufructref14_Plan := FnChk_of Tryz.func61 Tryz.call61 (by kernel_rfl)
theorem ck_usufructref14_tick : FnChk Tryz.prog f_usufructref14_tick ir_usufructref14_tick := FnChk_of Tryz.func60 Tryz.call60 (by kernel_rfl)
theorem ck_usufructref11_Good : FnChk Tryz.prog f_usufructref11_Good ir_usufructref11_Good := FnChk_of Tryz.func98 Tryz.call98 (by kernel_rfl)
theorem ck_usufructref02_At : FnChk Tryz.prog f_usufructref02_At ir_usufructref02_At := FnChk_of Tryz.func99 Tryz.call99 (by kernel_rfl)
theorem ck_usufructref02_Runes : FnChk Tryz.prog f_usufructref02_Runes ir_usufructref02_Runes := FnChk_of Tryz.func102 Tryz.call102 (by kernel_rfl)
theorem ck_usufructref02_letter : FnChk Tryz.prog f_usufructref02_letter ir_usufructref02_letter := FnChk_of Tryz.func101 Tryz.call101 (by kernel_rfl)
theorem ck_usufructref02_may : FnChk Tryz.prog f_usufructref02_may ir_usufructref02_may := FnChk_of Tryz.func100 Tryz.call100 (by kernel_rfl)
theorem ck_usufructref02_Good : FnChk Tryz.prog f_usufructref02_Good ir_usufructref02_Good := FnChk_of Tryz.func58 Tryz.call58 (by kernel_rfl)
theorem ck_usufructref13_Check : FnChk Tryz.prog f_usufructref13_Check ir_usufructref13_Check := FnChk_of Tryz.func57 Tryz.call57 (by kernel_rfl)
theorem ck_usufructref14_Good : FnChk Tryz.prog f_usufructref14_Good ir_usufructref14_Good := FnChk_of Tryz.func59 Tryz.call59 (by kernel_rfl)
theorem ck_usufructref14_Check : FnChk Tryz.prog f_usufructref14_Check ir_usufructref14_Check := FnChk_of Tryz.func37 Tryz.call37 (by kernel_rfl)
theorem ck_usufructref14_May : FnChk Tryz.prog f_usufructref14_May ir_usufructref14_May := FnChk_of Tryz.func38 Tryz.call38 (by kernel_rfl)
theorem ck_usufructref14_end : FnChk Tryz.prog f_usufructref14_end ir_usufructref14_end := FnChk_of Tryz.func69 Tryz.call69 (by kernel_rfl)
theorem ck_usufructref14_put : FnChk Tryz.prog f_usufructref14_put ir_usufructref14_put := FnChk_of Tryz.func68 Tryz.call68 (by kernel_rfl)
theorem ck_usufructref14_Back : FnChk Tryz.prog f_usufructref14_Back ir_usufructref14_Back := FnChk_of Tryz.func67 Tryz.call67 (by kernel_rfl)
theorem ck_usufructref01_Times : FnChk Tryz.prog f_usufructref01_Times ir_usufructref01_Times := FnChk_of Tryz.func129 Tryz.call129 (by kernel_rfl)
theorem ck_usufructref11_Wait : FnChk Tryz.prog f_usufructref11_Wait ir_usufructref11_Wait := FnChk_of Tryz.func105 Tryz.call105 (by kernel_rfl)
theorem ck_usufructref14_Fails : FnChk Tryz.prog f_usufructref14_Fails ir_usufructref14_Fails := FnChk_of Tryz.func66 Tryz.call66 (by kernel_rfl)
theorem ck_usufructref14_Done : FnChk Tryz.prog f_usufructref14_Done ir_usufructref14_Done := FnChk_of Tryz.func65 Tryz.call65 (by kernel_rfl)
theorem ck_usufructref14_Reply : FnChk Tryz.prog f_usufructref14_Reply ir_usufructref14_Reply := FnChk_of Tryz.func40 Tryz.call40 (by kernel_rfl)
theorem ck_usufructref14_Do : FnChk Tryz.prog f_usufructref14_Do ir_usufructref14_Do := FnChk_of Tryz.func42 Tryz.call42 (by kernel_rfl)
theorem ck_usufructref16_Def : FnChk Tryz.prog f_usufructref16_Def ir_usufructref16_Def := FnChk_of Tryz.func35 Tryz.call35 (by kernel_rfl)
theorem ck_usufructref16_Good : FnChk Tryz.prog f_usufructref16_Good ir_usufructref16_Good := FnChk_of Tryz.func34 Tryz.call34 (by kernel_rfl)
theorem ck_usufructref15_Good : FnChk Tryz.prog f_usufructref15_Good ir_usufructref15_Good := FnChk_of Tryz.func33 Tryz.call33 (by kernel_rfl)
theorem ck_usufructref16_Do : FnChk Tryz.prog f_usufructref16_Do ir_usufructref16_Do := FnChk_of Tryz.func20 Tryz.call20 (by kernel_rfl)
theorem ck_usufructref24_Follow : FnChk Tryz.prog f_usufructref24_Follow ir_usufructref24_Follow := FnChk_of Tryz.func11 Tryz.call11 (by kernel_rfl)
theorem ck_usufructlaw33_FeedTells : FnChk Tryz.prog f_usufructlaw33_FeedTells ir_usufructlaw33_FeedTells := FnChk_of Tryz.func4 Tryz.call4 (by kernel_rfl)
theorem fns_ok : ∀ f fd, fns f = some fd → FnChk Tryz.prog f fd := by
  intro f fd h
  unfold fns at h
  split at h
  · cases h; exact ck_usufructlaw33_FeedPages
  · cases h; exact ck_usufructlaw33_FeedTells
  · cases h; exact ck_usufructlaw33_awake
  · cases h; exact ck_usufructlaw33_few
  · cases h; exact ck_feed_Of
  · cases h; exact ck_feed_Page
  · cases h; exact ck_usufructref33_Same
  · cases h; exact ck_usufructref24_Follow
  · cases h; exact ck_feed_Now
  · cases h; exact ck_usufructref33_One
  · cases h; exact ck_usufructref33_Now
  · cases h; exact ck_usufructref33_Of
  · cases h; exact ck_usufructlaw16_Short
  · cases h; exact ck_feed_follow
  · cases h; exact ck_usufructref16_Do
  · cases h; exact ck_usufructref33_phase
  · cases h; exact ck_usufructlaw13_Small
  · cases h; exact ck_state_Do
  · cases h; exact ck_feed_phase
  · cases h; exact ck_usufructref15_Good
  · cases h; exact ck_usufructref16_Good
  · cases h; exact ck_usufructref16_Def
  · cases h; exact ck_usufructref16_Find
  · cases h; exact ck_usufructref14_Check
  · cases h; exact ck_usufructref14_May
  · cases h; exact ck_usufructref14_Emit
  · cases h; exact ck_usufructref14_Reply
  · cases h; exact ck_usufructref14_Over
  · cases h; exact ck_usufructref14_Do
  · cases h; exact ck_usufructref16_with
  · cases h; exact ck_state_own
  · cases h; exact ck_code_Good
  · cases h; exact ck_state_Good
  · cases h; exact ck_state_define
  · cases h; exact ck_state_start
  · cases h; exact ck_state_step
  · cases h; exact ck_state_Find
  · cases h; exact ck_usufructref13_Check
  · cases h; exact ck_usufructref02_Good
  · cases h; exact ck_usufructref14_Good
  · cases h; exact ck_usufructref14_tick
  · cases h; exact ck_usufructref14_Plan
  · cases h; exact ck_usufructref13_End
  · cases h; exact ck_usufructref01_Add
  · cases h; exact ck_usufructref13_Key
  · cases h; exact ck_usufructref14_Done
  · cases h; exact ck_usufructref14_Fails
  · cases h; exact ck_usufructref14_Back
  · cases h; exact ck_usufructref14_put
  · cases h; exact ck_usufructref14_end
  · cases h; exact ck_def_Own
  · cases h; exact ck_slices_Clone_api_Saga_api_Saga
  · cases h; exact ck_tick_Good
  · cases h; exact ck_code_empty
  · cases h; exact ck_def_Check
  · cases h; exact ck_label_Good
  · cases h; exact ck_state_rises_api_Def_string
  · cases h; exact ck_state_name
  · cases h; exact ck_state_rises_api_Saga_int
  · cases h; exact ck_state_number
  · cases h; exact ck_slices_ContainsFunc_api_Def_api_Def
  · cases h; exact ck_state_Good_1
  · cases h; exact ck_slices_ContainsFunc_api_Saga_api_Saga
  · cases h; exact ck_state_Good_2
  · cases h; exact ck_state_Def
  · cases h; exact ck_saga_Good
  · cases h; exact ck_state_find_api_Def_string
  · cases h; exact ck_slices_IndexFunc_api_Def_api_Def
  · cases h; exact ck_state_define_1
  · cases h; exact ck_saga_Begin
  · cases h; exact ck_state_find_api_Saga_int
  · cases h; exact ck_saga_Over
  · cases h; exact ck_state_call
  · cases h; exact ck_usufructref11_Good
  · cases h; exact ck_usufructref02_At
  · cases h; exact ck_usufructref02_may
  · cases h; exact ck_usufructref02_letter
  · cases h; exact ck_usufructref02_Runes
  · cases h; exact ck_usufructref01_Of
  · cases h; exact ck_usufructref13_Decimal
  · cases h; exact ck_usufructref11_Wait
  · cases h; exact ck_slices_Clone_api_Step_api_Step
  · cases h; exact ck_def_step
  · cases h; exact ck_label_Runes
  · cases h; exact ck_label_may
  · cases h; exact ck_label_letter
  · cases h; exact ck_slices_IndexFunc_api_Saga_api_Saga
  · cases h; exact ck_saga_tries
  · cases h; exact ck_state_find_api_Def_string_1
  · cases h; exact ck_tick_Of
  · cases h; exact ck_state_find_api_Saga_int_1
  · cases h; exact ck_saga_Emit
  · cases h; exact ck_saga_Reply
  · cases h; exact ck_saga_Late
  · cases h; exact ck_saga_Expire
  · cases h; exact ck_saga_Cancel
  · cases h; exact ck_saga_Retry
  · cases h; exact ck_saga_Skip
  · cases h; exact ck_saga_Abandon
  · cases h; exact ck_usufructref01_Times
  · cases h; exact ck_slices_ContainsFunc_api_Step_api_Step
  · cases h; exact ck_def_step_1
  · cases h; exact ck_backoff_Good
  · cases h; exact ck_backoff_Left
  · cases h; exact ck_saga_plan
  · cases h; exact ck_saga_check
  · cases h; exact ck_saga_may
  · cases h; exact ck_tick_Add
  · cases h; exact ck_def_Key
  · cases h; exact ck_saga_accepted
  · cases h; exact ck_saga_done
  · cases h; exact ck_saga_fails
  · cases h; exact ck_tick_Due
  · cases h; exact ck_def_End
  · cases h; exact ck_saga_back
  · cases h; exact ck_saga_parked
  · cases h; exact ck_saga_at
  · cases h; exact ck_saga_over
  · cases h; exact ck_slices_IndexFunc_api_Step_api_Step
  · cases h; exact ck_saga_ahead
  · cases h; exact ck_def_way
  · cases h; exact ck_backoff_Wait
  · cases h; exact ck_tick_Times
  · cases h; exact ck_tick_Pow
  · cases h
end Go.Proofs.YtjidmpcgkcaeaaaGreatDoor.Ev
