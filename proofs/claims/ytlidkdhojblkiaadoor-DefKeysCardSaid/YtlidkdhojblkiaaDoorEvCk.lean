/-
  Each printed function is the loaded one.
-/
import Derived.Test.YtlidkdhojblkiaaDoorEvFn
import Derived.Test.YtlidkdhojblkiaaDoorEvIR
import Derived.Test.YtlidkdhojblkiaaDoorProg
import Derived.KernelRfl
namespace Go.Proofs.YtlidkdhojblkiaaDoor.Ev
open Go.Proofs
theorem ck_tick_Of : FnChk Tryd.prog f_tick_Of ir_tick_Of := FnChk_of Tryd.func112 Tryd.call112 (by kernel_rfl)
theorem ck_tick_Add : FnChk Tryd.prog f_tick_Add ir_tick_Add := FnChk_of Tryd.func82 Tryd.call82 (by kernel_rfl)
theorem ck_def_End : FnChk Tryd.prog f_def_End ir_def_End := FnChk_of Tryd.func52 Tryd.call52 (by kernel_rfl)
theorem ck_forecast_follow : FnChk Tryd.prog f_forecast_follow ir_forecast_follow := FnChk_of Tryd.func67 Tryd.call67 (by kernel_rfl)
theorem ck_tick_Good : FnChk Tryd.prog f_tick_Good ir_tick_Good := FnChk_of Tryd.func108 Tryd.call108 (by kernel_rfl)
theorem ck_backoff_Good : FnChk Tryd.prog f_backoff_Good ir_backoff_Good := FnChk_of Tryd.func137 Tryd.call137 (by kernel_rfl)
theorem ck_def_step_1 : FnChk Tryd.prog f_def_step_1 ir_def_step_1 := FnChk_of Tryd.func136 Tryd.call136 (by kernel_rfl)
theorem ck_slices_IndexFunc_api_Step_api_Step : FnChk Tryd.prog f_slices_IndexFunc_api_Step_api_Step ir_slices_IndexFunc_api_Step_api_Step := FnChk_of Tryd.func154 Tryd.call154 (by kernel_rfl)
theorem ck_slices_ContainsFunc_api_Step_api_Step : FnChk Tryd.prog f_slices_ContainsFunc_api_Step_api_Step ir_slices_ContainsFunc_api_Step_api_Step := FnChk_of Tryd.func135 Tryd.call135 (by kernel_rfl)
theorem ck_label_letter : FnChk Tryd.prog f_label_letter ir_label_letter := FnChk_of Tryd.func131 Tryd.call131 (by kernel_rfl)
theorem ck_label_may : FnChk Tryd.prog f_label_may ir_label_may := FnChk_of Tryd.func130 Tryd.call130 (by kernel_rfl)
theorem ck_label_Runes : FnChk Tryd.prog f_label_Runes ir_label_Runes := FnChk_of Tryd.func129 Tryd.call129 (by kernel_rfl)
theorem ck_label_Good : FnChk Tryd.prog f_label_Good ir_label_Good := FnChk_of Tryd.func87 Tryd.call87 (by kernel_rfl)
theorem ck_def_step : FnChk Tryd.prog f_def_step ir_def_step := FnChk_of Tryd.func109 Tryd.call109 (by kernel_rfl)
theorem ck_def_Check : FnChk Tryd.prog f_def_Check ir_def_Check := FnChk_of Tryd.func62 Tryd.call62 (by kernel_rfl)
theorem ck_forecast_right : FnChk Tryd.prog f_forecast_right ir_forecast_right := FnChk_of Tryd.func66 Tryd.call66 (by kernel_rfl)
theorem ck_forecast_Of : FnChk Tryd.prog f_forecast_Of ir_forecast_Of := FnChk_of Tryd.func16 Tryd.call16 (by kernel_rfl)
theorem ck_forecast_Last : FnChk Tryd.prog f_forecast_Last ir_forecast_Last := FnChk_of Tryd.func18 Tryd.call18 (by kernel_rfl)
theorem ck_forecast_Phase : FnChk Tryd.prog f_forecast_Phase ir_forecast_Phase := FnChk_of Tryd.func19 Tryd.call19 (by kernel_rfl)
theorem ck_usufructlaw30_same : FnChk Tryd.prog f_usufructlaw30_same ir_usufructlaw30_same := FnChk_of Tryd.func21 Tryd.call21 (by kernel_rfl)
theorem ck_usufructref13_Decimal : FnChk Tryd.prog f_usufructref13_Decimal ir_usufructref13_Decimal := FnChk_of Tryd.func89 Tryd.call89 (by kernel_rfl)
theorem ck_usufructref13_Key : FnChk Tryd.prog f_usufructref13_Key ir_usufructref13_Key := FnChk_of Tryd.func39 Tryd.call39 (by kernel_rfl)
theorem ck_usufructref01_Of : FnChk Tryd.prog f_usufructref01_Of ir_usufructref01_Of := FnChk_of Tryd.func125 Tryd.call125 (by kernel_rfl)
theorem ck_usufructref01_Add : FnChk Tryd.prog f_usufructref01_Add ir_usufructref01_Add := FnChk_of Tryd.func83 Tryd.call83 (by kernel_rfl)
theorem ck_usufructref14_Emit : FnChk Tryd.prog f_usufructref14_Emit ir_usufructref14_Emit := FnChk_of Tryd.func70 Tryd.call70 (by kernel_rfl)
theorem ck_usufructref13_End : FnChk Tryd.prog f_usufructref13_End ir_usufructref13_End := FnChk_of Tryd.func63 Tryd.call63 (by kernel_rfl)
theorem ck_usufructref14_Over : FnChk Tryd.prog f_usufructref14_Over ir_usufructref14_Over := FnChk_of Tryd.func143 Tryd.call143 (by kernel_rfl)
theorem ck_usufructref14_Plan : FnChk Tryd.prog f_usufructref14_Plan ir_usufructref14_Plan := FnChk_of Tryd.func120 Tryd.call120 (by kernel_rfl)
theorem ck_usufructref14_tick : FnChk Tryd.prog f_usufructref14_tick ir_usufructref14_tick := FnChk_of Tryd.func142 Tryd.call142 (by kernel_rfl)
theorem ck_usufructref11_Good : FnChk Tryd.prog f_usufructref11_Good ir_usufructref11_Good := FnChk_of Tryd.func90 Tryd.call90 (by kernel_rfl)
theorem ck_usufructref02_At : FnChk Tryd.prog f_usufructref02_At ir_usufructref02_At := FnChk_of Tryd.func100 Tryd.call100 (by kernel_rfl)
theorem ck_usufructref02_Runes : FnChk Tryd.prog f_usufructref02_Runes ir_usufructref02_Runes := FnChk_of Tryd.func103 Tryd.call103 (by kernel_rfl)
theorem ck_usufructref02_letter : FnChk Tryd.prog f_usufructref02_letter ir_usufructref02_letter := FnChk_of Tryd.func102 Tryd.call102 (by kernel_rfl)
theorem ck_usufructref02_may : FnChk Tryd.prog f_usufructref02_may ir_usufructref02_may := FnChk_of Tryd.func101 Tryd.call101 (by kernel_rfl)
theorem ck_usufructref02_Good : FnChk Tryd.prog f_usufructref02_Good ir_usufructref02_Good := FnChk_of Tryd.func58 Tryd.call58 (by kernel_rfl)
theorem ck_usufructref13_Check : FnChk Tryd.prog f_usufructref13_Check ir_usufructref13_Check := FnChk_of Tryd.func41 Tryd.call41 (by kernel_rfl)
theorem ck_usufructref14_Good : FnChk Tryd.prog f_usufructref14_Good ir_usufructref14_Good := FnChk_of Tryd.func141 Tryd.call141 (by kernel_rfl)
theorem ck_usufructref14_Check : FnChk Tryd.prog f_usufructref14_Check ir_usufructref14_Check := FnChk_of Tryd.func114 Tryd.call114 (by kernel_rfl)
theorem ck_usufructref14_May : FnChk Tryd.prog f_usufructref14_May ir_usufructref14_May := FnChk_of Tryd.func69 Tryd.call69 (by kernel_rfl)
theorem ck_usufructref14_end : FnChk Tryd.prog f_usufructref14_end ir_usufructref14_end := FnChk_of Tryd.func119 Tryd.call119 (by kernel_rfl)
theorem ck_usufructref14_put : FnChk Tryd.prog f_usufructref14_put ir_usufructref14_put := FnChk_of Tryd.func117 Tryd.call117 (by kernel_rfl)
theorem ck_usufructref14_Back : FnChk Tryd.prog f_usufructref14_Back ir_usufructref14_Back := FnChk_of Tryd.func116 Tryd.call116 (by kernel_rfl)
theorem ck_usufructref01_Times : FnChk Tryd.prog f_usufructref01_Times ir_usufructref01_Times := FnChk_of Tryd.func157 Tryd.call157 (by kernel_rfl)
theorem ck_usufructref11_Wait : FnChk Tryd.prog f_usufructref11_Wait ir_usufructref11_Wait := FnChk_of Tryd.func144 Tryd.call144 (by kernel_rfl)
theorem ck_usufructref14_Fails : FnChk Tryd.prog f_usufructref14_Fails ir_usufructref14_Fails := FnChk_of Tryd.func115 Tryd.call115 (by kernel_rfl)
theorem ck_usufructref14_Done : FnChk Tryd.prog f_usufructref14_Done ir_usufructref14_Done := FnChk_of Tryd.func118 Tryd.call118 (by kernel_rfl)
theorem ck_usufructref14_Do : FnChk Tryd.prog f_usufructref14_Do ir_usufructref14_Do := FnChk_of Tryd.func68 Tryd.call68 (by kernel_rfl)
theorem ck_usufructref30_Play : FnChk Tryd.prog f_usufructref30_Play ir_usufructref30_Play := FnChk_of Tryd.func20 Tryd.call20 (by kernel_rfl)
theorem ck_usufructref30_Right : FnChk Tryd.prog f_usufructref30_Right ir_usufructref30_Right := FnChk_of Tryd.func17 Tryd.call17 (by kernel_rfl)
theorem ck_usufructlaw13_Small : FnChk Tryd.prog f_usufructlaw13_Small ir_usufructlaw13_Small := FnChk_of Tryd.func15 Tryd.call15 (by kernel_rfl)
theorem ck_usufructlaw30_awake : FnChk Tryd.prog f_usufructlaw30_awake ir_usufructlaw30_awake := FnChk_of Tryd.func14 Tryd.call14 (by kernel_rfl)
theorem ck_usufructlaw30_ForecastTells : FnChk Tryd.prog f_usufructlaw30_ForecastTells ir_usufructlaw30_ForecastTells := FnChk_of Tryd.func3 Tryd.call3 (by kernel_rfl)
theorem ck_usufructref31_Same : FnChk Tryd.prog f_usufructref31_Same ir_usufructref31_Same := FnChk_of Tryd.func28 Tryd.call28 (by kernel_rfl)
theorem ck_usufructref31_put : FnChk Tryd.prog f_usufructref31_put ir_usufructref31_put := FnChk_of Tryd.func78 Tryd.call78 (by kernel_rfl)
theorem ck_usufructref31_tick : FnChk Tryd.prog f_usufructref31_tick ir_usufructref31_tick := FnChk_of Tryd.func124 Tryd.call124 (by kernel_rfl)
theorem ck_usufructref31_Right : FnChk Tryd.prog f_usufructref31_Right ir_usufructref31_Right := FnChk_of Tryd.func77 Tryd.call77 (by kernel_rfl)
theorem ck_usufructref31_Good : FnChk Tryd.prog f_usufructref31_Good ir_usufructref31_Good := FnChk_of Tryd.func27 Tryd.call27 (by kernel_rfl)
theorem ck_usufructref31_Merge : FnChk Tryd.prog f_usufructref31_Merge ir_usufructref31_Merge := FnChk_of Tryd.func30 Tryd.call30 (by kernel_rfl)
theorem ck_archive_right : FnChk Tryd.prog f_archive_right ir_archive_right := FnChk_of Tryd.func71 Tryd.call71 (by kernel_rfl)
theorem ck_archive_Good : FnChk Tryd.prog f_archive_Good ir_archive_Good := FnChk_of Tryd.func26 Tryd.call26 (by kernel_rfl)
theorem ck_usufructref31_Add : FnChk Tryd.prog f_usufructref31_Add ir_usufructref31_Add := FnChk_of Tryd.func25 Tryd.call25 (by kernel_rfl)
theorem ck_slices_Clone_api_Row_api_Row : FnChk Tryd.prog f_slices_Clone_api_Row_api_Row ir_slices_Clone_api_Row_api_Row := FnChk_of Tryd.func76 Tryd.call76 (by kernel_rfl)
theorem ck_slices_BinarySearchFunc_api_Row_api_Row_int : FnChk Tryd.prog f_slices_BinarySearchFunc_api_Row_api_Row_int ir_slices_BinarySearchFunc_api_Row_api_Row_int := FnChk_of Tryd.func72 Tryd.call72 (by kernel_rfl)
theorem ck_cmp_isNaN_int : FnChk Tryd.prog f_cmp_isNaN_int ir_cmp_isNaN_int := FnChk_of Tryd.func121 Tryd.call121 (by kernel_rfl)
theorem ck_cmp_Compare_int : FnChk Tryd.prog f_cmp_Compare_int ir_cmp_Compare_int := FnChk_of Tryd.func74 Tryd.call74 (by kernel_rfl)
theorem ck_archive_Add_1 : FnChk Tryd.prog f_archive_Add_1 ir_archive_Add_1 := FnChk_of Tryd.func73 Tryd.call73 (by kernel_rfl)
theorem ck_archive_Add : FnChk Tryd.prog f_archive_Add ir_archive_Add := FnChk_of Tryd.func24 Tryd.call24 (by kernel_rfl)
theorem ck_usufructlaw31_short : FnChk Tryd.prog f_usufructlaw31_short ir_usufructlaw31_short := FnChk_of Tryd.func23 Tryd.call23 (by kernel_rfl)
theorem ck_usufructlaw31_awake : FnChk Tryd.prog f_usufructlaw31_awake ir_usufructlaw31_awake := FnChk_of Tryd.func22 Tryd.call22 (by kernel_rfl)
theorem ck_usufructlaw31_ArchiveAdds : FnChk Tryd.prog f_usufructlaw31_ArchiveAdds ir_usufructlaw31_ArchiveAdds := FnChk_of Tryd.func4 Tryd.call4 (by kernel_rfl)
theorem ck_archive_Ask_1 : FnChk Tryd.prog f_archive_Ask_1 ir_archive_Ask_1 := FnChk_of Tryd.func80 Tryd.call80 (by kernel_rfl)
theorem ck_archive_keep : FnChk Tryd.prog f_archive_keep ir_archive_keep := FnChk_of Tryd.func79 Tryd.call79 (by kernel_rfl)
theorem ck_archive_Ask : FnChk Tryd.prog f_archive_Ask ir_archive_Ask := FnChk_of Tryd.func31 Tryd.call31 (by kernel_rfl)
theorem ck_archive_Prune_1 : FnChk Tryd.prog f_archive_Prune_1 ir_archive_Prune_1 := FnChk_of Tryd.func81 Tryd.call81 (by kernel_rfl)
theorem ck_archive_Prune : FnChk Tryd.prog f_archive_Prune ir_archive_Prune := FnChk_of Tryd.func32 Tryd.call32 (by kernel_rfl)
theorem ck_usufructref31_Sums : FnChk Tryd.prog f_usufructref31_Sums ir_usufructref31_Sums := FnChk_of Tryd.func35 Tryd.call35 (by kernel_rfl)
theorem ck_def_way : FnChk Tryd.prog f_def_way ir_def_way := FnChk_of Tryd.func85 Tryd.call85 (by kernel_rfl)
theorem ck_def_number : FnChk Tryd.prog f_def_number ir_def_number := FnChk_of Tryd.func88 Tryd.call88 (by kernel_rfl)
theorem ck_def_Cut : FnChk Tryd.prog f_def_Cut ir_def_Cut := FnChk_of Tryd.func38 Tryd.call38 (by kernel_rfl)
theorem ck_usufructref13_Read : FnChk Tryd.prog f_usufructref13_Read ir_usufructref13_Read := FnChk_of Tryd.func40 Tryd.call40 (by kernel_rfl)
theorem ck_def_Key : FnChk Tryd.prog f_def_Key ir_def_Key := FnChk_of Tryd.func37 Tryd.call37 (by kernel_rfl)
theorem ck_usufructlaw13_awake : FnChk Tryd.prog f_usufructlaw13_awake ir_usufructlaw13_awake := FnChk_of Tryd.func36 Tryd.call36 (by kernel_rfl)
theorem ck_usufructlaw13_DefKeys : FnChk Tryd.prog f_usufructlaw13_DefKeys ir_usufructlaw13_DefKeys := FnChk_of Tryd.func6 Tryd.call6 (by kernel_rfl)
theorem ck_store_Store_Read : FnChk Tryd.prog f_store_Store_Read ir_store_Store_Read := FnChk_of Tryd.func48 Tryd.call48 (by kernel_rfl)
theorem ck_store_Store_burns : FnChk Tryd.prog f_store_Store_burns ir_store_Store_burns := FnChk_of Tryd.func92 Tryd.call92 (by kernel_rfl)
theorem ck_store_Store_Crash : FnChk Tryd.prog f_store_Store_Crash ir_store_Store_Crash := FnChk_of Tryd.func46 Tryd.call46 (by kernel_rfl)
theorem ck_usufructlaw05_StoreSafe : FnChk Tryd.prog f_usufructlaw05_StoreSafe ir_usufructlaw05_StoreSafe := FnChk_of Tryd.func7 Tryd.call7 (by kernel_rfl)
theorem ck_slices_Index_string_string : FnChk Tryd.prog f_slices_Index_string_string ir_slices_Index_string_string := FnChk_of Tryd.func134 Tryd.call134 (by kernel_rfl)
theorem ck_slices_Contains_string_string : FnChk Tryd.prog f_slices_Contains_string_string ir_slices_Contains_string_string := FnChk_of Tryd.func96 Tryd.call96 (by kernel_rfl)
theorem ck_def_Parties : FnChk Tryd.prog f_def_Parties ir_def_Parties := FnChk_of Tryd.func49 Tryd.call49 (by kernel_rfl)
theorem ck_usufructlaw13_DefParties : FnChk Tryd.prog f_usufructlaw13_DefParties ir_usufructlaw13_DefParties := FnChk_of Tryd.func8 Tryd.call8 (by kernel_rfl)
theorem ck_usufructref13_Same : FnChk Tryd.prog f_usufructref13_Same ir_usufructref13_Same := FnChk_of Tryd.func51 Tryd.call51 (by kernel_rfl)
theorem ck_slices_Clone_api_Step_api_Step : FnChk Tryd.prog f_slices_Clone_api_Step_api_Step ir_slices_Clone_api_Step_api_Step := FnChk_of Tryd.func97 Tryd.call97 (by kernel_rfl)
theorem ck_def_Own : FnChk Tryd.prog f_def_Own ir_def_Own := FnChk_of Tryd.func50 Tryd.call50 (by kernel_rfl)
theorem ck_usufructlaw13_DefOwns : FnChk Tryd.prog f_usufructlaw13_DefOwns ir_usufructlaw13_DefOwns := FnChk_of Tryd.func9 Tryd.call9 (by kernel_rfl)
theorem ck_maps_Keys_map_string_store_file_string_store_file : FnChk Tryd.prog f_maps_Keys_map_string_store_file_string_store_file ir_maps_Keys_map_string_store_file_string_store_file := FnChk_of Tryd.func133 Tryd.call133 (by kernel_rfl)
theorem ck_bits_Len64 : FnChk Tryd.prog f_bits_Len64 ir_bits_Len64 := FnChk_of Tryd.func171 Tryd.call171 (by kernel_rfl)
theorem ck_bits_Len32 : FnChk Tryd.prog f_bits_Len32 ir_bits_Len32 := FnChk_of Tryd.func189 Tryd.call189 (by kernel_rfl)
theorem ck_bits_Len : FnChk Tryd.prog f_bits_Len ir_bits_Len := FnChk_of Tryd.func169 Tryd.call169 (by kernel_rfl)
theorem ck_cmp_isNaN_string : FnChk Tryd.prog f_cmp_isNaN_string ir_cmp_isNaN_string := FnChk_of Tryd.func199 Tryd.call199 (by kernel_rfl)
theorem ck_cmp_Less_string : FnChk Tryd.prog f_cmp_Less_string ir_cmp_Less_string := FnChk_of Tryd.func186 Tryd.call186 (by kernel_rfl)
theorem ck_slices_partitionOrdered_string : FnChk Tryd.prog f_slices_partitionOrdered_string ir_slices_partitionOrdered_string := FnChk_of Tryd.func188 Tryd.call188 (by kernel_rfl)
theorem ck_slices_partitionEqualOrdered_string : FnChk Tryd.prog f_slices_partitionEqualOrdered_string ir_slices_partitionEqualOrdered_string := FnChk_of Tryd.func187 Tryd.call187 (by kernel_rfl)
theorem ck_slices_partialInsertionSortOrdered_string : FnChk Tryd.prog f_slices_partialInsertionSortOrdered_string ir_slices_partialInsertionSortOrdered_string := FnChk_of Tryd.func185 Tryd.call185 (by kernel_rfl)
theorem ck_slices_reverseRangeOrdered_string : FnChk Tryd.prog f_slices_reverseRangeOrdered_string ir_slices_reverseRangeOrdered_string := FnChk_of Tryd.func184 Tryd.call184 (by kernel_rfl)
theorem ck_slices_order2Ordered_string : FnChk Tryd.prog f_slices_order2Ordered_string ir_slices_order2Ordered_string := FnChk_of Tryd.func200 Tryd.call200 (by kernel_rfl)
theorem ck_slices_medianOrdered_string : FnChk Tryd.prog f_slices_medianOrdered_string ir_slices_medianOrdered_string := FnChk_of Tryd.func198 Tryd.call198 (by kernel_rfl)
theorem ck_slices_medianAdjacentOrdered_string : FnChk Tryd.prog f_slices_medianAdjacentOrdered_string ir_slices_medianAdjacentOrdered_string := FnChk_of Tryd.func197 Tryd.call197 (by kernel_rfl)
theorem ck_slices_choosePivotOrdered_string : FnChk Tryd.prog f_slices_choosePivotOrdered_string ir_slices_choosePivotOrdered_string := FnChk_of Tryd.func183 Tryd.call183 (by kernel_rfl)
theorem ck_slices_xorshift_Next : FnChk Tryd.prog f_slices_xorshift_Next ir_slices_xorshift_Next := FnChk_of Tryd.func196 Tryd.call196 (by kernel_rfl)
theorem ck_slices_nextPowerOfTwo : FnChk Tryd.prog f_slices_nextPowerOfTwo ir_slices_nextPowerOfTwo := FnChk_of Tryd.func195 Tryd.call195 (by kernel_rfl)
theorem ck_slices_breakPatternsOrdered_string : FnChk Tryd.prog f_slices_breakPatternsOrdered_string ir_slices_breakPatternsOrdered_string := FnChk_of Tryd.func182 Tryd.call182 (by kernel_rfl)
theorem ck_slices_siftDownOrdered_string : FnChk Tryd.prog f_slices_siftDownOrdered_string ir_slices_siftDownOrdered_string := FnChk_of Tryd.func194 Tryd.call194 (by kernel_rfl)
theorem ck_slices_heapSortOrdered_string : FnChk Tryd.prog f_slices_heapSortOrdered_string ir_slices_heapSortOrdered_string := FnChk_of Tryd.func181 Tryd.call181 (by kernel_rfl)
theorem ck_slices_insertionSortOrdered_string : FnChk Tryd.prog f_slices_insertionSortOrdered_string ir_slices_insertionSortOrdered_string := FnChk_of Tryd.func180 Tryd.call180 (by kernel_rfl)
theorem ck_slices_pdqsortOrdered_string : FnChk Tryd.prog f_slices_pdqsortOrdered_string ir_slices_pdqsortOrdered_string := FnChk_of Tryd.func168 Tryd.call168 (by kernel_rfl)
theorem ck_slices_Sort_string_string : FnChk Tryd.prog f_slices_Sort_string_string ir_slices_Sort_string_string := FnChk_of Tryd.func152 Tryd.call152 (by kernel_rfl)
theorem ck_slices_Collect_string : FnChk Tryd.prog f_slices_Collect_string ir_slices_Collect_string := FnChk_of Tryd.func151 Tryd.call151 (by kernel_rfl)
theorem ck_slices_Sorted_string : FnChk Tryd.prog f_slices_Sorted_string ir_slices_Sorted_string := FnChk_of Tryd.func132 Tryd.call132 (by kernel_rfl)
theorem ck_store_Store_names : FnChk Tryd.prog f_store_Store_names ir_store_Store_names := FnChk_of Tryd.func94 Tryd.call94 (by kernel_rfl)
theorem ck_store_Store_Names : FnChk Tryd.prog f_store_Store_Names ir_store_Store_Names := FnChk_of Tryd.func55 Tryd.call55 (by kernel_rfl)
theorem ck_usufructlaw05_run : FnChk Tryd.prog f_usufructlaw05_run ir_usufructlaw05_run := FnChk_of Tryd.func54 Tryd.call54 (by kernel_rfl)
theorem ck_usufructlaw05_few : FnChk Tryd.prog f_usufructlaw05_few ir_usufructlaw05_few := FnChk_of Tryd.func53 Tryd.call53 (by kernel_rfl)
theorem ck_usufructlaw05_StoreAgain : FnChk Tryd.prog f_usufructlaw05_StoreAgain ir_usufructlaw05_StoreAgain := FnChk_of Tryd.func10 Tryd.call10 (by kernel_rfl)
theorem ck_store_Store_Free : FnChk Tryd.prog f_store_Store_Free ir_store_Store_Free := FnChk_of Tryd.func56 Tryd.call56 (by kernel_rfl)
theorem ck_store_Store_Down : FnChk Tryd.prog f_store_Store_Down ir_store_Store_Down := FnChk_of Tryd.func57 Tryd.call57 (by kernel_rfl)
theorem ck_usufructlaw05_StoreBounds : FnChk Tryd.prog f_usufructlaw05_StoreBounds ir_usufructlaw05_StoreBounds := FnChk_of Tryd.func11 Tryd.call11 (by kernel_rfl)
theorem ck_usufructref05_Used : FnChk Tryd.prog f_usufructref05_Used ir_usufructref05_Used := FnChk_of Tryd.func61 Tryd.call61 (by kernel_rfl)
theorem ck_usufructref05_Without : FnChk Tryd.prog f_usufructref05_Without ir_usufructref05_Without := FnChk_of Tryd.func107 Tryd.call107 (by kernel_rfl)
theorem ck_usufructref05_Find : FnChk Tryd.prog f_usufructref05_Find ir_usufructref05_Find := FnChk_of Tryd.func105 Tryd.call105 (by kernel_rfl)
theorem ck_usufructref05_With : FnChk Tryd.prog f_usufructref05_With ir_usufructref05_With := FnChk_of Tryd.func106 Tryd.call106 (by kernel_rfl)
theorem ck_usufructref05_Boot : FnChk Tryd.prog f_usufructref05_Boot ir_usufructref05_Boot := FnChk_of Tryd.func104 Tryd.call104 (by kernel_rfl)
theorem ck_usufructlaw05_do : FnChk Tryd.prog f_usufructlaw05_do ir_usufructlaw05_do := FnChk_of Tryd.func60 Tryd.call60 (by kernel_rfl)
theorem ck_store_Store_Fuse : FnChk Tryd.prog f_store_Store_Fuse ir_store_Store_Fuse := FnChk_of Tryd.func59 Tryd.call59 (by kernel_rfl)
theorem ck_usufructlaw05_StorePlays : FnChk Tryd.prog f_usufructlaw05_StorePlays ir_usufructlaw05_StorePlays := FnChk_of Tryd.func12 Tryd.call12 (by kernel_rfl)
theorem ck_slices_Equal_api_Step_api_Step : FnChk Tryd.prog f_slices_Equal_api_Step_api_Step ir_slices_Equal_api_Step_api_Step := FnChk_of Tryd.func110 Tryd.call110 (by kernel_rfl)
theorem ck_def_Same : FnChk Tryd.prog f_def_Same ir_def_Same := FnChk_of Tryd.func64 Tryd.call64 (by kernel_rfl)
theorem ck_usufructlaw13_DefChecks : FnChk Tryd.prog f_usufructlaw13_DefChecks ir_usufructlaw13_DefChecks := FnChk_of Tryd.func13 Tryd.call13 (by kernel_rfl)
theorem fns_ok : ∀ f fd, fns f = some fd → FnChk Tryd.prog f fd := by
  intro f fd h
  unfold fns at h
  split at h
  · cases h; exact ck_usufructlaw30_ForecastTells
  · cases h; exact ck_usufructlaw31_ArchiveAdds
  · cases h; exact ck_usufructlaw13_DefKeys
  · cases h; exact ck_usufructlaw05_StoreSafe
  · cases h; exact ck_usufructlaw13_DefParties
  · cases h; exact ck_usufructlaw13_DefOwns
  · cases h; exact ck_usufructlaw05_StoreAgain
  · cases h; exact ck_usufructlaw05_StoreBounds
  · cases h; exact ck_usufructlaw05_StorePlays
  · cases h; exact ck_usufructlaw13_DefChecks
  · cases h; exact ck_usufructlaw30_awake
  · cases h; exact ck_usufructlaw13_Small
  · cases h; exact ck_forecast_Of
  · cases h; exact ck_usufructref30_Right
  · cases h; exact ck_forecast_Last
  · cases h; exact ck_forecast_Phase
  · cases h; exact ck_usufructref30_Play
  · cases h; exact ck_usufructlaw30_same
  · cases h; exact ck_usufructlaw31_awake
  · cases h; exact ck_usufructlaw31_short
  · cases h; exact ck_archive_Add
  · cases h; exact ck_usufructref31_Add
  · cases h; exact ck_archive_Good
  · cases h; exact ck_usufructref31_Good
  · cases h; exact ck_usufructref31_Same
  · cases h; exact ck_usufructref31_Merge
  · cases h; exact ck_archive_Ask
  · cases h; exact ck_archive_Prune
  · cases h; exact ck_usufructref31_Sums
  · cases h; exact ck_usufructlaw13_awake
  · cases h; exact ck_def_Key
  · cases h; exact ck_def_Cut
  · cases h; exact ck_usufructref13_Key
  · cases h; exact ck_usufructref13_Read
  · cases h; exact ck_usufructref13_Check
  · cases h; exact ck_store_Store_Crash
  · cases h; exact ck_store_Store_Read
  · cases h; exact ck_def_Parties
  · cases h; exact ck_def_Own
  · cases h; exact ck_usufructref13_Same
  · cases h; exact ck_def_End
  · cases h; exact ck_usufructlaw05_few
  · cases h; exact ck_usufructlaw05_run
  · cases h; exact ck_store_Store_Names
  · cases h; exact ck_store_Store_Free
  · cases h; exact ck_store_Store_Down
  · cases h; exact ck_usufructref02_Good
  · cases h; exact ck_store_Store_Fuse
  · cases h; exact ck_usufructlaw05_do
  · cases h; exact ck_usufructref05_Used
  · cases h; exact ck_def_Check
  · cases h; exact ck_usufructref13_End
  · cases h; exact ck_def_Same
  · cases h; exact ck_forecast_right
  · cases h; exact ck_forecast_follow
  · cases h; exact ck_usufructref14_Do
  · cases h; exact ck_usufructref14_May
  · cases h; exact ck_usufructref14_Emit
  · cases h; exact ck_archive_right
  · cases h; exact ck_slices_BinarySearchFunc_api_Row_api_Row_int
  · cases h; exact ck_archive_Add_1
  · cases h; exact ck_cmp_Compare_int
  · cases h; exact ck_slices_Clone_api_Row_api_Row
  · cases h; exact ck_usufructref31_Right
  · cases h; exact ck_usufructref31_put
  · cases h; exact ck_archive_keep
  · cases h; exact ck_archive_Ask_1
  · cases h; exact ck_archive_Prune_1
  · cases h; exact ck_tick_Add
  · cases h; exact ck_usufructref01_Add
  · cases h; exact ck_def_way
  · cases h; exact ck_label_Good
  · cases h; exact ck_def_number
  · cases h; exact ck_usufructref13_Decimal
  · cases h; exact ck_usufructref11_Good
  · cases h; exact ck_store_Store_burns
  · cases h; exact ck_store_Store_names
  · cases h; exact ck_slices_Contains_string_string
  · cases h; exact ck_slices_Clone_api_Step_api_Step
  · cases h; exact ck_usufructref02_At
  · cases h; exact ck_usufructref02_may
  · cases h; exact ck_usufructref02_letter
  · cases h; exact ck_usufructref02_Runes
  · cases h; exact ck_usufructref05_Boot
  · cases h; exact ck_usufructref05_Find
  · cases h; exact ck_usufructref05_With
  · cases h; exact ck_usufructref05_Without
  · cases h; exact ck_tick_Good
  · cases h; exact ck_def_step
  · cases h; exact ck_slices_Equal_api_Step_api_Step
  · cases h; exact ck_tick_Of
  · cases h; exact ck_usufructref14_Check
  · cases h; exact ck_usufructref14_Fails
  · cases h; exact ck_usufructref14_Back
  · cases h; exact ck_usufructref14_put
  · cases h; exact ck_usufructref14_Done
  · cases h; exact ck_usufructref14_end
  · cases h; exact ck_usufructref14_Plan
  · cases h; exact ck_cmp_isNaN_int
  · cases h; exact ck_usufructref31_tick
  · cases h; exact ck_usufructref01_Of
  · cases h; exact ck_label_Runes
  · cases h; exact ck_label_may
  · cases h; exact ck_label_letter
  · cases h; exact ck_slices_Sorted_string
  · cases h; exact ck_maps_Keys_map_string_store_file_string_store_file
  · cases h; exact ck_slices_Index_string_string
  · cases h; exact ck_slices_ContainsFunc_api_Step_api_Step
  · cases h; exact ck_def_step_1
  · cases h; exact ck_backoff_Good
  · cases h; exact ck_usufructref14_Good
  · cases h; exact ck_usufructref14_tick
  · cases h; exact ck_usufructref14_Over
  · cases h; exact ck_usufructref11_Wait
  · cases h; exact ck_slices_Collect_string
  · cases h; exact ck_slices_Sort_string_string
  · cases h; exact ck_slices_IndexFunc_api_Step_api_Step
  · cases h; exact ck_usufructref01_Times
  · cases h; exact ck_slices_pdqsortOrdered_string
  · cases h; exact ck_bits_Len
  · cases h; exact ck_bits_Len64
  · cases h; exact ck_slices_insertionSortOrdered_string
  · cases h; exact ck_slices_heapSortOrdered_string
  · cases h; exact ck_slices_breakPatternsOrdered_string
  · cases h; exact ck_slices_choosePivotOrdered_string
  · cases h; exact ck_slices_reverseRangeOrdered_string
  · cases h; exact ck_slices_partialInsertionSortOrdered_string
  · cases h; exact ck_cmp_Less_string
  · cases h; exact ck_slices_partitionEqualOrdered_string
  · cases h; exact ck_slices_partitionOrdered_string
  · cases h; exact ck_bits_Len32
  · cases h; exact ck_slices_siftDownOrdered_string
  · cases h; exact ck_slices_nextPowerOfTwo
  · cases h; exact ck_slices_xorshift_Next
  · cases h; exact ck_slices_medianAdjacentOrdered_string
  · cases h; exact ck_slices_medianOrdered_string
  · cases h; exact ck_cmp_isNaN_string
  · cases h; exact ck_slices_order2Ordered_string
  · cases h
end Go.Proofs.YtlidkdhojblkiaaDoor.Ev
