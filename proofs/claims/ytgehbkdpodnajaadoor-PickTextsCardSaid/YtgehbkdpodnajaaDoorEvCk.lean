/-
  Each printed function is the loaded one.
-/
import Derived.Test.YtgehbkdpodnajaaDoorEvFn
import Derived.Test.YtgehbkdpodnajaaDoorEvIR
import Derived.Test.YtgehbkdpodnajaaDoorProg
import Derived.KernelRfl
namespace Go.Proofs.YtgehbkdpodnajaaDoor.Ev
open Go.Proofs
theorem ck_usufructref02_At : FnChk Tryd.prog f_usufructref02_At ir_usufructref02_At := FnChk_of Tryd.func40 Tryd.call40 (by kernel_rfl)
theorem ck_usufructref02_Runes : FnChk Tryd.prog f_usufructref02_Runes ir_usufructref02_Runes := FnChk_of Tryd.func43 Tryd.call43 (by kernel_rfl)
theorem ck_usufructref02_letter : FnChk Tryd.prog f_usufructref02_letter ir_usufructref02_letter := FnChk_of Tryd.func42 Tryd.call42 (by kernel_rfl)
theorem ck_usufructref02_may : FnChk Tryd.prog f_usufructref02_may ir_usufructref02_may := FnChk_of Tryd.func41 Tryd.call41 (by kernel_rfl)
theorem ck_usufructref02_Good : FnChk Tryd.prog f_usufructref02_Good ir_usufructref02_Good := FnChk_of Tryd.func26 Tryd.call26 (by kernel_rfl)
theorem ck_usufructref36_kind : FnChk Tryd.prog f_usufructref36_kind ir_usufructref36_kind := FnChk_of Tryd.func25 Tryd.call25 (by kernel_rfl)
theorem ck_usufructref36_Term : FnChk Tryd.prog f_usufructref36_Term ir_usufructref36_Term := FnChk_of Tryd.func12 Tryd.call12 (by kernel_rfl)
theorem ck_pick_field : FnChk Tryd.prog f_pick_field ir_pick_field := FnChk_of Tryd.func24 Tryd.call24 (by kernel_rfl)
theorem ck_cmp_isNaN_int : FnChk Tryd.prog f_cmp_isNaN_int ir_cmp_isNaN_int := FnChk_of Tryd.func39 Tryd.call39 (by kernel_rfl)
theorem ck_cmp_Compare_int : FnChk Tryd.prog f_cmp_Compare_int ir_cmp_Compare_int := FnChk_of Tryd.func23 Tryd.call23 (by kernel_rfl)
theorem ck_slices_Index_string_string : FnChk Tryd.prog f_slices_Index_string_string ir_slices_Index_string_string := FnChk_of Tryd.func75 Tryd.call75 (by kernel_rfl)
theorem ck_slices_Contains_string_string : FnChk Tryd.prog f_slices_Contains_string_string ir_slices_Contains_string_string := FnChk_of Tryd.func60 Tryd.call60 (by kernel_rfl)
theorem ck_pick_numbers : FnChk Tryd.prog f_pick_numbers ir_pick_numbers := FnChk_of Tryd.func38 Tryd.call38 (by kernel_rfl)
theorem ck_label_letter : FnChk Tryd.prog f_label_letter ir_label_letter := FnChk_of Tryd.func59 Tryd.call59 (by kernel_rfl)
theorem ck_label_may : FnChk Tryd.prog f_label_may ir_label_may := FnChk_of Tryd.func58 Tryd.call58 (by kernel_rfl)
theorem ck_label_Runes : FnChk Tryd.prog f_label_Runes ir_label_Runes := FnChk_of Tryd.func57 Tryd.call57 (by kernel_rfl)
theorem ck_label_Good : FnChk Tryd.prog f_label_Good ir_label_Good := FnChk_of Tryd.func37 Tryd.call37 (by kernel_rfl)
theorem ck_pick_good : FnChk Tryd.prog f_pick_good ir_pick_good := FnChk_of Tryd.func22 Tryd.call22 (by kernel_rfl)
theorem ck_pick_Holds : FnChk Tryd.prog f_pick_Holds ir_pick_Holds := FnChk_of Tryd.func10 Tryd.call10 (by kernel_rfl)
theorem ck_usufructref36_Holds : FnChk Tryd.prog f_usufructref36_Holds ir_usufructref36_Holds := FnChk_of Tryd.func11 Tryd.call11 (by kernel_rfl)
theorem ck_usufructlaw36_short : FnChk Tryd.prog f_usufructlaw36_short ir_usufructlaw36_short := FnChk_of Tryd.func9 Tryd.call9 (by kernel_rfl)
theorem ck_script_Phase : FnChk Tryd.prog f_script_Phase ir_script_Phase := FnChk_of Tryd.func51 Tryd.call51 (by kernel_rfl)
theorem ck_pick_phase : FnChk Tryd.prog f_pick_phase ir_pick_phase := FnChk_of Tryd.func69 Tryd.call69 (by kernel_rfl)
theorem ck_pick_number : FnChk Tryd.prog f_pick_number ir_pick_number := FnChk_of Tryd.func70 Tryd.call70 (by kernel_rfl)
theorem ck_pick_value : FnChk Tryd.prog f_pick_value ir_pick_value := FnChk_of Tryd.func49 Tryd.call49 (by kernel_rfl)
theorem ck_pick_words : FnChk Tryd.prog f_pick_words ir_pick_words := FnChk_of Tryd.func48 Tryd.call48 (by kernel_rfl)
theorem ck_bytealg_Cutover : FnChk Tryd.prog f_bytealg_Cutover ir_bytealg_Cutover := FnChk_of Tryd.func83 Tryd.call83 (by kernel_rfl)
theorem ck_utf8_ValidRune : FnChk Tryd.prog f_utf8_ValidRune ir_utf8_ValidRune := FnChk_of Tryd.func82 Tryd.call82 (by kernel_rfl)
theorem ck_strings_IndexRune : FnChk Tryd.prog f_strings_IndexRune ir_strings_IndexRune := FnChk_of Tryd.func65 Tryd.call65 (by kernel_rfl)
theorem ck_strings_asciiSet_contains : FnChk Tryd.prog f_strings_asciiSet_contains ir_strings_asciiSet_contains := FnChk_of Tryd.func68 Tryd.call68 (by kernel_rfl)
theorem ck_strings_makeASCIISet : FnChk Tryd.prog f_strings_makeASCIISet ir_strings_makeASCIISet := FnChk_of Tryd.func67 Tryd.call67 (by kernel_rfl)
theorem ck_strings_shouldUseASCIISet : FnChk Tryd.prog f_strings_shouldUseASCIISet ir_strings_shouldUseASCIISet := FnChk_of Tryd.func66 Tryd.call66 (by kernel_rfl)
theorem ck_strings_IndexAny : FnChk Tryd.prog f_strings_IndexAny ir_strings_IndexAny := FnChk_of Tryd.func47 Tryd.call47 (by kernel_rfl)
theorem ck_stringslite_HasPrefix : FnChk Tryd.prog f_stringslite_HasPrefix ir_stringslite_HasPrefix := FnChk_of Tryd.func80 Tryd.call80 (by kernel_rfl)
theorem ck_stringslite_CutPrefix : FnChk Tryd.prog f_stringslite_CutPrefix ir_stringslite_CutPrefix := FnChk_of Tryd.func64 Tryd.call64 (by kernel_rfl)
theorem ck_strings_CutPrefix : FnChk Tryd.prog f_strings_CutPrefix ir_strings_CutPrefix := FnChk_of Tryd.func46 Tryd.call46 (by kernel_rfl)
theorem ck_pick_term : FnChk Tryd.prog f_pick_term ir_pick_term := FnChk_of Tryd.func30 Tryd.call30 (by kernel_rfl)
theorem ck_pick_Read : FnChk Tryd.prog f_pick_Read ir_pick_Read := FnChk_of Tryd.func16 Tryd.call16 (by kernel_rfl)
theorem ck_usufructlaw36_awake : FnChk Tryd.prog f_usufructlaw36_awake ir_usufructlaw36_awake := FnChk_of Tryd.func8 Tryd.call8 (by kernel_rfl)
theorem ck_usufructlaw36_PickHolds : FnChk Tryd.prog f_usufructlaw36_PickHolds ir_usufructlaw36_PickHolds := FnChk_of Tryd.func3 Tryd.call3 (by kernel_rfl)
theorem ck_pick_Sagas_1 : FnChk Tryd.prog f_pick_Sagas_1 ir_pick_Sagas_1 := FnChk_of Tryd.func28 Tryd.call28 (by kernel_rfl)
theorem ck_slices_IndexFunc_api_Term_api_Term : FnChk Tryd.prog f_slices_IndexFunc_api_Term_api_Term ir_slices_IndexFunc_api_Term_api_Term := FnChk_of Tryd.func44 Tryd.call44 (by kernel_rfl)
theorem ck_slices_ContainsFunc_api_Term_api_Term : FnChk Tryd.prog f_slices_ContainsFunc_api_Term_api_Term ir_slices_ContainsFunc_api_Term_api_Term := FnChk_of Tryd.func27 Tryd.call27 (by kernel_rfl)
theorem ck_pick_Good_1 : FnChk Tryd.prog f_pick_Good_1 ir_pick_Good_1 := FnChk_of Tryd.func32 Tryd.call32 (by kernel_rfl)
theorem ck_pick_Good : FnChk Tryd.prog f_pick_Good ir_pick_Good := FnChk_of Tryd.func19 Tryd.call19 (by kernel_rfl)
theorem ck_pick_Sagas : FnChk Tryd.prog f_pick_Sagas ir_pick_Sagas := FnChk_of Tryd.func14 Tryd.call14 (by kernel_rfl)
theorem ck_usufructref36_Good : FnChk Tryd.prog f_usufructref36_Good ir_usufructref36_Good := FnChk_of Tryd.func13 Tryd.call13 (by kernel_rfl)
theorem ck_usufructlaw36_PickFewer : FnChk Tryd.prog f_usufructlaw36_PickFewer ir_usufructlaw36_PickFewer := FnChk_of Tryd.func4 Tryd.call4 (by kernel_rfl)
theorem ck_pick_Count : FnChk Tryd.prog f_pick_Count ir_pick_Count := FnChk_of Tryd.func15 Tryd.call15 (by kernel_rfl)
theorem ck_usufructlaw36_PickSagas : FnChk Tryd.prog f_usufructlaw36_PickSagas ir_usufructlaw36_PickSagas := FnChk_of Tryd.func5 Tryd.call5 (by kernel_rfl)
theorem ck_usufructlaw36_same : FnChk Tryd.prog f_usufructlaw36_same ir_usufructlaw36_same := FnChk_of Tryd.func18 Tryd.call18 (by kernel_rfl)
theorem ck_pick_text : FnChk Tryd.prog f_pick_text ir_pick_text := FnChk_of Tryd.func33 Tryd.call33 (by kernel_rfl)
theorem ck_pick_Text : FnChk Tryd.prog f_pick_Text ir_pick_Text := FnChk_of Tryd.func20 Tryd.call20 (by kernel_rfl)
theorem ck_usufructref27_Phase : FnChk Tryd.prog f_usufructref27_Phase ir_usufructref27_Phase := FnChk_of Tryd.func35 Tryd.call35 (by kernel_rfl)
theorem ck_usufructref36_number : FnChk Tryd.prog f_usufructref36_number ir_usufructref36_number := FnChk_of Tryd.func50 Tryd.call50 (by kernel_rfl)
theorem ck_usufructref36_One : FnChk Tryd.prog f_usufructref36_One ir_usufructref36_One := FnChk_of Tryd.func31 Tryd.call31 (by kernel_rfl)
theorem ck_usufructref36_Read : FnChk Tryd.prog f_usufructref36_Read ir_usufructref36_Read := FnChk_of Tryd.func17 Tryd.call17 (by kernel_rfl)
theorem ck_usufructlaw36_PickReads : FnChk Tryd.prog f_usufructlaw36_PickReads ir_usufructlaw36_PickReads := FnChk_of Tryd.func6 Tryd.call6 (by kernel_rfl)
theorem ck_usufructref13_Decimal : FnChk Tryd.prog f_usufructref13_Decimal ir_usufructref13_Decimal := FnChk_of Tryd.func36 Tryd.call36 (by kernel_rfl)
theorem ck_usufructref36_Text : FnChk Tryd.prog f_usufructref36_Text ir_usufructref36_Text := FnChk_of Tryd.func21 Tryd.call21 (by kernel_rfl)
theorem ck_usufructlaw36_PickTexts : FnChk Tryd.prog f_usufructlaw36_PickTexts ir_usufructlaw36_PickTexts := FnChk_of Tryd.func7 Tryd.call7 (by kernel_rfl)
theorem fns_ok : ∀ f fd, fns f = some fd → FnChk Tryd.prog f fd := by
  intro f fd h
  unfold fns at h
  split at h
  · cases h; exact ck_usufructlaw36_PickHolds
  · cases h; exact ck_usufructlaw36_PickFewer
  · cases h; exact ck_usufructlaw36_PickSagas
  · cases h; exact ck_usufructlaw36_PickReads
  · cases h; exact ck_usufructlaw36_PickTexts
  · cases h; exact ck_usufructlaw36_awake
  · cases h; exact ck_usufructlaw36_short
  · cases h; exact ck_pick_Holds
  · cases h; exact ck_usufructref36_Holds
  · cases h; exact ck_usufructref36_Term
  · cases h; exact ck_usufructref36_Good
  · cases h; exact ck_pick_Sagas
  · cases h; exact ck_pick_Count
  · cases h; exact ck_pick_Read
  · cases h; exact ck_usufructref36_Read
  · cases h; exact ck_usufructlaw36_same
  · cases h; exact ck_pick_Good
  · cases h; exact ck_pick_Text
  · cases h; exact ck_usufructref36_Text
  · cases h; exact ck_pick_good
  · cases h; exact ck_cmp_Compare_int
  · cases h; exact ck_pick_field
  · cases h; exact ck_usufructref36_kind
  · cases h; exact ck_usufructref02_Good
  · cases h; exact ck_slices_ContainsFunc_api_Term_api_Term
  · cases h; exact ck_pick_Sagas_1
  · cases h; exact ck_pick_term
  · cases h; exact ck_usufructref36_One
  · cases h; exact ck_pick_Good_1
  · cases h; exact ck_pick_text
  · cases h; exact ck_usufructref27_Phase
  · cases h; exact ck_usufructref13_Decimal
  · cases h; exact ck_label_Good
  · cases h; exact ck_pick_numbers
  · cases h; exact ck_cmp_isNaN_int
  · cases h; exact ck_usufructref02_At
  · cases h; exact ck_usufructref02_may
  · cases h; exact ck_usufructref02_letter
  · cases h; exact ck_usufructref02_Runes
  · cases h; exact ck_slices_IndexFunc_api_Term_api_Term
  · cases h; exact ck_strings_CutPrefix
  · cases h; exact ck_strings_IndexAny
  · cases h; exact ck_pick_words
  · cases h; exact ck_pick_value
  · cases h; exact ck_usufructref36_number
  · cases h; exact ck_script_Phase
  · cases h; exact ck_label_Runes
  · cases h; exact ck_label_may
  · cases h; exact ck_label_letter
  · cases h; exact ck_slices_Contains_string_string
  · cases h; exact ck_stringslite_CutPrefix
  · cases h; exact ck_strings_IndexRune
  · cases h; exact ck_strings_shouldUseASCIISet
  · cases h; exact ck_strings_makeASCIISet
  · cases h; exact ck_strings_asciiSet_contains
  · cases h; exact ck_pick_phase
  · cases h; exact ck_pick_number
  · cases h; exact ck_slices_Index_string_string
  · cases h; exact ck_stringslite_HasPrefix
  · cases h; exact ck_utf8_ValidRune
  · cases h; exact ck_bytealg_Cutover
  · cases h
end Go.Proofs.YtgehbkdpodnajaaDoor.Ev
