/-
  Each printed function is the loaded one.
-/
import Derived.Test.YtklggglkdfnpkaaDoorEvFn
import Derived.Test.YtklggglkdfnpkaaDoorEvIR
import Derived.Test.YtklggglkdfnpkaaDoorProg
import Derived.KernelRfl
namespace Go.Proofs.YtklggglkdfnpkaaDoor.Ev
open Go.Proofs
theorem ck_usufructref31_Same : FnChk Tryd.prog f_usufructref31_Same ir_usufructref31_Same := FnChk_of Tryd.func11 Tryd.call11 (by kernel_rfl)
theorem ck_label_letter : FnChk Tryd.prog f_label_letter ir_label_letter := FnChk_of Tryd.func44 Tryd.call44 (by kernel_rfl)
theorem ck_label_may : FnChk Tryd.prog f_label_may ir_label_may := FnChk_of Tryd.func43 Tryd.call43 (by kernel_rfl)
theorem ck_label_Runes : FnChk Tryd.prog f_label_Runes ir_label_Runes := FnChk_of Tryd.func42 Tryd.call42 (by kernel_rfl)
theorem ck_label_Good : FnChk Tryd.prog f_label_Good ir_label_Good := FnChk_of Tryd.func33 Tryd.call33 (by kernel_rfl)
theorem ck_tick_Good : FnChk Tryd.prog f_tick_Good ir_tick_Good := FnChk_of Tryd.func32 Tryd.call32 (by kernel_rfl)
theorem ck_archive_right : FnChk Tryd.prog f_archive_right ir_archive_right := FnChk_of Tryd.func19 Tryd.call19 (by kernel_rfl)
theorem ck_archive_Good : FnChk Tryd.prog f_archive_Good ir_archive_Good := FnChk_of Tryd.func9 Tryd.call9 (by kernel_rfl)
theorem ck_archive_Merge : FnChk Tryd.prog f_archive_Merge ir_archive_Merge := FnChk_of Tryd.func12 Tryd.call12 (by kernel_rfl)
theorem ck_usufructref31_put : FnChk Tryd.prog f_usufructref31_put ir_usufructref31_put := FnChk_of Tryd.func26 Tryd.call26 (by kernel_rfl)
theorem ck_usufructref31_tick : FnChk Tryd.prog f_usufructref31_tick ir_usufructref31_tick := FnChk_of Tryd.func37 Tryd.call37 (by kernel_rfl)
theorem ck_usufructref02_At : FnChk Tryd.prog f_usufructref02_At ir_usufructref02_At := FnChk_of Tryd.func46 Tryd.call46 (by kernel_rfl)
theorem ck_usufructref02_Runes : FnChk Tryd.prog f_usufructref02_Runes ir_usufructref02_Runes := FnChk_of Tryd.func49 Tryd.call49 (by kernel_rfl)
theorem ck_usufructref02_letter : FnChk Tryd.prog f_usufructref02_letter ir_usufructref02_letter := FnChk_of Tryd.func48 Tryd.call48 (by kernel_rfl)
theorem ck_usufructref02_may : FnChk Tryd.prog f_usufructref02_may ir_usufructref02_may := FnChk_of Tryd.func47 Tryd.call47 (by kernel_rfl)
theorem ck_usufructref02_Good : FnChk Tryd.prog f_usufructref02_Good ir_usufructref02_Good := FnChk_of Tryd.func38 Tryd.call38 (by kernel_rfl)
theorem ck_usufructref31_Right : FnChk Tryd.prog f_usufructref31_Right ir_usufructref31_Right := FnChk_of Tryd.func25 Tryd.call25 (by kernel_rfl)
theorem ck_usufructref31_Good : FnChk Tryd.prog f_usufructref31_Good ir_usufructref31_Good := FnChk_of Tryd.func10 Tryd.call10 (by kernel_rfl)
theorem ck_usufructref31_Merge : FnChk Tryd.prog f_usufructref31_Merge ir_usufructref31_Merge := FnChk_of Tryd.func13 Tryd.call13 (by kernel_rfl)
theorem ck_usufructref31_Add : FnChk Tryd.prog f_usufructref31_Add ir_usufructref31_Add := FnChk_of Tryd.func8 Tryd.call8 (by kernel_rfl)
theorem ck_slices_Clone_api_Row_api_Row : FnChk Tryd.prog f_slices_Clone_api_Row_api_Row ir_slices_Clone_api_Row_api_Row := FnChk_of Tryd.func24 Tryd.call24 (by kernel_rfl)
theorem ck_slices_BinarySearchFunc_api_Row_api_Row_int : FnChk Tryd.prog f_slices_BinarySearchFunc_api_Row_api_Row_int ir_slices_BinarySearchFunc_api_Row_api_Row_int := FnChk_of Tryd.func20 Tryd.call20 (by kernel_rfl)
theorem ck_cmp_isNaN_int : FnChk Tryd.prog f_cmp_isNaN_int ir_cmp_isNaN_int := FnChk_of Tryd.func34 Tryd.call34 (by kernel_rfl)
theorem ck_cmp_Compare_int : FnChk Tryd.prog f_cmp_Compare_int ir_cmp_Compare_int := FnChk_of Tryd.func22 Tryd.call22 (by kernel_rfl)
theorem ck_archive_Add_1 : FnChk Tryd.prog f_archive_Add_1 ir_archive_Add_1 := FnChk_of Tryd.func21 Tryd.call21 (by kernel_rfl)
theorem ck_archive_Add : FnChk Tryd.prog f_archive_Add ir_archive_Add := FnChk_of Tryd.func7 Tryd.call7 (by kernel_rfl)
theorem ck_usufructlaw31_short : FnChk Tryd.prog f_usufructlaw31_short ir_usufructlaw31_short := FnChk_of Tryd.func6 Tryd.call6 (by kernel_rfl)
theorem ck_usufructlaw31_awake : FnChk Tryd.prog f_usufructlaw31_awake ir_usufructlaw31_awake := FnChk_of Tryd.func5 Tryd.call5 (by kernel_rfl)
theorem ck_usufructlaw31_ArchiveAdds : FnChk Tryd.prog f_usufructlaw31_ArchiveAdds ir_usufructlaw31_ArchiveAdds := FnChk_of Tryd.func3 Tryd.call3 (by kernel_rfl)
theorem ck_archive_Ask_1 : FnChk Tryd.prog f_archive_Ask_1 ir_archive_Ask_1 := FnChk_of Tryd.func28 Tryd.call28 (by kernel_rfl)
theorem ck_archive_keep : FnChk Tryd.prog f_archive_keep ir_archive_keep := FnChk_of Tryd.func27 Tryd.call27 (by kernel_rfl)
theorem ck_archive_Ask : FnChk Tryd.prog f_archive_Ask ir_archive_Ask := FnChk_of Tryd.func14 Tryd.call14 (by kernel_rfl)
theorem ck_archive_Prune_1 : FnChk Tryd.prog f_archive_Prune_1 ir_archive_Prune_1 := FnChk_of Tryd.func29 Tryd.call29 (by kernel_rfl)
theorem ck_archive_Prune : FnChk Tryd.prog f_archive_Prune ir_archive_Prune := FnChk_of Tryd.func15 Tryd.call15 (by kernel_rfl)
theorem ck_usufructref01_Of : FnChk Tryd.prog f_usufructref01_Of ir_usufructref01_Of := FnChk_of Tryd.func40 Tryd.call40 (by kernel_rfl)
theorem ck_usufructref01_Add : FnChk Tryd.prog f_usufructref01_Add ir_usufructref01_Add := FnChk_of Tryd.func31 Tryd.call31 (by kernel_rfl)
theorem ck_usufructref31_Sums : FnChk Tryd.prog f_usufructref31_Sums ir_usufructref31_Sums := FnChk_of Tryd.func18 Tryd.call18 (by kernel_rfl)
theorem ck_tick_Of : FnChk Tryd.prog f_tick_Of ir_tick_Of := FnChk_of Tryd.func39 Tryd.call39 (by kernel_rfl)
theorem ck_tick_Add : FnChk Tryd.prog f_tick_Add ir_tick_Add := FnChk_of Tryd.func30 Tryd.call30 (by kernel_rfl)
theorem ck_archive_Sums : FnChk Tryd.prog f_archive_Sums ir_archive_Sums := FnChk_of Tryd.func17 Tryd.call17 (by kernel_rfl)
theorem ck_usufructref31_Ask : FnChk Tryd.prog f_usufructref31_Ask ir_usufructref31_Ask := FnChk_of Tryd.func16 Tryd.call16 (by kernel_rfl)
theorem ck_usufructlaw31_ArchiveAsks : FnChk Tryd.prog f_usufructlaw31_ArchiveAsks ir_usufructlaw31_ArchiveAsks := FnChk_of Tryd.func4 Tryd.call4 (by kernel_rfl)
theorem fns_ok : ∀ f fd, fns f = some fd → FnChk Tryd.prog f fd := by
  intro f fd h
  unfold fns at h
  split at h
  · cases h; exact ck_usufructlaw31_ArchiveAdds
  · cases h; exact ck_usufructlaw31_ArchiveAsks
  · cases h; exact ck_usufructlaw31_awake
  · cases h; exact ck_usufructlaw31_short
  · cases h; exact ck_archive_Add
  · cases h; exact ck_usufructref31_Add
  · cases h; exact ck_archive_Good
  · cases h; exact ck_usufructref31_Good
  · cases h; exact ck_usufructref31_Same
  · cases h; exact ck_archive_Merge
  · cases h; exact ck_usufructref31_Merge
  · cases h; exact ck_archive_Ask
  · cases h; exact ck_archive_Prune
  · cases h; exact ck_usufructref31_Ask
  · cases h; exact ck_archive_Sums
  · cases h; exact ck_usufructref31_Sums
  · cases h; exact ck_archive_right
  · cases h; exact ck_slices_BinarySearchFunc_api_Row_api_Row_int
  · cases h; exact ck_archive_Add_1
  · cases h; exact ck_cmp_Compare_int
  · cases h; exact ck_slices_Clone_api_Row_api_Row
  · cases h; exact ck_usufructref31_Right
  · cases h; exact ck_usufructref31_put
  · cases h; exact ck_archive_keep
  · cases h; exact ck_archive_Ask_1
  · cases h; exact ck_archive_Prune_1
  · cases h; exact ck_tick_Add
  · cases h; exact ck_usufructref01_Add
  · cases h; exact ck_tick_Good
  · cases h; exact ck_label_Good
  · cases h; exact ck_cmp_isNaN_int
  · cases h; exact ck_usufructref31_tick
  · cases h; exact ck_usufructref02_Good
  · cases h; exact ck_tick_Of
  · cases h; exact ck_usufructref01_Of
  · cases h; exact ck_label_Runes
  · cases h; exact ck_label_may
  · cases h; exact ck_label_letter
  · cases h; exact ck_usufructref02_At
  · cases h; exact ck_usufructref02_may
  · cases h; exact ck_usufructref02_letter
  · cases h; exact ck_usufructref02_Runes
  · cases h
end Go.Proofs.YtklggglkdfnpkaaDoor.Ev
