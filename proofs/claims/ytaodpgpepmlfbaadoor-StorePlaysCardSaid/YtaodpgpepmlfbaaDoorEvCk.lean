/-
  Each printed function is the loaded one.
-/
import Derived.Test.YtaodpgpepmlfbaaDoorEvFn
import Derived.Test.YtaodpgpepmlfbaaDoorEvIR
import Derived.Test.YtaodpgpepmlfbaaDoorProg
import Derived.KernelRfl
namespace Go.Proofs.YtaodpgpepmlfbaaDoor.Ev
open Go.Proofs
theorem ck_store_Store_find : FnChk Tryd.prog f_store_Store_find ir_store_Store_find := FnChk_of Tryd.func26 Tryd.call26 (by kernel_rfl)
theorem ck_store_Store_Read : FnChk Tryd.prog f_store_Store_Read ir_store_Store_Read := FnChk_of Tryd.func13 Tryd.call13 (by kernel_rfl)
theorem ck_store_Store_burns : FnChk Tryd.prog f_store_Store_burns ir_store_Store_burns := FnChk_of Tryd.func25 Tryd.call25 (by kernel_rfl)
theorem ck_label_letter : FnChk Tryd.prog f_label_letter ir_label_letter := FnChk_of Tryd.func42 Tryd.call42 (by kernel_rfl)
theorem ck_label_may : FnChk Tryd.prog f_label_may ir_label_may := FnChk_of Tryd.func41 Tryd.call41 (by kernel_rfl)
theorem ck_label_Runes : FnChk Tryd.prog f_label_Runes ir_label_Runes := FnChk_of Tryd.func40 Tryd.call40 (by kernel_rfl)
theorem ck_label_Good : FnChk Tryd.prog f_label_Good ir_label_Good := FnChk_of Tryd.func23 Tryd.call23 (by kernel_rfl)
theorem ck_store_Store_Append : FnChk Tryd.prog f_store_Store_Append ir_store_Store_Append := FnChk_of Tryd.func9 Tryd.call9 (by kernel_rfl)
theorem ck_store_file_left : FnChk Tryd.prog f_store_file_left ir_store_file_left := FnChk_of Tryd.func28 Tryd.call28 (by kernel_rfl)
theorem ck_store_Store_Boot : FnChk Tryd.prog f_store_Store_Boot ir_store_Store_Boot := FnChk_of Tryd.func12 Tryd.call12 (by kernel_rfl)
theorem ck_store_Store_Crash : FnChk Tryd.prog f_store_Store_Crash ir_store_Store_Crash := FnChk_of Tryd.func11 Tryd.call11 (by kernel_rfl)
theorem ck_store_Store_Sync : FnChk Tryd.prog f_store_Store_Sync ir_store_Store_Sync := FnChk_of Tryd.func10 Tryd.call10 (by kernel_rfl)
theorem ck_store_New : FnChk Tryd.prog f_store_New ir_store_New := FnChk_of Tryd.func8 Tryd.call8 (by kernel_rfl)
theorem ck_usufructlaw05_awake : FnChk Tryd.prog f_usufructlaw05_awake ir_usufructlaw05_awake := FnChk_of Tryd.func7 Tryd.call7 (by kernel_rfl)
theorem ck_usufructlaw05_StoreSafe : FnChk Tryd.prog f_usufructlaw05_StoreSafe ir_usufructlaw05_StoreSafe := FnChk_of Tryd.func3 Tryd.call3 (by kernel_rfl)
theorem ck_store_Store_Names : FnChk Tryd.prog f_store_Store_Names ir_store_Store_Names := FnChk_of Tryd.func16 Tryd.call16 (by kernel_rfl)
theorem ck_store_Store_Truncate : FnChk Tryd.prog f_store_Store_Truncate ir_store_Store_Truncate := FnChk_of Tryd.func29 Tryd.call29 (by kernel_rfl)
theorem ck_store_Store_Remove : FnChk Tryd.prog f_store_Store_Remove ir_store_Store_Remove := FnChk_of Tryd.func30 Tryd.call30 (by kernel_rfl)
theorem ck_usufructlaw05_run : FnChk Tryd.prog f_usufructlaw05_run ir_usufructlaw05_run := FnChk_of Tryd.func15 Tryd.call15 (by kernel_rfl)
theorem ck_usufructlaw05_few : FnChk Tryd.prog f_usufructlaw05_few ir_usufructlaw05_few := FnChk_of Tryd.func14 Tryd.call14 (by kernel_rfl)
theorem ck_usufructlaw05_StoreAgain : FnChk Tryd.prog f_usufructlaw05_StoreAgain ir_usufructlaw05_StoreAgain := FnChk_of Tryd.func4 Tryd.call4 (by kernel_rfl)
theorem ck_usufructref02_At : FnChk Tryd.prog f_usufructref02_At ir_usufructref02_At := FnChk_of Tryd.func31 Tryd.call31 (by kernel_rfl)
theorem ck_usufructref02_Runes : FnChk Tryd.prog f_usufructref02_Runes ir_usufructref02_Runes := FnChk_of Tryd.func34 Tryd.call34 (by kernel_rfl)
theorem ck_usufructref02_letter : FnChk Tryd.prog f_usufructref02_letter ir_usufructref02_letter := FnChk_of Tryd.func33 Tryd.call33 (by kernel_rfl)
theorem ck_usufructref02_may : FnChk Tryd.prog f_usufructref02_may ir_usufructref02_may := FnChk_of Tryd.func32 Tryd.call32 (by kernel_rfl)
theorem ck_usufructref02_Good : FnChk Tryd.prog f_usufructref02_Good ir_usufructref02_Good := FnChk_of Tryd.func19 Tryd.call19 (by kernel_rfl)
theorem ck_store_Store_Free : FnChk Tryd.prog f_store_Store_Free ir_store_Store_Free := FnChk_of Tryd.func17 Tryd.call17 (by kernel_rfl)
theorem ck_store_Store_Down : FnChk Tryd.prog f_store_Store_Down ir_store_Store_Down := FnChk_of Tryd.func18 Tryd.call18 (by kernel_rfl)
theorem ck_usufructlaw05_StoreBounds : FnChk Tryd.prog f_usufructlaw05_StoreBounds ir_usufructlaw05_StoreBounds := FnChk_of Tryd.func5 Tryd.call5 (by kernel_rfl)
theorem ck_usufructref05_Used : FnChk Tryd.prog f_usufructref05_Used ir_usufructref05_Used := FnChk_of Tryd.func22 Tryd.call22 (by kernel_rfl)
theorem ck_usufructref05_Without : FnChk Tryd.prog f_usufructref05_Without ir_usufructref05_Without := FnChk_of Tryd.func38 Tryd.call38 (by kernel_rfl)
theorem ck_usufructref05_Find : FnChk Tryd.prog f_usufructref05_Find ir_usufructref05_Find := FnChk_of Tryd.func36 Tryd.call36 (by kernel_rfl)
theorem ck_usufructref05_With : FnChk Tryd.prog f_usufructref05_With ir_usufructref05_With := FnChk_of Tryd.func37 Tryd.call37 (by kernel_rfl)
theorem ck_usufructref05_Boot : FnChk Tryd.prog f_usufructref05_Boot ir_usufructref05_Boot := FnChk_of Tryd.func35 Tryd.call35 (by kernel_rfl)
theorem ck_usufructlaw05_do : FnChk Tryd.prog f_usufructlaw05_do ir_usufructlaw05_do := FnChk_of Tryd.func21 Tryd.call21 (by kernel_rfl)
theorem ck_store_Store_Fuse : FnChk Tryd.prog f_store_Store_Fuse ir_store_Store_Fuse := FnChk_of Tryd.func20 Tryd.call20 (by kernel_rfl)
theorem ck_usufructlaw05_StorePlays : FnChk Tryd.prog f_usufructlaw05_StorePlays ir_usufructlaw05_StorePlays := FnChk_of Tryd.func6 Tryd.call6 (by kernel_rfl)
theorem fns_ok : ∀ f fd, fns f = some fd → FnChk Tryd.prog f fd := by
  intro f fd h
  unfold fns at h
  split at h
  · cases h; exact ck_usufructlaw05_StoreSafe
  · cases h; exact ck_usufructlaw05_StoreAgain
  · cases h; exact ck_usufructlaw05_StoreBounds
  · cases h; exact ck_usufructlaw05_StorePlays
  · cases h; exact ck_usufructlaw05_awake
  · cases h; exact ck_store_New
  · cases h; exact ck_store_Store_Append
  · cases h; exact ck_store_Store_Sync
  · cases h; exact ck_store_Store_Crash
  · cases h; exact ck_store_Store_Boot
  · cases h; exact ck_store_Store_Read
  · cases h; exact ck_usufructlaw05_few
  · cases h; exact ck_usufructlaw05_run
  · cases h; exact ck_store_Store_Names
  · cases h; exact ck_store_Store_Free
  · cases h; exact ck_store_Store_Down
  · cases h; exact ck_usufructref02_Good
  · cases h; exact ck_store_Store_Fuse
  · cases h; exact ck_usufructlaw05_do
  · cases h; exact ck_usufructref05_Used
  · cases h; exact ck_label_Good
  · cases h; exact ck_store_Store_burns
  · cases h; exact ck_store_Store_find
  · cases h; exact ck_store_file_left
  · cases h; exact ck_store_Store_Truncate
  · cases h; exact ck_store_Store_Remove
  · cases h; exact ck_usufructref02_At
  · cases h; exact ck_usufructref02_may
  · cases h; exact ck_usufructref02_letter
  · cases h; exact ck_usufructref02_Runes
  · cases h; exact ck_usufructref05_Boot
  · cases h; exact ck_usufructref05_Find
  · cases h; exact ck_usufructref05_With
  · cases h; exact ck_usufructref05_Without
  · cases h; exact ck_label_Runes
  · cases h; exact ck_label_may
  · cases h; exact ck_label_letter
  · cases h
end Go.Proofs.YtaodpgpepmlfbaaDoor.Ev
