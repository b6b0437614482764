/-
  Each printed function is the loaded one.
-/
import Derived.Test.YtbpndomfipdhdaaDoorEvFn
import Derived.Test.YtbpndomfipdhdaaDoorEvIR
import Derived.Test.YtbpndomfipdhdaaDoorProg
import Derived.KernelRfl
namespace Go.Proofs.YtbpndomfipdhdaaDoor.Ev
open Go.Proofs
theorem ck_slices_Clone_string_string : FnChk Tryd.prog f_slices_Clone_string_string ir_slices_Clone_string_string := FnChk_of Tryd.func24 Tryd.call24 (by kernel_rfl)
theorem ck_world_World_Keys : FnChk Tryd.prog f_world_World_Keys ir_world_World_Keys := FnChk_of Tryd.func8 Tryd.call8 (by kernel_rfl)
theorem ck_world_way_api_Command_add : FnChk Tryd.prog f_world_way_api_Command_add ir_world_way_api_Command_add := FnChk_of Tryd.func26 Tryd.call26 (by kernel_rfl)
theorem ck_wire_fits : FnChk Tryd.prog f_wire_fits ir_wire_fits := FnChk_of Tryd.func46 Tryd.call46 (by kernel_rfl)
theorem ck_label_letter : FnChk Tryd.prog f_label_letter ir_label_letter := FnChk_of Tryd.func53 Tryd.call53 (by kernel_rfl)
theorem ck_label_may : FnChk Tryd.prog f_label_may ir_label_may := FnChk_of Tryd.func52 Tryd.call52 (by kernel_rfl)
theorem ck_label_Runes : FnChk Tryd.prog f_label_Runes ir_label_Runes := FnChk_of Tryd.func51 Tryd.call51 (by kernel_rfl)
theorem ck_label_Good : FnChk Tryd.prog f_label_Good ir_label_Good := FnChk_of Tryd.func38 Tryd.call38 (by kernel_rfl)
theorem ck_def_way : FnChk Tryd.prog f_def_way ir_def_way := FnChk_of Tryd.func55 Tryd.call55 (by kernel_rfl)
theorem ck_def_number : FnChk Tryd.prog f_def_number ir_def_number := FnChk_of Tryd.func64 Tryd.call64 (by kernel_rfl)
theorem ck_def_Cut : FnChk Tryd.prog f_def_Cut ir_def_Cut := FnChk_of Tryd.func45 Tryd.call45 (by kernel_rfl)
theorem ck_wire_GoodCommand : FnChk Tryd.prog f_wire_GoodCommand ir_wire_GoodCommand := FnChk_of Tryd.func25 Tryd.call25 (by kernel_rfl)
theorem ck_world_World_Send : FnChk Tryd.prog f_world_World_Send ir_world_World_Send := FnChk_of Tryd.func9 Tryd.call9 (by kernel_rfl)
theorem ck_world_World_Done : FnChk Tryd.prog f_world_World_Done ir_world_World_Done := FnChk_of Tryd.func15 Tryd.call15 (by kernel_rfl)
theorem ck_wire_Answer : FnChk Tryd.prog f_wire_Answer ir_wire_Answer := FnChk_of Tryd.func31 Tryd.call31 (by kernel_rfl)
theorem ck_world_way_api_Reply_add : FnChk Tryd.prog f_world_way_api_Reply_add ir_world_way_api_Reply_add := FnChk_of Tryd.func30 Tryd.call30 (by kernel_rfl)
theorem ck_world_way_api_Command_leave : FnChk Tryd.prog f_world_way_api_Command_leave ir_world_way_api_Command_leave := FnChk_of Tryd.func29 Tryd.call29 (by kernel_rfl)
theorem ck_world_World_mark : FnChk Tryd.prog f_world_World_mark ir_world_World_mark := FnChk_of Tryd.func28 Tryd.call28 (by kernel_rfl)
theorem ck_world_way_api_Command_at : FnChk Tryd.prog f_world_way_api_Command_at ir_world_way_api_Command_at := FnChk_of Tryd.func27 Tryd.call27 (by kernel_rfl)
theorem ck_world_World_Deliver : FnChk Tryd.prog f_world_World_Deliver ir_world_World_Deliver := FnChk_of Tryd.func10 Tryd.call10 (by kernel_rfl)
theorem ck_world_way_api_Command_lose : FnChk Tryd.prog f_world_way_api_Command_lose ir_world_way_api_Command_lose := FnChk_of Tryd.func32 Tryd.call32 (by kernel_rfl)
theorem ck_world_World_Lose : FnChk Tryd.prog f_world_World_Lose ir_world_World_Lose := FnChk_of Tryd.func11 Tryd.call11 (by kernel_rfl)
theorem ck_world_way_api_Reply_leave : FnChk Tryd.prog f_world_way_api_Reply_leave ir_world_way_api_Reply_leave := FnChk_of Tryd.func34 Tryd.call34 (by kernel_rfl)
theorem ck_world_way_api_Reply_at : FnChk Tryd.prog f_world_way_api_Reply_at ir_world_way_api_Reply_at := FnChk_of Tryd.func33 Tryd.call33 (by kernel_rfl)
theorem ck_world_World_Reply : FnChk Tryd.prog f_world_World_Reply ir_world_World_Reply := FnChk_of Tryd.func12 Tryd.call12 (by kernel_rfl)
theorem ck_world_way_api_Reply_lose : FnChk Tryd.prog f_world_way_api_Reply_lose ir_world_way_api_Reply_lose := FnChk_of Tryd.func35 Tryd.call35 (by kernel_rfl)
theorem ck_world_World_LoseReply : FnChk Tryd.prog f_world_World_LoseReply ir_world_World_LoseReply := FnChk_of Tryd.func13 Tryd.call13 (by kernel_rfl)
theorem ck_usufructlaw21_few : FnChk Tryd.prog f_usufructlaw21_few ir_usufructlaw21_few := FnChk_of Tryd.func7 Tryd.call7 (by kernel_rfl)
theorem ck_def_Key : FnChk Tryd.prog f_def_Key ir_def_Key := FnChk_of Tryd.func39 Tryd.call39 (by kernel_rfl)
theorem ck_world_World_Net : FnChk Tryd.prog f_world_World_Net ir_world_World_Net := FnChk_of Tryd.func17 Tryd.call17 (by kernel_rfl)
theorem ck_slices_Clone_api_Reply_api_Reply : FnChk Tryd.prog f_slices_Clone_api_Reply_api_Reply ir_slices_Clone_api_Reply_api_Reply := FnChk_of Tryd.func49 Tryd.call49 (by kernel_rfl)
theorem ck_world_way_api_Reply_all : FnChk Tryd.prog f_world_way_api_Reply_all ir_world_way_api_Reply_all := FnChk_of Tryd.func36 Tryd.call36 (by kernel_rfl)
theorem ck_world_World_Replies : FnChk Tryd.prog f_world_World_Replies ir_world_World_Replies := FnChk_of Tryd.func14 Tryd.call14 (by kernel_rfl)
theorem ck_usufructlaw21_awake : FnChk Tryd.prog f_usufructlaw21_awake ir_usufructlaw21_awake := FnChk_of Tryd.func6 Tryd.call6 (by kernel_rfl)
theorem ck_usufructlaw21_WorldOnce : FnChk Tryd.prog f_usufructlaw21_WorldOnce ir_usufructlaw21_WorldOnce := FnChk_of Tryd.func3 Tryd.call3 (by kernel_rfl)
theorem ck_usufructref13_Decimal : FnChk Tryd.prog f_usufructref13_Decimal ir_usufructref13_Decimal := FnChk_of Tryd.func37 Tryd.call37 (by kernel_rfl)
theorem ck_usufructref13_Key : FnChk Tryd.prog f_usufructref13_Key ir_usufructref13_Key := FnChk_of Tryd.func16 Tryd.call16 (by kernel_rfl)
theorem ck_usufructlaw21_WorldNets : FnChk Tryd.prog f_usufructlaw21_WorldNets ir_usufructlaw21_WorldNets := FnChk_of Tryd.func4 Tryd.call4 (by kernel_rfl)
theorem ck_slices_Clone_api_Command_api_Command : FnChk Tryd.prog f_slices_Clone_api_Command_api_Command ir_slices_Clone_api_Command_api_Command := FnChk_of Tryd.func67 Tryd.call67 (by kernel_rfl)
theorem ck_world_way_api_Command_all : FnChk Tryd.prog f_world_way_api_Command_all ir_world_way_api_Command_all := FnChk_of Tryd.func58 Tryd.call58 (by kernel_rfl)
theorem ck_world_World_Commands : FnChk Tryd.prog f_world_World_Commands ir_world_World_Commands := FnChk_of Tryd.func43 Tryd.call43 (by kernel_rfl)
theorem ck_usufructlaw21_same : FnChk Tryd.prog f_usufructlaw21_same ir_usufructlaw21_same := FnChk_of Tryd.func22 Tryd.call22 (by kernel_rfl)
theorem ck_usufructref21_Has : FnChk Tryd.prog f_usufructref21_Has ir_usufructref21_Has := FnChk_of Tryd.func41 Tryd.call41 (by kernel_rfl)
theorem ck_usufructref02_At : FnChk Tryd.prog f_usufructref02_At ir_usufructref02_At := FnChk_of Tryd.func59 Tryd.call59 (by kernel_rfl)
theorem ck_usufructref02_Runes : FnChk Tryd.prog f_usufructref02_Runes ir_usufructref02_Runes := FnChk_of Tryd.func62 Tryd.call62 (by kernel_rfl)
theorem ck_usufructref02_letter : FnChk Tryd.prog f_usufructref02_letter ir_usufructref02_letter := FnChk_of Tryd.func61 Tryd.call61 (by kernel_rfl)
theorem ck_usufructref02_may : FnChk Tryd.prog f_usufructref02_may ir_usufructref02_may := FnChk_of Tryd.func60 Tryd.call60 (by kernel_rfl)
theorem ck_usufructref02_Good : FnChk Tryd.prog f_usufructref02_Good ir_usufructref02_Good := FnChk_of Tryd.func44 Tryd.call44 (by kernel_rfl)
theorem ck_usufructref21_Net : FnChk Tryd.prog f_usufructref21_Net ir_usufructref21_Net := FnChk_of Tryd.func23 Tryd.call23 (by kernel_rfl)
theorem ck_usufructref19_fits : FnChk Tryd.prog f_usufructref19_fits ir_usufructref19_fits := FnChk_of Tryd.func57 Tryd.call57 (by kernel_rfl)
theorem ck_usufructref13_Read : FnChk Tryd.prog f_usufructref13_Read ir_usufructref13_Read := FnChk_of Tryd.func56 Tryd.call56 (by kernel_rfl)
theorem ck_usufructref19_Command : FnChk Tryd.prog f_usufructref19_Command ir_usufructref19_Command := FnChk_of Tryd.func40 Tryd.call40 (by kernel_rfl)
theorem ck_usufructref21_Send : FnChk Tryd.prog f_usufructref21_Send ir_usufructref21_Send := FnChk_of Tryd.func18 Tryd.call18 (by kernel_rfl)
theorem ck_usufructref21_drop : FnChk Tryd.prog f_usufructref21_drop ir_usufructref21_drop := FnChk_of Tryd.func42 Tryd.call42 (by kernel_rfl)
theorem ck_usufructref21_Deliver : FnChk Tryd.prog f_usufructref21_Deliver ir_usufructref21_Deliver := FnChk_of Tryd.func19 Tryd.call19 (by kernel_rfl)
theorem ck_usufructref21_Lose : FnChk Tryd.prog f_usufructref21_Lose ir_usufructref21_Lose := FnChk_of Tryd.func20 Tryd.call20 (by kernel_rfl)
theorem ck_usufructref21_Reply : FnChk Tryd.prog f_usufructref21_Reply ir_usufructref21_Reply := FnChk_of Tryd.func21 Tryd.call21 (by kernel_rfl)
theorem ck_usufructlaw21_WorldPlays : FnChk Tryd.prog f_usufructlaw21_WorldPlays ir_usufructlaw21_WorldPlays := FnChk_of Tryd.func5 Tryd.call5 (by kernel_rfl)
theorem fns_ok : ∀ f fd, fns f = some fd → FnChk Tryd.prog f fd := by
  intro f fd h
  unfold fns at h
  split at h
  · cases h; exact ck_usufructlaw21_WorldOnce
  · cases h; exact ck_usufructlaw21_WorldNets
  · cases h; exact ck_usufructlaw21_WorldPlays
  · cases h; exact ck_usufructlaw21_awake
  · cases h; exact ck_usufructlaw21_few
  · cases h; exact ck_world_World_Keys
  · cases h; exact ck_world_World_Send
  · cases h; exact ck_world_World_Deliver
  · cases h; exact ck_world_World_Lose
  · cases h; exact ck_world_World_Reply
  · cases h; exact ck_world_World_LoseReply
  · cases h; exact ck_world_World_Replies
  · cases h; exact ck_world_World_Done
  · cases h; exact ck_usufructref13_Key
  · cases h; exact ck_world_World_Net
  · cases h; exact ck_usufructref21_Send
  · cases h; exact ck_usufructref21_Deliver
  · cases h; exact ck_usufructref21_Lose
  · cases h; exact ck_usufructref21_Reply
  · cases h; exact ck_usufructlaw21_same
  · cases h; exact ck_usufructref21_Net
  · cases h; exact ck_slices_Clone_string_string
  · cases h; exact ck_wire_GoodCommand
  · cases h; exact ck_world_way_api_Command_add
  · cases h; exact ck_world_way_api_Command_at
  · cases h; exact ck_world_World_mark
  · cases h; exact ck_world_way_api_Command_leave
  · cases h; exact ck_world_way_api_Reply_add
  · cases h; exact ck_wire_Answer
  · cases h; exact ck_world_way_api_Command_lose
  · cases h; exact ck_world_way_api_Reply_at
  · cases h; exact ck_world_way_api_Reply_leave
  · cases h; exact ck_world_way_api_Reply_lose
  · cases h; exact ck_world_way_api_Reply_all
  · cases h; exact ck_usufructref13_Decimal
  · cases h; exact ck_label_Good
  · cases h; exact ck_def_Key
  · cases h; exact ck_usufructref19_Command
  · cases h; exact ck_usufructref21_Has
  · cases h; exact ck_usufructref21_drop
  · cases h; exact ck_world_World_Commands
  · cases h; exact ck_usufructref02_Good
  · cases h; exact ck_def_Cut
  · cases h; exact ck_wire_fits
  · cases h; exact ck_slices_Clone_api_Reply_api_Reply
  · cases h; exact ck_label_Runes
  · cases h; exact ck_label_may
  · cases h; exact ck_label_letter
  · cases h; exact ck_def_way
  · cases h; exact ck_usufructref13_Read
  · cases h; exact ck_usufructref19_fits
  · cases h; exact ck_world_way_api_Command_all
  · cases h; exact ck_usufructref02_At
  · cases h; exact ck_usufructref02_may
  · cases h; exact ck_usufructref02_letter
  · cases h; exact ck_usufructref02_Runes
  · cases h; exact ck_def_number
  · cases h; exact ck_slices_Clone_api_Command_api_Command
  · cases h
end Go.Proofs.YtbpndomfipdhdaaDoor.Ev
