/-
  Each printed function is the loaded one.
-/
import Derived.Test.YtampinmionpmhaaDoorEvFn
import Derived.Test.YtampinmionpmhaaDoorEvIR
import Derived.Test.YtampinmionpmhaaDoorProg
import Derived.KernelRfl
namespace Go.Proofs.YtampinmionpmhaaDoor.Ev
open Go.Proofs
theorem ck_wire_Answer : FnChk Tryd.prog f_wire_Answer ir_wire_Answer := FnChk_of Tryd.func16 Tryd.call16 (by kernel_rfl)
theorem ck_usufructref19_fits : FnChk Tryd.prog f_usufructref19_fits ir_usufructref19_fits := FnChk_of Tryd.func21 Tryd.call21 (by kernel_rfl)
theorem ck_usufructref19_Reply : FnChk Tryd.prog f_usufructref19_Reply ir_usufructref19_Reply := FnChk_of Tryd.func9 Tryd.call9 (by kernel_rfl)
theorem ck_usufructref13_Decimal : FnChk Tryd.prog f_usufructref13_Decimal ir_usufructref13_Decimal := FnChk_of Tryd.func30 Tryd.call30 (by kernel_rfl)
theorem ck_usufructref19_way : FnChk Tryd.prog f_usufructref19_way ir_usufructref19_way := FnChk_of Tryd.func31 Tryd.call31 (by kernel_rfl)
theorem ck_usufructref19_ReplyLine : FnChk Tryd.prog f_usufructref19_ReplyLine ir_usufructref19_ReplyLine := FnChk_of Tryd.func15 Tryd.call15 (by kernel_rfl)
theorem ck_wire_taker_either : FnChk Tryd.prog f_wire_taker_either ir_wire_taker_either := FnChk_of Tryd.func29 Tryd.call29 (by kernel_rfl)
theorem ck_wire_fits : FnChk Tryd.prog f_wire_fits ir_wire_fits := FnChk_of Tryd.func18 Tryd.call18 (by kernel_rfl)
theorem ck_wire_number : FnChk Tryd.prog f_wire_number ir_wire_number := FnChk_of Tryd.func46 Tryd.call46 (by kernel_rfl)
theorem ck_wire_taker_number : FnChk Tryd.prog f_wire_taker_number ir_wire_taker_number := FnChk_of Tryd.func28 Tryd.call28 (by kernel_rfl)
theorem ck_wire_taker_must : FnChk Tryd.prog f_wire_taker_must ir_wire_taker_must := FnChk_of Tryd.func27 Tryd.call27 (by kernel_rfl)
theorem ck_wire_words_1 : FnChk Tryd.prog f_wire_words_1 ir_wire_words_1 := FnChk_of Tryd.func45 Tryd.call45 (by kernel_rfl)
theorem ck_wire_words : FnChk Tryd.prog f_wire_words ir_wire_words := FnChk_of Tryd.func26 Tryd.call26 (by kernel_rfl)
theorem ck_wire_ReadReply : FnChk Tryd.prog f_wire_ReadReply ir_wire_ReadReply := FnChk_of Tryd.func14 Tryd.call14 (by kernel_rfl)
theorem ck_usufructref02_At : FnChk Tryd.prog f_usufructref02_At ir_usufructref02_At := FnChk_of Tryd.func39 Tryd.call39 (by kernel_rfl)
theorem ck_usufructref02_Runes : FnChk Tryd.prog f_usufructref02_Runes ir_usufructref02_Runes := FnChk_of Tryd.func42 Tryd.call42 (by kernel_rfl)
theorem ck_usufructref02_letter : FnChk Tryd.prog f_usufructref02_letter ir_usufructref02_letter := FnChk_of Tryd.func41 Tryd.call41 (by kernel_rfl)
theorem ck_usufructref02_may : FnChk Tryd.prog f_usufructref02_may ir_usufructref02_may := FnChk_of Tryd.func40 Tryd.call40 (by kernel_rfl)
theorem ck_usufructref02_Good : FnChk Tryd.prog f_usufructref02_Good ir_usufructref02_Good := FnChk_of Tryd.func22 Tryd.call22 (by kernel_rfl)
theorem ck_usufructref13_Read : FnChk Tryd.prog f_usufructref13_Read ir_usufructref13_Read := FnChk_of Tryd.func20 Tryd.call20 (by kernel_rfl)
theorem ck_usufructref19_Command : FnChk Tryd.prog f_usufructref19_Command ir_usufructref19_Command := FnChk_of Tryd.func7 Tryd.call7 (by kernel_rfl)
theorem ck_usufructref19_CommandLine : FnChk Tryd.prog f_usufructref19_CommandLine ir_usufructref19_CommandLine := FnChk_of Tryd.func13 Tryd.call13 (by kernel_rfl)
theorem ck_label_letter : FnChk Tryd.prog f_label_letter ir_label_letter := FnChk_of Tryd.func38 Tryd.call38 (by kernel_rfl)
theorem ck_label_may : FnChk Tryd.prog f_label_may ir_label_may := FnChk_of Tryd.func37 Tryd.call37 (by kernel_rfl)
theorem ck_label_Runes : FnChk Tryd.prog f_label_Runes ir_label_Runes := FnChk_of Tryd.func36 Tryd.call36 (by kernel_rfl)
theorem ck_label_Good : FnChk Tryd.prog f_label_Good ir_label_Good := FnChk_of Tryd.func19 Tryd.call19 (by kernel_rfl)
theorem ck_def_way : FnChk Tryd.prog f_def_way ir_def_way := FnChk_of Tryd.func33 Tryd.call33 (by kernel_rfl)
theorem ck_def_number : FnChk Tryd.prog f_def_number ir_def_number := FnChk_of Tryd.func34 Tryd.call34 (by kernel_rfl)
theorem ck_def_Cut : FnChk Tryd.prog f_def_Cut ir_def_Cut := FnChk_of Tryd.func17 Tryd.call17 (by kernel_rfl)
theorem ck_wire_GoodCommand : FnChk Tryd.prog f_wire_GoodCommand ir_wire_GoodCommand := FnChk_of Tryd.func6 Tryd.call6 (by kernel_rfl)
theorem ck_wire_ReadCommand : FnChk Tryd.prog f_wire_ReadCommand ir_wire_ReadCommand := FnChk_of Tryd.func12 Tryd.call12 (by kernel_rfl)
theorem ck_wire_choice : FnChk Tryd.prog f_wire_choice ir_wire_choice := FnChk_of Tryd.func25 Tryd.call25 (by kernel_rfl)
theorem ck_wire_line : FnChk Tryd.prog f_wire_line ir_wire_line := FnChk_of Tryd.func23 Tryd.call23 (by kernel_rfl)
theorem ck_wire_CommandLine : FnChk Tryd.prog f_wire_CommandLine ir_wire_CommandLine := FnChk_of Tryd.func10 Tryd.call10 (by kernel_rfl)
theorem ck_wire_GoodReply : FnChk Tryd.prog f_wire_GoodReply ir_wire_GoodReply := FnChk_of Tryd.func8 Tryd.call8 (by kernel_rfl)
theorem ck_wire_ReplyLine : FnChk Tryd.prog f_wire_ReplyLine ir_wire_ReplyLine := FnChk_of Tryd.func11 Tryd.call11 (by kernel_rfl)
theorem ck_usufructlaw19_awake : FnChk Tryd.prog f_usufructlaw19_awake ir_usufructlaw19_awake := FnChk_of Tryd.func5 Tryd.call5 (by kernel_rfl)
theorem ck_usufructlaw19_WireLines : FnChk Tryd.prog f_usufructlaw19_WireLines ir_usufructlaw19_WireLines := FnChk_of Tryd.func3 Tryd.call3 (by kernel_rfl)
theorem ck_usufructlaw19_WireAnswers : FnChk Tryd.prog f_usufructlaw19_WireAnswers ir_usufructlaw19_WireAnswers := FnChk_of Tryd.func4 Tryd.call4 (by kernel_rfl)
theorem fns_ok : ∀ f fd, fns f = some fd → FnChk Tryd.prog f fd := by
  intro f fd h
  unfold fns at h
  split at h
  · cases h; exact ck_usufructlaw19_WireLines
  · cases h; exact ck_usufructlaw19_WireAnswers
  · cases h; exact ck_usufructlaw19_awake
  · cases h; exact ck_wire_GoodCommand
  · cases h; exact ck_usufructref19_Command
  · cases h; exact ck_wire_GoodReply
  · cases h; exact ck_usufructref19_Reply
  · cases h; exact ck_wire_CommandLine
  · cases h; exact ck_wire_ReplyLine
  · cases h; exact ck_wire_ReadCommand
  · cases h; exact ck_usufructref19_CommandLine
  · cases h; exact ck_wire_ReadReply
  · cases h; exact ck_usufructref19_ReplyLine
  · cases h; exact ck_wire_Answer
  · cases h; exact ck_def_Cut
  · cases h; exact ck_wire_fits
  · cases h; exact ck_label_Good
  · cases h; exact ck_usufructref13_Read
  · cases h; exact ck_usufructref19_fits
  · cases h; exact ck_usufructref02_Good
  · cases h; exact ck_wire_line
  · cases h; exact ck_wire_choice
  · cases h; exact ck_wire_words
  · cases h; exact ck_wire_taker_must
  · cases h; exact ck_wire_taker_number
  · cases h; exact ck_wire_taker_either
  · cases h; exact ck_usufructref13_Decimal
  · cases h; exact ck_usufructref19_way
  · cases h; exact ck_def_way
  · cases h; exact ck_def_number
  · cases h; exact ck_label_Runes
  · cases h; exact ck_label_may
  · cases h; exact ck_label_letter
  · cases h; exact ck_usufructref02_At
  · cases h; exact ck_usufructref02_may
  · cases h; exact ck_usufructref02_letter
  · cases h; exact ck_usufructref02_Runes
  · cases h; exact ck_wire_words_1
  · cases h; exact ck_wire_number
  · cases h
end Go.Proofs.YtampinmionpmhaaDoor.Ev
