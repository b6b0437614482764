import Derived.Test.YtoobogpbejdocaaDoorEvFn
import Derived.Test.YtoobogpbejdocaaDoorEvIR
import Derived.Test.YtoobogpbejdocaaDoorProg
import Derived.KernelRfl
namespace Go.Proofs.YtoobogpbejdocaaDoor.Ev
open Go.Proofs
abbrev Ck (k : Nat) (f : FnD) : Prop := FnChk Tryd.prog k f
theorem c22 : Ck 22 ir_tick_Of := FnChk_of Tryd.func22 Tryd.call22 (by kernel_rfl)
theorem c54 : Ck 54 ir_tick_Times := FnChk_of Tryd.func54 Tryd.call54 (by kernel_rfl)
theorem c55 : Ck 55 ir_tick_Pow := FnChk_of Tryd.func55 Tryd.call55 (by kernel_rfl)
theorem c53 : Ck 53 ir_backoff_Good := FnChk_of Tryd.func53 Tryd.call53 (by kernel_rfl)
theorem c40 : Ck 40 ir_backoff_Wait := FnChk_of Tryd.func40 Tryd.call40 (by kernel_rfl)
theorem c39 : Ck 39 ir_tick_Add := FnChk_of Tryd.func39 Tryd.call39 (by kernel_rfl)
theorem c38 : Ck 38 ir_backoff_Left := FnChk_of Tryd.func38 Tryd.call38 (by kernel_rfl)
theorem c37 : Ck 37 ir_forecast_tries_1 := FnChk_of Tryd.func37 Tryd.call37 (by kernel_rfl)
theorem c21 : Ck 21 ir_forecast_tries := FnChk_of Tryd.func21 Tryd.call21 (by kernel_rfl)
theorem c24 : Ck 24 ir_forecast_course_try := FnChk_of Tryd.func24 Tryd.call24 (by kernel_rfl)
theorem c25 : Ck 25 ir_def_End := FnChk_of Tryd.func25 Tryd.call25 (by kernel_rfl)
theorem c14 : Ck 14 ir_forecast_follow := FnChk_of Tryd.func14 Tryd.call14 (by kernel_rfl)
theorem c20 : Ck 20 ir_tick_Good := FnChk_of Tryd.func20 Tryd.call20 (by kernel_rfl)
theorem c61 : Ck 61 ir_def_step_1 := FnChk_of Tryd.func61 Tryd.call61 (by kernel_rfl)
theorem c64 : Ck 64 ir_slices_IndexFunc_api_Step_api_Step := FnChk_of Tryd.func64 Tryd.call64 (by kernel_rfl)
theorem c60 : Ck 60 ir_slices_ContainsFunc_api_Step_api_Step := FnChk_of Tryd.func60 Tryd.call60 (by kernel_rfl)
theorem c59 : Ck 59 ir_label_letter := FnChk_of Tryd.func59 Tryd.call59 (by kernel_rfl)
theorem c58 : Ck 58 ir_label_may := FnChk_of Tryd.func58 Tryd.call58 (by kernel_rfl)
theorem c57 : Ck 57 ir_label_Runes := FnChk_of Tryd.func57 Tryd.call57 (by kernel_rfl)
theorem c41 : Ck 41 ir_label_Good := FnChk_of Tryd.func41 Tryd.call41 (by kernel_rfl)
theorem c42 : Ck 42 ir_def_step := FnChk_of Tryd.func42 Tryd.call42 (by kernel_rfl)
theorem c23 : Ck 23 ir_def_Check := FnChk_of Tryd.func23 Tryd.call23 (by kernel_rfl)
theorem c13 : Ck 13 ir_forecast_right := FnChk_of Tryd.func13 Tryd.call13 (by kernel_rfl)
theorem c6 : Ck 6 ir_forecast_Of := FnChk_of Tryd.func6 Tryd.call6 (by kernel_rfl)
theorem c8 : Ck 8 ir_forecast_Last := FnChk_of Tryd.func8 Tryd.call8 (by kernel_rfl)
theorem c9 : Ck 9 ir_forecast_Phase := FnChk_of Tryd.func9 Tryd.call9 (by kernel_rfl)
theorem c11 : Ck 11 ir_usufructlaw30_same := FnChk_of Tryd.func11 Tryd.call11 (by kernel_rfl)
theorem c52 : Ck 52 ir_usufructref13_Decimal := FnChk_of Tryd.func52 Tryd.call52 (by kernel_rfl)
theorem c36 : Ck 36 ir_usufructref13_Key := FnChk_of Tryd.func36 Tryd.call36 (by kernel_rfl)
theorem c47 : Ck 47 ir_usufructref01_Of := FnChk_of Tryd.func47 Tryd.call47 (by kernel_rfl)
theorem c28 : Ck 28 ir_usufructref01_Add := FnChk_of Tryd.func28 Tryd.call28 (by kernel_rfl)
theorem c19 : Ck 19 ir_usufructref14_Emit := FnChk_of Tryd.func19 Tryd.call19 (by kernel_rfl)
theorem c16 : Ck 16 ir_usufructref13_End := FnChk_of Tryd.func16 Tryd.call16 (by kernel_rfl)
theorem c50 : Ck 50 ir_usufructref14_Over := FnChk_of Tryd.func50 Tryd.call50 (by kernel_rfl)
theorem c35 : Ck 35 ir_usufructref14_Plan := FnChk_of Tryd.func35 Tryd.call35 (by kernel_rfl)
theorem c49 : Ck 49 ir_usufructref14_tick := FnChk_of Tryd.func49 Tryd.call49 (by kernel_rfl)
theorem c27 : Ck 27 ir_usufructref11_Good := FnChk_of Tryd.func27 Tryd.call27 (by kernel_rfl)
theorem c43 : Ck 43 ir_usufructref02_At := FnChk_of Tryd.func43 Tryd.call43 (by kernel_rfl)
theorem c46 : Ck 46 ir_usufructref02_Runes := FnChk_of Tryd.func46 Tryd.call46 (by kernel_rfl)
theorem c45 : Ck 45 ir_usufructref02_letter := FnChk_of Tryd.func45 Tryd.call45 (by kernel_rfl)
theorem c44 : Ck 44 ir_usufructref02_may := FnChk_of Tryd.func44 Tryd.call44 (by kernel_rfl)
theorem c26 : Ck 26 ir_usufructref02_Good := FnChk_of Tryd.func26 Tryd.call26 (by kernel_rfl)
theorem c15 : Ck 15 ir_usufructref13_Check := FnChk_of Tryd.func15 Tryd.call15 (by kernel_rfl)
theorem c48 : Ck 48 ir_usufructref14_Good := FnChk_of Tryd.func48 Tryd.call48 (by kernel_rfl)
theorem c29 : Ck 29 ir_usufructref14_Check := FnChk_of Tryd.func29 Tryd.call29 (by kernel_rfl)
theorem c18 : Ck 18 ir_usufructref14_May := FnChk_of Tryd.func18 Tryd.call18 (by kernel_rfl)
theorem c34 : Ck 34 ir_usufructref14_end := FnChk_of Tryd.func34 Tryd.call34 (by kernel_rfl)
theorem c32 : Ck 32 ir_usufructref14_put := FnChk_of Tryd.func32 Tryd.call32 (by kernel_rfl)
theorem c31 : Ck 31 ir_usufructref14_Back := FnChk_of Tryd.func31 Tryd.call31 (by kernel_rfl)
theorem c62 : Ck 62 ir_usufructref01_Times := FnChk_of Tryd.func62 Tryd.call62 (by kernel_rfl)
theorem c51 : Ck 51 ir_usufructref11_Wait := FnChk_of Tryd.func51 Tryd.call51 (by kernel_rfl)
theorem c30 : Ck 30 ir_usufructref14_Fails := FnChk_of Tryd.func30 Tryd.call30 (by kernel_rfl)
theorem c33 : Ck 33 ir_usufructref14_Done := FnChk_of Tryd.func33 Tryd.call33 (by kernel_rfl)
theorem c17 : Ck 17 ir_usufructref14_Do := FnChk_of Tryd.func17 Tryd.call17 (by kernel_rfl)
theorem c10 : Ck 10 ir_usufructref30_Play := FnChk_of Tryd.func10 Tryd.call10 (by kernel_rfl)
theorem c7 : Ck 7 ir_usufructref30_Right := FnChk_of Tryd.func7 Tryd.call7 (by kernel_rfl)
theorem c5 : Ck 5 ir_usufructlaw13_Small := FnChk_of Tryd.func5 Tryd.call5 (by kernel_rfl)
theorem c12 : Ck 12 ir_forecast_Tries := FnChk_of Tryd.func12 Tryd.call12 (by kernel_rfl)
theorem c4 : Ck 4 ir_usufructlaw30_awake := FnChk_of Tryd.func4 Tryd.call4 (by kernel_rfl)
theorem c3 : Ck 3 ir_usufructlaw30_ForecastTells := FnChk_of Tryd.func3 Tryd.call3 (by kernel_rfl)
theorem fns_ok : ∀ f fd, fns f = some fd → FnChk Tryd.prog f fd := by
  intro f fd h
  unfold fns at h
  split at h
  · cases h; exact c3
  · cases h; exact c4
  · cases h; exact c5
  · cases h; exact c6
  · cases h; exact c7
  · cases h; exact c8
  · cases h; exact c9
  · cases h; exact c10
  · cases h; exact c11
  · cases h; exact c12
  · cases h; exact c13
  · cases h; exact c14
  · cases h; exact c15
  · cases h; exact c16
  · cases h; exact c17
  · cases h; exact c18
  · cases h; exact c19
  · cases h; exact c20
  · cases h; exact c21
  · cases h; exact c22
  · cases h; exact c23
  · cases h; exact c24
  · cases h; exact c25
  · cases h; exact c26
  · cases h; exact c27
  · cases h; exact c28
  · cases h; exact c29
  · cases h; exact c30
  · cases h; exact c31
  · cases h; exact c32
  · cases h; exact c33
  · cases h; exact c34
  · cases h; exact c35
  · cases h; exact c36
  · cases h; exact c37
  · cases h; exact c38
  · cases h; exact c39
  · cases h; exact c40
  · cases h; exact c41
  · cases h; exact c42
  · cases h; exact c43
  · cases h; exact c44
  · cases h; exact c45
  · cases h; exact c46
  · cases h; exact c47
  · cases h; exact c48
  · cases h; exact c49
  · cases h; exact c50
  · cases h; exact c51
  · cases h; exact c52
  · cases h; exact c53
  · cases h; exact c54
  · cases h; exact c55
  · cases h; exact c57
  · cases h; exact c58
  · cases h; exact c59
  · cases h; exact c60
  · cases h; exact c61
  · cases h; exact c62
  · cases h; exact c64
  · cases h
theorem l1001200 : LoopChk Tryd.prog 1001200 ir_forecast_Tries_R0 := LoopChk_of (by decide) (by kernel_rfl) (by kernel_rfl)
theorem l1002400 : LoopChk Tryd.prog 1002400 ir_forecast_course_try_R0 := LoopChk_of (by decide) (by kernel_rfl) (by kernel_rfl)
theorem loops_ok : ∀ k d, loops k = some d → LoopChk Tryd.prog k d := by
  intro f fd h
  unfold loops at h
  split at h
  · cases h; exact l1001200
  · cases h; exact l1002400
  · cases h
end Go.Proofs.YtoobogpbejdocaaDoor.Ev
