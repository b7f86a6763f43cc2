/- 'detentlaw10.TaskPlays': runs behind patterns. Conditions: none. -/
import Derived.Test.YtgkemmhpfekoaaaWTaskA
namespace Go.Proofs.Ytgkemmhpfekoaaa.taskPlays
open Go.Rse Go.RowKit
set_option linter.unusedVariables false
set_option maxRecDepth 1000000
noncomputable section
theorem o6_0 : mkK (f2_0 0 0 5 0) (fun t s => codeK ckC 400 bodyL t s (kLoop ps k5 p6 kk)) = true := by kernel_rfl
theorem o6_1 : mkK (f2_0 1 1 5 0) (fun t s => codeK ckC 400 bodyL t s (kLoop ps k5 p6 kk)) = true := by kernel_rfl
theorem o6_2 : mkK (f2_0 2 2 5 0) (fun t s => codeK ckC 400 bodyL t s (kLoop ps k5 p6 kk)) = true := by kernel_rfl
theorem o6_3 : mkK (f2_0 3 3 5 0) (fun t s => codeK ckC 400 bodyL t s (kLoop ps k5 p6 kk)) = true := by kernel_rfl
theorem o6_4 : mkK (f2_0 4 4 5 0) (fun t s => codeK ckC 400 bodyL t s (kLoop ps k5 p6 kk)) = true := by kernel_rfl
theorem o6_5 : mkK (f2_0 5 5 5 0) (fun t s => codeK ckC 400 bodyL t s (kLoop ps k5 p6 kk)) = true := by kernel_rfl
theorem o6_6 : mkK (f2_0 6 6 5 0) (fun t s => codeK ckC 400 bodyL t s (kLoop ps k5 p6 kk)) = true := by kernel_rfl
theorem o6_7 : mkK (f2_0 7 7 5 0) (fun t s => codeK ckC 400 bodyL t s (kLoop ps k5 p6 kk)) = true := by kernel_rfl
theorem o6 : Okp p6 := ⟨⟨by kernel_rfl, by kernel_rfl⟩, o6_0, o6_1, o6_2, o6_3, o6_4, o6_5, o6_6, o6_7, trivial⟩
theorem o16_0 : mkK (f4_0 0 0 7 0) (fun t s => codeK ckC 400 bodyL t s (kLoop ps k5 p16 kk)) = true := by kernel_rfl
theorem o16_1 : mkK (f4_0 1 1 7 0) (fun t s => codeK ckC 400 bodyL t s (kLoop ps k5 p16 kk)) = true := by kernel_rfl
theorem o16_2 : mkK (f4_0 2 2 7 0) (fun t s => codeK ckC 400 bodyL t s (kLoop ps k5 p16 kk)) = true := by kernel_rfl
theorem o16_3 : mkK (f4_0 3 3 7 0) (fun t s => codeK ckC 400 bodyL t s (kLoop ps k5 p16 kk)) = true := by kernel_rfl
theorem o16_4 : mkK (f4_0 4 4 7 0) (fun t s => codeK ckC 400 bodyL t s (kLoop ps k5 p16 kk)) = true := by kernel_rfl
theorem o16_5 : mkK (f4_0 5 5 7 0) (fun t s => codeK ckC 400 bodyL t s (kLoop ps k5 p16 kk)) = true := by kernel_rfl
theorem o16_6 : mkK (f4_0 6 6 7 0) (fun t s => codeK ckC 400 bodyL t s (kLoop ps k5 p16 kk)) = true := by kernel_rfl
theorem o16_7 : mkK (f4_0 7 7 7 0) (fun t s => codeK ckC 400 bodyL t s (kLoop ps k5 p16 kk)) = true := by kernel_rfl
theorem o16 : Okp p16 := ⟨⟨by kernel_rfl, by kernel_rfl⟩, o16_0, o16_1, o16_2, o16_3, o16_4, o16_5, o16_6, o16_7, trivial⟩
theorem o26_0 : mkK (f8_0 0 0 0 2) (fun t s => codeK ckC 400 bodyL t s (kLoop ps k5 p26 kk)) = true := by kernel_rfl
theorem o26_1 : mkK (f8_0 1 1 0 2) (fun t s => codeK ckC 400 bodyL t s (kLoop ps k5 p26 kk)) = true := by kernel_rfl
theorem o26_2 : mkK (f8_0 2 2 0 2) (fun t s => codeK ckC 400 bodyL t s (kLoop ps k5 p26 kk)) = true := by kernel_rfl
theorem o26_3 : mkK (f8_0 3 3 0 2) (fun t s => codeK ckC 400 bodyL t s (kLoop ps k5 p26 kk)) = true := by kernel_rfl
theorem o26_4 : mkK (f8_0 4 4 0 2) (fun t s => codeK ckC 400 bodyL t s (kLoop ps k5 p26 kk)) = true := by kernel_rfl
theorem o26_5 : mkK (f8_0 5 5 0 2) (fun t s => codeK ckC 400 bodyL t s (kLoop ps k5 p26 kk)) = true := by kernel_rfl
theorem o26_6 : mkK (f8_0 6 6 0 2) (fun t s => codeK ckC 400 bodyL t s (kLoop ps k5 p26 kk)) = true := by kernel_rfl
theorem o26_7 : mkK (f8_0 7 7 0 2) (fun t s => codeK ckC 400 bodyL t s (kLoop ps k5 p26 kk)) = true := by kernel_rfl
theorem o26 : Okp p26 := ⟨⟨by kernel_rfl, by kernel_rfl⟩, o26_0, o26_1, o26_2, o26_3, o26_4, o26_5, o26_6, o26_7, trivial⟩
theorem o36_0 : mkK (f8_0 0 0 2 3) (fun t s => codeK ckC 400 bodyL t s (kLoop ps k5 p36 kk)) = true := by kernel_rfl
theorem o36_1 : mkK (f8_0 1 1 2 3) (fun t s => codeK ckC 400 bodyL t s (kLoop ps k5 p36 kk)) = true := by kernel_rfl
theorem o36_2 : mkK (f8_0 2 2 2 3) (fun t s => codeK ckC 400 bodyL t s (kLoop ps k5 p36 kk)) = true := by kernel_rfl
theorem o36_3 : mkK (f8_0 3 3 2 3) (fun t s => codeK ckC 400 bodyL t s (kLoop ps k5 p36 kk)) = true := by kernel_rfl
theorem o36_4 : mkK (f8_0 4 4 2 3) (fun t s => codeK ckC 400 bodyL t s (kLoop ps k5 p36 kk)) = true := by kernel_rfl
theorem o36_5 : mkK (f8_0 5 5 2 3) (fun t s => codeK ckC 400 bodyL t s (kLoop ps k5 p36 kk)) = true := by kernel_rfl
theorem o36_6 : mkK (f8_0 6 6 2 3) (fun t s => codeK ckC 400 bodyL t s (kLoop ps k5 p36 kk)) = true := by kernel_rfl
theorem o36_7 : mkK (f8_0 7 7 2 3) (fun t s => codeK ckC 400 bodyL t s (kLoop ps k5 p36 kk)) = true := by kernel_rfl
theorem o36 : Okp p36 := ⟨⟨by kernel_rfl, by kernel_rfl⟩, o36_0, o36_1, o36_2, o36_3, o36_4, o36_5, o36_6, o36_7, trivial⟩
theorem o46_0 : mkK (f8_0 0 0 4 4) (fun t s => codeK ckC 400 bodyL t s (kLoop ps k5 p46 kk)) = true := by kernel_rfl
theorem o46_1 : mkK (f8_0 1 1 4 4) (fun t s => codeK ckC 400 bodyL t s (kLoop ps k5 p46 kk)) = true := by kernel_rfl
theorem o46_2 : mkK (f8_0 2 2 4 4) (fun t s => codeK ckC 400 bodyL t s (kLoop ps k5 p46 kk)) = true := by kernel_rfl
theorem o46_3 : mkK (f8_0 3 3 4 4) (fun t s => codeK ckC 400 bodyL t s (kLoop ps k5 p46 kk)) = true := by kernel_rfl
theorem o46_4 : mkK (f8_0 4 4 4 4) (fun t s => codeK ckC 400 bodyL t s (kLoop ps k5 p46 kk)) = true := by kernel_rfl
theorem o46_5 : mkK (f8_0 5 5 4 4) (fun t s => codeK ckC 400 bodyL t s (kLoop ps k5 p46 kk)) = true := by kernel_rfl
theorem o46_6 : mkK (f8_0 6 6 4 4) (fun t s => codeK ckC 400 bodyL t s (kLoop ps k5 p46 kk)) = true := by kernel_rfl
theorem o46_7 : mkK (f8_0 7 7 4 4) (fun t s => codeK ckC 400 bodyL t s (kLoop ps k5 p46 kk)) = true := by kernel_rfl
theorem o46 : Okp p46 := ⟨⟨by kernel_rfl, by kernel_rfl⟩, o46_0, o46_1, o46_2, o46_3, o46_4, o46_5, o46_6, o46_7, trivial⟩
theorem o56_0 : mkK (f8_0 0 0 6 5) (fun t s => codeK ckC 400 bodyL t s (kLoop ps k5 p56 kk)) = true := by kernel_rfl
theorem o56_1 : mkK (f8_0 1 1 6 5) (fun t s => codeK ckC 400 bodyL t s (kLoop ps k5 p56 kk)) = true := by kernel_rfl
theorem o56_2 : mkK (f8_0 2 2 6 5) (fun t s => codeK ckC 400 bodyL t s (kLoop ps k5 p56 kk)) = true := by kernel_rfl
theorem o56_3 : mkK (f8_0 3 3 6 5) (fun t s => codeK ckC 400 bodyL t s (kLoop ps k5 p56 kk)) = true := by kernel_rfl
theorem o56_4 : mkK (f8_0 4 4 6 5) (fun t s => codeK ckC 400 bodyL t s (kLoop ps k5 p56 kk)) = true := by kernel_rfl
theorem o56_5 : mkK (f8_0 5 5 6 5) (fun t s => codeK ckC 400 bodyL t s (kLoop ps k5 p56 kk)) = true := by kernel_rfl
theorem o56_6 : mkK (f8_0 6 6 6 5) (fun t s => codeK ckC 400 bodyL t s (kLoop ps k5 p56 kk)) = true := by kernel_rfl
theorem o56_7 : mkK (f8_0 7 7 6 5) (fun t s => codeK ckC 400 bodyL t s (kLoop ps k5 p56 kk)) = true := by kernel_rfl
theorem o56 : Okp p56 := ⟨⟨by kernel_rfl, by kernel_rfl⟩, o56_0, o56_1, o56_2, o56_3, o56_4, o56_5, o56_6, o56_7, trivial⟩
theorem o66_0 : mkK (f8_0 0 0 0 7) (fun t s => codeK ckC 400 bodyL t s (kLoop ps k5 p66 kk)) = true := by kernel_rfl
theorem o66_1 : mkK (f8_0 1 1 0 7) (fun t s => codeK ckC 400 bodyL t s (kLoop ps k5 p66 kk)) = true := by kernel_rfl
theorem o66_2 : mkK (f8_0 2 2 0 7) (fun t s => codeK ckC 400 bodyL t s (kLoop ps k5 p66 kk)) = true := by kernel_rfl
theorem o66_3 : mkK (f8_0 3 3 0 7) (fun t s => codeK ckC 400 bodyL t s (kLoop ps k5 p66 kk)) = true := by kernel_rfl
theorem o66_4 : mkK (f8_0 4 4 0 7) (fun t s => codeK ckC 400 bodyL t s (kLoop ps k5 p66 kk)) = true := by kernel_rfl
theorem o66_5 : mkK (f8_0 5 5 0 7) (fun t s => codeK ckC 400 bodyL t s (kLoop ps k5 p66 kk)) = true := by kernel_rfl
theorem o66_6 : mkK (f8_0 6 6 0 7) (fun t s => codeK ckC 400 bodyL t s (kLoop ps k5 p66 kk)) = true := by kernel_rfl
theorem o66_7 : mkK (f8_0 7 7 0 7) (fun t s => codeK ckC 400 bodyL t s (kLoop ps k5 p66 kk)) = true := by kernel_rfl
theorem o66 : Okp p66 := ⟨⟨by kernel_rfl, by kernel_rfl⟩, o66_0, o66_1, o66_2, o66_3, o66_4, o66_5, o66_6, o66_7, trivial⟩
theorem o76_0 : mkK (f12_0 0 0 2 1) (fun t s => codeK ckC 400 bodyL t s (kLoop ps k5 p76 kk)) = true := by kernel_rfl
theorem o76_1 : mkK (f12_0 1 1 2 1) (fun t s => codeK ckC 400 bodyL t s (kLoop ps k5 p76 kk)) = true := by kernel_rfl
theorem o76_2 : mkK (f12_0 2 2 2 1) (fun t s => codeK ckC 400 bodyL t s (kLoop ps k5 p76 kk)) = true := by kernel_rfl
theorem o76_3 : mkK (f12_0 3 3 2 1) (fun t s => codeK ckC 400 bodyL t s (kLoop ps k5 p76 kk)) = true := by kernel_rfl
theorem o76_4 : mkK (f12_0 4 4 2 1) (fun t s => codeK ckC 400 bodyL t s (kLoop ps k5 p76 kk)) = true := by kernel_rfl
theorem o76_5 : mkK (f12_0 5 5 2 1) (fun t s => codeK ckC 400 bodyL t s (kLoop ps k5 p76 kk)) = true := by kernel_rfl
theorem o76_6 : mkK (f12_0 6 6 2 1) (fun t s => codeK ckC 400 bodyL t s (kLoop ps k5 p76 kk)) = true := by kernel_rfl
theorem o76_7 : mkK (f12_0 7 7 2 1) (fun t s => codeK ckC 400 bodyL t s (kLoop ps k5 p76 kk)) = true := by kernel_rfl
theorem o76 : Okp p76 := ⟨⟨by kernel_rfl, by kernel_rfl⟩, o76_0, o76_1, o76_2, o76_3, o76_4, o76_5, o76_6, o76_7, trivial⟩
theorem o86_0 : mkK (f12_0 0 0 4 2) (fun t s => codeK ckC 400 bodyL t s (kLoop ps k5 p86 kk)) = true := by kernel_rfl
theorem o86_1 : mkK (f12_0 1 1 4 2) (fun t s => codeK ckC 400 bodyL t s (kLoop ps k5 p86 kk)) = true := by kernel_rfl
theorem o86_2 : mkK (f12_0 2 2 4 2) (fun t s => codeK ckC 400 bodyL t s (kLoop ps k5 p86 kk)) = true := by kernel_rfl
theorem o86_3 : mkK (f12_0 3 3 4 2) (fun t s => codeK ckC 400 bodyL t s (kLoop ps k5 p86 kk)) = true := by kernel_rfl
theorem o86_4 : mkK (f12_0 4 4 4 2) (fun t s => codeK ckC 400 bodyL t s (kLoop ps k5 p86 kk)) = true := by kernel_rfl
theorem o86_5 : mkK (f12_0 5 5 4 2) (fun t s => codeK ckC 400 bodyL t s (kLoop ps k5 p86 kk)) = true := by kernel_rfl
theorem o86_6 : mkK (f12_0 6 6 4 2) (fun t s => codeK ckC 400 bodyL t s (kLoop ps k5 p86 kk)) = true := by kernel_rfl
theorem o86_7 : mkK (f12_0 7 7 4 2) (fun t s => codeK ckC 400 bodyL t s (kLoop ps k5 p86 kk)) = true := by kernel_rfl
theorem o86 : Okp p86 := ⟨⟨by kernel_rfl, by kernel_rfl⟩, o86_0, o86_1, o86_2, o86_3, o86_4, o86_5, o86_6, o86_7, trivial⟩
theorem o96_0 : mkK (f12_0 0 0 6 3) (fun t s => codeK ckC 400 bodyL t s (kLoop ps k5 p96 kk)) = true := by kernel_rfl
theorem o96_1 : mkK (f12_0 1 1 6 3) (fun t s => codeK ckC 400 bodyL t s (kLoop ps k5 p96 kk)) = true := by kernel_rfl
theorem o96_2 : mkK (f12_0 2 2 6 3) (fun t s => codeK ckC 400 bodyL t s (kLoop ps k5 p96 kk)) = true := by kernel_rfl
theorem o96_3 : mkK (f12_0 3 3 6 3) (fun t s => codeK ckC 400 bodyL t s (kLoop ps k5 p96 kk)) = true := by kernel_rfl
theorem o96_4 : mkK (f12_0 4 4 6 3) (fun t s => codeK ckC 400 bodyL t s (kLoop ps k5 p96 kk)) = true := by kernel_rfl
theorem o96_5 : mkK (f12_0 5 5 6 3) (fun t s => codeK ckC 400 bodyL t s (kLoop ps k5 p96 kk)) = true := by kernel_rfl
theorem o96_6 : mkK (f12_0 6 6 6 3) (fun t s => codeK ckC 400 bodyL t s (kLoop ps k5 p96 kk)) = true := by kernel_rfl
theorem o96_7 : mkK (f12_0 7 7 6 3) (fun t s => codeK ckC 400 bodyL t s (kLoop ps k5 p96 kk)) = true := by kernel_rfl
theorem o96 : Okp p96 := ⟨⟨by kernel_rfl, by kernel_rfl⟩, o96_0, o96_1, o96_2, o96_3, o96_4, o96_5, o96_6, o96_7, trivial⟩
theorem o106_0 : mkK (f12_0 0 0 0 5) (fun t s => codeK ckC 400 bodyL t s (kLoop ps k5 p106 kk)) = true := by kernel_rfl
theorem o106_1 : mkK (f12_0 1 1 0 5) (fun t s => codeK ckC 400 bodyL t s (kLoop ps k5 p106 kk)) = true := by kernel_rfl
theorem o106_2 : mkK (f12_0 2 2 0 5) (fun t s => codeK ckC 400 bodyL t s (kLoop ps k5 p106 kk)) = true := by kernel_rfl
theorem o106_3 : mkK (f12_0 3 3 0 5) (fun t s => codeK ckC 400 bodyL t s (kLoop ps k5 p106 kk)) = true := by kernel_rfl
theorem o106_4 : mkK (f12_0 4 4 0 5) (fun t s => codeK ckC 400 bodyL t s (kLoop ps k5 p106 kk)) = true := by kernel_rfl
theorem o106_5 : mkK (f12_0 5 5 0 5) (fun t s => codeK ckC 400 bodyL t s (kLoop ps k5 p106 kk)) = true := by kernel_rfl
theorem o106_6 : mkK (f12_0 6 6 0 5) (fun t s => codeK ckC 400 bodyL t s (kLoop ps k5 p106 kk)) = true := by kernel_rfl
theorem o106_7 : mkK (f12_0 7 7 0 5) (fun t s => codeK ckC 400 bodyL t s (kLoop ps k5 p106 kk)) = true := by kernel_rfl
theorem o106 : Okp p106 := ⟨⟨by kernel_rfl, by kernel_rfl⟩, o106_0, o106_1, o106_2, o106_3, o106_4, o106_5, o106_6, o106_7, trivial⟩
theorem o116_0 : mkK (f12_0 0 0 2 6) (fun t s => codeK ckC 400 bodyL t s (kLoop ps k5 p116 kk)) = true := by kernel_rfl
theorem o116_1 : mkK (f12_0 1 1 2 6) (fun t s => codeK ckC 400 bodyL t s (kLoop ps k5 p116 kk)) = true := by kernel_rfl
theorem o116_2 : mkK (f12_0 2 2 2 6) (fun t s => codeK ckC 400 bodyL t s (kLoop ps k5 p116 kk)) = true := by kernel_rfl
theorem o116_3 : mkK (f12_0 3 3 2 6) (fun t s => codeK ckC 400 bodyL t s (kLoop ps k5 p116 kk)) = true := by kernel_rfl
theorem o116_4 : mkK (f12_0 4 4 2 6) (fun t s => codeK ckC 400 bodyL t s (kLoop ps k5 p116 kk)) = true := by kernel_rfl
theorem o116_5 : mkK (f12_0 5 5 2 6) (fun t s => codeK ckC 400 bodyL t s (kLoop ps k5 p116 kk)) = true := by kernel_rfl
theorem o116_6 : mkK (f12_0 6 6 2 6) (fun t s => codeK ckC 400 bodyL t s (kLoop ps k5 p116 kk)) = true := by kernel_rfl
theorem o116_7 : mkK (f12_0 7 7 2 6) (fun t s => codeK ckC 400 bodyL t s (kLoop ps k5 p116 kk)) = true := by kernel_rfl
theorem o116 : Okp p116 := ⟨⟨by kernel_rfl, by kernel_rfl⟩, o116_0, o116_1, o116_2, o116_3, o116_4, o116_5, o116_6, o116_7, trivial⟩
theorem o126_0 : mkK (f12_0 0 0 4 7) (fun t s => codeK ckC 400 bodyL t s (kLoop ps k5 p126 kk)) = true := by kernel_rfl
theorem o126_1 : mkK (f12_0 1 1 4 7) (fun t s => codeK ckC 400 bodyL t s (kLoop ps k5 p126 kk)) = true := by kernel_rfl
theorem o126_2 : mkK (f12_0 2 2 4 7) (fun t s => codeK ckC 400 bodyL t s (kLoop ps k5 p126 kk)) = true := by kernel_rfl
theorem o126_3 : mkK (f12_0 3 3 4 7) (fun t s => codeK ckC 400 bodyL t s (kLoop ps k5 p126 kk)) = true := by kernel_rfl
theorem o126_4 : mkK (f12_0 4 4 4 7) (fun t s => codeK ckC 400 bodyL t s (kLoop ps k5 p126 kk)) = true := by kernel_rfl
theorem o126_5 : mkK (f12_0 5 5 4 7) (fun t s => codeK ckC 400 bodyL t s (kLoop ps k5 p126 kk)) = true := by kernel_rfl
theorem o126_6 : mkK (f12_0 6 6 4 7) (fun t s => codeK ckC 400 bodyL t s (kLoop ps k5 p126 kk)) = true := by kernel_rfl
theorem o126_7 : mkK (f12_0 7 7 4 7) (fun t s => codeK ckC 400 bodyL t s (kLoop ps k5 p126 kk)) = true := by kernel_rfl
theorem o126 : Okp p126 := ⟨⟨by kernel_rfl, by kernel_rfl⟩, o126_0, o126_1, o126_2, o126_3, o126_4, o126_5, o126_6, o126_7, trivial⟩
theorem o136_0 : mkK (f12_1 0 0 0 7) (fun t s => codeK ckC 400 bodyL t s (kLoop ps k5 p136 kk)) = true := by kernel_rfl
theorem o136_1 : mkK (f12_1 1 1 0 7) (fun t s => codeK ckC 400 bodyL t s (kLoop ps k5 p136 kk)) = true := by kernel_rfl
theorem o136_2 : mkK (f12_1 2 2 0 7) (fun t s => codeK ckC 400 bodyL t s (kLoop ps k5 p136 kk)) = true := by kernel_rfl
theorem o136_3 : mkK (f12_1 3 3 0 7) (fun t s => codeK ckC 400 bodyL t s (kLoop ps k5 p136 kk)) = true := by kernel_rfl
theorem o136_4 : mkK (f12_1 4 4 0 7) (fun t s => codeK ckC 400 bodyL t s (kLoop ps k5 p136 kk)) = true := by kernel_rfl
theorem o136_5 : mkK (f12_1 5 5 0 7) (fun t s => codeK ckC 400 bodyL t s (kLoop ps k5 p136 kk)) = true := by kernel_rfl
theorem o136_6 : mkK (f12_1 6 6 0 7) (fun t s => codeK ckC 400 bodyL t s (kLoop ps k5 p136 kk)) = true := by kernel_rfl
theorem o136_7 : mkK (f12_1 7 7 0 7) (fun t s => codeK ckC 400 bodyL t s (kLoop ps k5 p136 kk)) = true := by kernel_rfl
theorem o136 : Okp p136 := ⟨⟨by kernel_rfl, by kernel_rfl⟩, o136_0, o136_1, o136_2, o136_3, o136_4, o136_5, o136_6, o136_7, trivial⟩
end
end Go.Proofs.Ytgkemmhpfekoaaa.taskPlays
