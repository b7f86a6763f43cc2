/- 'detentlaw10.TaskPlays': runs behind patterns. Conditions: none. -/
import Derived.Test.YtgkemmhpfekoaaaWTaskA
namespace Go.Proofs.Ytgkemmhpfekoaaa.taskPlays
open Go.Rse Go.RowKit
set_option linter.unusedVariables false
set_option maxRecDepth 1000000
noncomputable section
theorem o4_0 : mkK (f2_0 0 0 3 0) (fun t s => codeK ckC 400 bodyL t s (kLoop ps k5 p4 kk)) = true := by kernel_rfl
theorem o4_1 : mkK (f2_0 1 1 3 0) (fun t s => codeK ckC 400 bodyL t s (kLoop ps k5 p4 kk)) = true := by kernel_rfl
theorem o4_2 : mkK (f2_0 2 2 3 0) (fun t s => codeK ckC 400 bodyL t s (kLoop ps k5 p4 kk)) = true := by kernel_rfl
theorem o4_3 : mkK (f2_0 3 3 3 0) (fun t s => codeK ckC 400 bodyL t s (kLoop ps k5 p4 kk)) = true := by kernel_rfl
theorem o4_4 : mkK (f2_0 4 4 3 0) (fun t s => codeK ckC 400 bodyL t s (kLoop ps k5 p4 kk)) = true := by kernel_rfl
theorem o4_5 : mkK (f2_0 5 5 3 0) (fun t s => codeK ckC 400 bodyL t s (kLoop ps k5 p4 kk)) = true := by kernel_rfl
theorem o4_6 : mkK (f2_0 6 6 3 0) (fun t s => codeK ckC 400 bodyL t s (kLoop ps k5 p4 kk)) = true := by kernel_rfl
theorem o4_7 : mkK (f2_0 7 7 3 0) (fun t s => codeK ckC 400 bodyL t s (kLoop ps k5 p4 kk)) = true := by kernel_rfl
theorem o4 : Okp p4 := ⟨⟨by kernel_rfl, by kernel_rfl⟩, o4_0, o4_1, o4_2, o4_3, o4_4, o4_5, o4_6, o4_7, trivial⟩
theorem o14_0 : mkK (f4_0 0 0 5 0) (fun t s => codeK ckC 400 bodyL t s (kLoop ps k5 p14 kk)) = true := by kernel_rfl
theorem o14_1 : mkK (f4_0 1 1 5 0) (fun t s => codeK ckC 400 bodyL t s (kLoop ps k5 p14 kk)) = true := by kernel_rfl
theorem o14_2 : mkK (f4_0 2 2 5 0) (fun t s => codeK ckC 400 bodyL t s (kLoop ps k5 p14 kk)) = true := by kernel_rfl
theorem o14_3 : mkK (f4_0 3 3 5 0) (fun t s => codeK ckC 400 bodyL t s (kLoop ps k5 p14 kk)) = true := by kernel_rfl
theorem o14_4 : mkK (f4_0 4 4 5 0) (fun t s => codeK ckC 400 bodyL t s (kLoop ps k5 p14 kk)) = true := by kernel_rfl
theorem o14_5 : mkK (f4_0 5 5 5 0) (fun t s => codeK ckC 400 bodyL t s (kLoop ps k5 p14 kk)) = true := by kernel_rfl
theorem o14_6 : mkK (f4_0 6 6 5 0) (fun t s => codeK ckC 400 bodyL t s (kLoop ps k5 p14 kk)) = true := by kernel_rfl
theorem o14_7 : mkK (f4_0 7 7 5 0) (fun t s => codeK ckC 400 bodyL t s (kLoop ps k5 p14 kk)) = true := by kernel_rfl
theorem o14 : Okp p14 := ⟨⟨by kernel_rfl, by kernel_rfl⟩, o14_0, o14_1, o14_2, o14_3, o14_4, o14_5, o14_6, o14_7, trivial⟩
theorem o24_0 : mkK (f8_0 0 0 6 1) (fun t s => codeK ckC 400 bodyL t s (kLoop ps k5 p24 kk)) = true := by kernel_rfl
theorem o24_1 : mkK (f8_0 1 1 6 1) (fun t s => codeK ckC 400 bodyL t s (kLoop ps k5 p24 kk)) = true := by kernel_rfl
theorem o24_2 : mkK (f8_0 2 2 6 1) (fun t s => codeK ckC 400 bodyL t s (kLoop ps k5 p24 kk)) = true := by kernel_rfl
theorem o24_3 : mkK (f8_0 3 3 6 1) (fun t s => codeK ckC 400 bodyL t s (kLoop ps k5 p24 kk)) = true := by kernel_rfl
theorem o24_4 : mkK (f8_0 4 4 6 1) (fun t s => codeK ckC 400 bodyL t s (kLoop ps k5 p24 kk)) = true := by kernel_rfl
theorem o24_5 : mkK (f8_0 5 5 6 1) (fun t s => codeK ckC 400 bodyL t s (kLoop ps k5 p24 kk)) = true := by kernel_rfl
theorem o24_6 : mkK (f8_0 6 6 6 1) (fun t s => codeK ckC 400 bodyL t s (kLoop ps k5 p24 kk)) = true := by kernel_rfl
theorem o24_7 : mkK (f8_0 7 7 6 1) (fun t s => codeK ckC 400 bodyL t s (kLoop ps k5 p24 kk)) = true := by kernel_rfl
theorem o24 : Okp p24 := ⟨⟨by kernel_rfl, by kernel_rfl⟩, o24_0, o24_1, o24_2, o24_3, o24_4, o24_5, o24_6, o24_7, trivial⟩
theorem o34_0 : mkK (f8_0 0 0 0 3) (fun t s => codeK ckC 400 bodyL t s (kLoop ps k5 p34 kk)) = true := by kernel_rfl
theorem o34_1 : mkK (f8_0 1 1 0 3) (fun t s => codeK ckC 400 bodyL t s (kLoop ps k5 p34 kk)) = true := by kernel_rfl
theorem o34_2 : mkK (f8_0 2 2 0 3) (fun t s => codeK ckC 400 bodyL t s (kLoop ps k5 p34 kk)) = true := by kernel_rfl
theorem o34_3 : mkK (f8_0 3 3 0 3) (fun t s => codeK ckC 400 bodyL t s (kLoop ps k5 p34 kk)) = true := by kernel_rfl
theorem o34_4 : mkK (f8_0 4 4 0 3) (fun t s => codeK ckC 400 bodyL t s (kLoop ps k5 p34 kk)) = true := by kernel_rfl
theorem o34_5 : mkK (f8_0 5 5 0 3) (fun t s => codeK ckC 400 bodyL t s (kLoop ps k5 p34 kk)) = true := by kernel_rfl
theorem o34_6 : mkK (f8_0 6 6 0 3) (fun t s => codeK ckC 400 bodyL t s (kLoop ps k5 p34 kk)) = true := by kernel_rfl
theorem o34_7 : mkK (f8_0 7 7 0 3) (fun t s => codeK ckC 400 bodyL t s (kLoop ps k5 p34 kk)) = true := by kernel_rfl
theorem o34 : Okp p34 := ⟨⟨by kernel_rfl, by kernel_rfl⟩, o34_0, o34_1, o34_2, o34_3, o34_4, o34_5, o34_6, o34_7, trivial⟩
theorem o44_0 : mkK (f8_0 0 0 2 4) (fun t s => codeK ckC 400 bodyL t s (kLoop ps k5 p44 kk)) = true := by kernel_rfl
theorem o44_1 : mkK (f8_0 1 1 2 4) (fun t s => codeK ckC 400 bodyL t s (kLoop ps k5 p44 kk)) = true := by kernel_rfl
theorem o44_2 : mkK (f8_0 2 2 2 4) (fun t s => codeK ckC 400 bodyL t s (kLoop ps k5 p44 kk)) = true := by kernel_rfl
theorem o44_3 : mkK (f8_0 3 3 2 4) (fun t s => codeK ckC 400 bodyL t s (kLoop ps k5 p44 kk)) = true := by kernel_rfl
theorem o44_4 : mkK (f8_0 4 4 2 4) (fun t s => codeK ckC 400 bodyL t s (kLoop ps k5 p44 kk)) = true := by kernel_rfl
theorem o44_5 : mkK (f8_0 5 5 2 4) (fun t s => codeK ckC 400 bodyL t s (kLoop ps k5 p44 kk)) = true := by kernel_rfl
theorem o44_6 : mkK (f8_0 6 6 2 4) (fun t s => codeK ckC 400 bodyL t s (kLoop ps k5 p44 kk)) = true := by kernel_rfl
theorem o44_7 : mkK (f8_0 7 7 2 4) (fun t s => codeK ckC 400 bodyL t s (kLoop ps k5 p44 kk)) = true := by kernel_rfl
theorem o44 : Okp p44 := ⟨⟨by kernel_rfl, by kernel_rfl⟩, o44_0, o44_1, o44_2, o44_3, o44_4, o44_5, o44_6, o44_7, trivial⟩
theorem o54_0 : mkK (f8_0 0 0 4 5) (fun t s => codeK ckC 400 bodyL t s (kLoop ps k5 p54 kk)) = true := by kernel_rfl
theorem o54_1 : mkK (f8_0 1 1 4 5) (fun t s => codeK ckC 400 bodyL t s (kLoop ps k5 p54 kk)) = true := by kernel_rfl
theorem o54_2 : mkK (f8_0 2 2 4 5) (fun t s => codeK ckC 400 bodyL t s (kLoop ps k5 p54 kk)) = true := by kernel_rfl
theorem o54_3 : mkK (f8_0 3 3 4 5) (fun t s => codeK ckC 400 bodyL t s (kLoop ps k5 p54 kk)) = true := by kernel_rfl
theorem o54_4 : mkK (f8_0 4 4 4 5) (fun t s => codeK ckC 400 bodyL t s (kLoop ps k5 p54 kk)) = true := by kernel_rfl
theorem o54_5 : mkK (f8_0 5 5 4 5) (fun t s => codeK ckC 400 bodyL t s (kLoop ps k5 p54 kk)) = true := by kernel_rfl
theorem o54_6 : mkK (f8_0 6 6 4 5) (fun t s => codeK ckC 400 bodyL t s (kLoop ps k5 p54 kk)) = true := by kernel_rfl
theorem o54_7 : mkK (f8_0 7 7 4 5) (fun t s => codeK ckC 400 bodyL t s (kLoop ps k5 p54 kk)) = true := by kernel_rfl
theorem o54 : Okp p54 := ⟨⟨by kernel_rfl, by kernel_rfl⟩, o54_0, o54_1, o54_2, o54_3, o54_4, o54_5, o54_6, o54_7, trivial⟩
theorem o64_0 : mkK (f8_0 0 0 6 6) (fun t s => codeK ckC 400 bodyL t s (kLoop ps k5 p64 kk)) = true := by kernel_rfl
theorem o64_1 : mkK (f8_0 1 1 6 6) (fun t s => codeK ckC 400 bodyL t s (kLoop ps k5 p64 kk)) = true := by kernel_rfl
theorem o64_2 : mkK (f8_0 2 2 6 6) (fun t s => codeK ckC 400 bodyL t s (kLoop ps k5 p64 kk)) = true := by kernel_rfl
theorem o64_3 : mkK (f8_0 3 3 6 6) (fun t s => codeK ckC 400 bodyL t s (kLoop ps k5 p64 kk)) = true := by kernel_rfl
theorem o64_4 : mkK (f8_0 4 4 6 6) (fun t s => codeK ckC 400 bodyL t s (kLoop ps k5 p64 kk)) = true := by kernel_rfl
theorem o64_5 : mkK (f8_0 5 5 6 6) (fun t s => codeK ckC 400 bodyL t s (kLoop ps k5 p64 kk)) = true := by kernel_rfl
theorem o64_6 : mkK (f8_0 6 6 6 6) (fun t s => codeK ckC 400 bodyL t s (kLoop ps k5 p64 kk)) = true := by kernel_rfl
theorem o64_7 : mkK (f8_0 7 7 6 6) (fun t s => codeK ckC 400 bodyL t s (kLoop ps k5 p64 kk)) = true := by kernel_rfl
theorem o64 : Okp p64 := ⟨⟨by kernel_rfl, by kernel_rfl⟩, o64_0, o64_1, o64_2, o64_3, o64_4, o64_5, o64_6, o64_7, trivial⟩
theorem o74_0 : mkK (f12_0 0 0 0 1) (fun t s => codeK ckC 400 bodyL t s (kLoop ps k5 p74 kk)) = true := by kernel_rfl
theorem o74_1 : mkK (f12_0 1 1 0 1) (fun t s => codeK ckC 400 bodyL t s (kLoop ps k5 p74 kk)) = true := by kernel_rfl
theorem o74_2 : mkK (f12_0 2 2 0 1) (fun t s => codeK ckC 400 bodyL t s (kLoop ps k5 p74 kk)) = true := by kernel_rfl
theorem o74_3 : mkK (f12_0 3 3 0 1) (fun t s => codeK ckC 400 bodyL t s (kLoop ps k5 p74 kk)) = true := by kernel_rfl
theorem o74_4 : mkK (f12_0 4 4 0 1) (fun t s => codeK ckC 400 bodyL t s (kLoop ps k5 p74 kk)) = true := by kernel_rfl
theorem o74_5 : mkK (f12_0 5 5 0 1) (fun t s => codeK ckC 400 bodyL t s (kLoop ps k5 p74 kk)) = true := by kernel_rfl
theorem o74_6 : mkK (f12_0 6 6 0 1) (fun t s => codeK ckC 400 bodyL t s (kLoop ps k5 p74 kk)) = true := by kernel_rfl
theorem o74_7 : mkK (f12_0 7 7 0 1) (fun t s => codeK ckC 400 bodyL t s (kLoop ps k5 p74 kk)) = true := by kernel_rfl
theorem o74 : Okp p74 := ⟨⟨by kernel_rfl, by kernel_rfl⟩, o74_0, o74_1, o74_2, o74_3, o74_4, o74_5, o74_6, o74_7, trivial⟩
theorem o84_0 : mkK (f12_0 0 0 2 2) (fun t s => codeK ckC 400 bodyL t s (kLoop ps k5 p84 kk)) = true := by kernel_rfl
theorem o84_1 : mkK (f12_0 1 1 2 2) (fun t s => codeK ckC 400 bodyL t s (kLoop ps k5 p84 kk)) = true := by kernel_rfl
theorem o84_2 : mkK (f12_0 2 2 2 2) (fun t s => codeK ckC 400 bodyL t s (kLoop ps k5 p84 kk)) = true := by kernel_rfl
theorem o84_3 : mkK (f12_0 3 3 2 2) (fun t s => codeK ckC 400 bodyL t s (kLoop ps k5 p84 kk)) = true := by kernel_rfl
theorem o84_4 : mkK (f12_0 4 4 2 2) (fun t s => codeK ckC 400 bodyL t s (kLoop ps k5 p84 kk)) = true := by kernel_rfl
theorem o84_5 : mkK (f12_0 5 5 2 2) (fun t s => codeK ckC 400 bodyL t s (kLoop ps k5 p84 kk)) = true := by kernel_rfl
theorem o84_6 : mkK (f12_0 6 6 2 2) (fun t s => codeK ckC 400 bodyL t s (kLoop ps k5 p84 kk)) = true := by kernel_rfl
theorem o84_7 : mkK (f12_0 7 7 2 2) (fun t s => codeK ckC 400 bodyL t s (kLoop ps k5 p84 kk)) = true := by kernel_rfl
theorem o84 : Okp p84 := ⟨⟨by kernel_rfl, by kernel_rfl⟩, o84_0, o84_1, o84_2, o84_3, o84_4, o84_5, o84_6, o84_7, trivial⟩
theorem o94_0 : mkK (f12_0 0 0 4 3) (fun t s => codeK ckC 400 bodyL t s (kLoop ps k5 p94 kk)) = true := by kernel_rfl
theorem o94_1 : mkK (f12_0 1 1 4 3) (fun t s => codeK ckC 400 bodyL t s (kLoop ps k5 p94 kk)) = true := by kernel_rfl
theorem o94_2 : mkK (f12_0 2 2 4 3) (fun t s => codeK ckC 400 bodyL t s (kLoop ps k5 p94 kk)) = true := by kernel_rfl
theorem o94_3 : mkK (f12_0 3 3 4 3) (fun t s => codeK ckC 400 bodyL t s (kLoop ps k5 p94 kk)) = true := by kernel_rfl
theorem o94_4 : mkK (f12_0 4 4 4 3) (fun t s => codeK ckC 400 bodyL t s (kLoop ps k5 p94 kk)) = true := by kernel_rfl
theorem o94_5 : mkK (f12_0 5 5 4 3) (fun t s => codeK ckC 400 bodyL t s (kLoop ps k5 p94 kk)) = true := by kernel_rfl
theorem o94_6 : mkK (f12_0 6 6 4 3) (fun t s => codeK ckC 400 bodyL t s (kLoop ps k5 p94 kk)) = true := by kernel_rfl
theorem o94_7 : mkK (f12_0 7 7 4 3) (fun t s => codeK ckC 400 bodyL t s (kLoop ps k5 p94 kk)) = true := by kernel_rfl
theorem o94 : Okp p94 := ⟨⟨by kernel_rfl, by kernel_rfl⟩, o94_0, o94_1, o94_2, o94_3, o94_4, o94_5, o94_6, o94_7, trivial⟩
theorem o104_0 : mkK (f12_0 0 0 6 4) (fun t s => codeK ckC 400 bodyL t s (kLoop ps k5 p104 kk)) = true := by kernel_rfl
theorem o104_1 : mkK (f12_0 1 1 6 4) (fun t s => codeK ckC 400 bodyL t s (kLoop ps k5 p104 kk)) = true := by kernel_rfl
theorem o104_2 : mkK (f12_0 2 2 6 4) (fun t s => codeK ckC 400 bodyL t s (kLoop ps k5 p104 kk)) = true := by kernel_rfl
theorem o104_3 : mkK (f12_0 3 3 6 4) (fun t s => codeK ckC 400 bodyL t s (kLoop ps k5 p104 kk)) = true := by kernel_rfl
theorem o104_4 : mkK (f12_0 4 4 6 4) (fun t s => codeK ckC 400 bodyL t s (kLoop ps k5 p104 kk)) = true := by kernel_rfl
theorem o104_5 : mkK (f12_0 5 5 6 4) (fun t s => codeK ckC 400 bodyL t s (kLoop ps k5 p104 kk)) = true := by kernel_rfl
theorem o104_6 : mkK (f12_0 6 6 6 4) (fun t s => codeK ckC 400 bodyL t s (kLoop ps k5 p104 kk)) = true := by kernel_rfl
theorem o104_7 : mkK (f12_0 7 7 6 4) (fun t s => codeK ckC 400 bodyL t s (kLoop ps k5 p104 kk)) = true := by kernel_rfl
theorem o104 : Okp p104 := ⟨⟨by kernel_rfl, by kernel_rfl⟩, o104_0, o104_1, o104_2, o104_3, o104_4, o104_5, o104_6, o104_7, trivial⟩
theorem o114_0 : mkK (f12_0 0 0 0 6) (fun t s => codeK ckC 400 bodyL t s (kLoop ps k5 p114 kk)) = true := by kernel_rfl
theorem o114_1 : mkK (f12_0 1 1 0 6) (fun t s => codeK ckC 400 bodyL t s (kLoop ps k5 p114 kk)) = true := by kernel_rfl
theorem o114_2 : mkK (f12_0 2 2 0 6) (fun t s => codeK ckC 400 bodyL t s (kLoop ps k5 p114 kk)) = true := by kernel_rfl
theorem o114_3 : mkK (f12_0 3 3 0 6) (fun t s => codeK ckC 400 bodyL t s (kLoop ps k5 p114 kk)) = true := by kernel_rfl
theorem o114_4 : mkK (f12_0 4 4 0 6) (fun t s => codeK ckC 400 bodyL t s (kLoop ps k5 p114 kk)) = true := by kernel_rfl
theorem o114_5 : mkK (f12_0 5 5 0 6) (fun t s => codeK ckC 400 bodyL t s (kLoop ps k5 p114 kk)) = true := by kernel_rfl
theorem o114_6 : mkK (f12_0 6 6 0 6) (fun t s => codeK ckC 400 bodyL t s (kLoop ps k5 p114 kk)) = true := by kernel_rfl
theorem o114_7 : mkK (f12_0 7 7 0 6) (fun t s => codeK ckC 400 bodyL t s (kLoop ps k5 p114 kk)) = true := by kernel_rfl
theorem o114 : Okp p114 := ⟨⟨by kernel_rfl, by kernel_rfl⟩, o114_0, o114_1, o114_2, o114_3, o114_4, o114_5, o114_6, o114_7, trivial⟩
theorem o124_0 : mkK (f12_0 0 0 2 7) (fun t s => codeK ckC 400 bodyL t s (kLoop ps k5 p124 kk)) = true := by kernel_rfl
theorem o124_1 : mkK (f12_0 1 1 2 7) (fun t s => codeK ckC 400 bodyL t s (kLoop ps k5 p124 kk)) = true := by kernel_rfl
theorem o124_2 : mkK (f12_0 2 2 2 7) (fun t s => codeK ckC 400 bodyL t s (kLoop ps k5 p124 kk)) = true := by kernel_rfl
theorem o124_3 : mkK (f12_0 3 3 2 7) (fun t s => codeK ckC 400 bodyL t s (kLoop ps k5 p124 kk)) = true := by kernel_rfl
theorem o124_4 : mkK (f12_0 4 4 2 7) (fun t s => codeK ckC 400 bodyL t s (kLoop ps k5 p124 kk)) = true := by kernel_rfl
theorem o124_5 : mkK (f12_0 5 5 2 7) (fun t s => codeK ckC 400 bodyL t s (kLoop ps k5 p124 kk)) = true := by kernel_rfl
theorem o124_6 : mkK (f12_0 6 6 2 7) (fun t s => codeK ckC 400 bodyL t s (kLoop ps k5 p124 kk)) = true := by kernel_rfl
theorem o124_7 : mkK (f12_0 7 7 2 7) (fun t s => codeK ckC 400 bodyL t s (kLoop ps k5 p124 kk)) = true := by kernel_rfl
theorem o124 : Okp p124 := ⟨⟨by kernel_rfl, by kernel_rfl⟩, o124_0, o124_1, o124_2, o124_3, o124_4, o124_5, o124_6, o124_7, trivial⟩
theorem o134_0 : mkK (f12_1 0 0 0 5) (fun t s => codeK ckC 400 bodyL t s (kLoop ps k5 p134 kk)) = true := by kernel_rfl
theorem o134_1 : mkK (f12_1 1 1 0 5) (fun t s => codeK ckC 400 bodyL t s (kLoop ps k5 p134 kk)) = true := by kernel_rfl
theorem o134_2 : mkK (f12_1 2 2 0 5) (fun t s => codeK ckC 400 bodyL t s (kLoop ps k5 p134 kk)) = true := by kernel_rfl
theorem o134_3 : mkK (f12_1 3 3 0 5) (fun t s => codeK ckC 400 bodyL t s (kLoop ps k5 p134 kk)) = true := by kernel_rfl
theorem o134_4 : mkK (f12_1 4 4 0 5) (fun t s => codeK ckC 400 bodyL t s (kLoop ps k5 p134 kk)) = true := by kernel_rfl
theorem o134_5 : mkK (f12_1 5 5 0 5) (fun t s => codeK ckC 400 bodyL t s (kLoop ps k5 p134 kk)) = true := by kernel_rfl
theorem o134_6 : mkK (f12_1 6 6 0 5) (fun t s => codeK ckC 400 bodyL t s (kLoop ps k5 p134 kk)) = true := by kernel_rfl
theorem o134_7 : mkK (f12_1 7 7 0 5) (fun t s => codeK ckC 400 bodyL t s (kLoop ps k5 p134 kk)) = true := by kernel_rfl
theorem o134 : Okp p134 := ⟨⟨by kernel_rfl, by kernel_rfl⟩, o134_0, o134_1, o134_2, o134_3, o134_4, o134_5, o134_6, o134_7, trivial⟩
end
end Go.Proofs.Ytgkemmhpfekoaaa.taskPlays
