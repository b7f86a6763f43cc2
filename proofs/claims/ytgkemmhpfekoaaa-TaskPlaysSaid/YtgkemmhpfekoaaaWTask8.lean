/- 'detentlaw10.TaskPlays': runs behind patterns. Conditions: none. -/
import Derived.Test.YtgkemmhpfekoaaaWTaskA
namespace Go.Proofs.Ytgkemmhpfekoaaa.taskPlays
open Go.Rse Go.RowKit
set_option linter.unusedVariables false
set_option maxRecDepth 1000000
noncomputable section
theorem o8_0 : mkK (f2_0 0 0 7 0) (fun t s => codeK ckC 400 bodyL t s (kLoop ps k5 p8 kk)) = true := by kernel_rfl
theorem o8_1 : mkK (f2_0 1 1 7 0) (fun t s => codeK ckC 400 bodyL t s (kLoop ps k5 p8 kk)) = true := by kernel_rfl
theorem o8_2 : mkK (f2_0 2 2 7 0) (fun t s => codeK ckC 400 bodyL t s (kLoop ps k5 p8 kk)) = true := by kernel_rfl
theorem o8_3 : mkK (f2_0 3 3 7 0) (fun t s => codeK ckC 400 bodyL t s (kLoop ps k5 p8 kk)) = true := by kernel_rfl
theorem o8_4 : mkK (f2_0 4 4 7 0) (fun t s => codeK ckC 400 bodyL t s (kLoop ps k5 p8 kk)) = true := by kernel_rfl
theorem o8_5 : mkK (f2_0 5 5 7 0) (fun t s => codeK ckC 400 bodyL t s (kLoop ps k5 p8 kk)) = true := by kernel_rfl
theorem o8_6 : mkK (f2_0 6 6 7 0) (fun t s => codeK ckC 400 bodyL t s (kLoop ps k5 p8 kk)) = true := by kernel_rfl
theorem o8_7 : mkK (f2_0 7 7 7 0) (fun t s => codeK ckC 400 bodyL t s (kLoop ps k5 p8 kk)) = true := by kernel_rfl
theorem o8 : Okp p8 := ⟨⟨by kernel_rfl, by kernel_rfl⟩, o8_0, o8_1, o8_2, o8_3, o8_4, o8_5, o8_6, o8_7, trivial⟩
theorem o18_0 : mkK (f8_0 0 0 0 1) (fun t s => codeK ckC 400 bodyL t s (kLoop ps k5 p18 kk)) = true := by kernel_rfl
theorem o18_1 : mkK (f8_0 1 1 0 1) (fun t s => codeK ckC 400 bodyL t s (kLoop ps k5 p18 kk)) = true := by kernel_rfl
theorem o18_2 : mkK (f8_0 2 2 0 1) (fun t s => codeK ckC 400 bodyL t s (kLoop ps k5 p18 kk)) = true := by kernel_rfl
theorem o18_3 : mkK (f8_0 3 3 0 1) (fun t s => codeK ckC 400 bodyL t s (kLoop ps k5 p18 kk)) = true := by kernel_rfl
theorem o18_4 : mkK (f8_0 4 4 0 1) (fun t s => codeK ckC 400 bodyL t s (kLoop ps k5 p18 kk)) = true := by kernel_rfl
theorem o18_5 : mkK (f8_0 5 5 0 1) (fun t s => codeK ckC 400 bodyL t s (kLoop ps k5 p18 kk)) = true := by kernel_rfl
theorem o18_6 : mkK (f8_0 6 6 0 1) (fun t s => codeK ckC 400 bodyL t s (kLoop ps k5 p18 kk)) = true := by kernel_rfl
theorem o18_7 : mkK (f8_0 7 7 0 1) (fun t s => codeK ckC 400 bodyL t s (kLoop ps k5 p18 kk)) = true := by kernel_rfl
theorem o18 : Okp p18 := ⟨⟨by kernel_rfl, by kernel_rfl⟩, o18_0, o18_1, o18_2, o18_3, o18_4, o18_5, o18_6, o18_7, trivial⟩
theorem o28_0 : mkK (f8_0 0 0 2 2) (fun t s => codeK ckC 400 bodyL t s (kLoop ps k5 p28 kk)) = true := by kernel_rfl
theorem o28_1 : mkK (f8_0 1 1 2 2) (fun t s => codeK ckC 400 bodyL t s (kLoop ps k5 p28 kk)) = true := by kernel_rfl
theorem o28_2 : mkK (f8_0 2 2 2 2) (fun t s => codeK ckC 400 bodyL t s (kLoop ps k5 p28 kk)) = true := by kernel_rfl
theorem o28_3 : mkK (f8_0 3 3 2 2) (fun t s => codeK ckC 400 bodyL t s (kLoop ps k5 p28 kk)) = true := by kernel_rfl
theorem o28_4 : mkK (f8_0 4 4 2 2) (fun t s => codeK ckC 400 bodyL t s (kLoop ps k5 p28 kk)) = true := by kernel_rfl
theorem o28_5 : mkK (f8_0 5 5 2 2) (fun t s => codeK ckC 400 bodyL t s (kLoop ps k5 p28 kk)) = true := by kernel_rfl
theorem o28_6 : mkK (f8_0 6 6 2 2) (fun t s => codeK ckC 400 bodyL t s (kLoop ps k5 p28 kk)) = true := by kernel_rfl
theorem o28_7 : mkK (f8_0 7 7 2 2) (fun t s => codeK ckC 400 bodyL t s (kLoop ps k5 p28 kk)) = true := by kernel_rfl
theorem o28 : Okp p28 := ⟨⟨by kernel_rfl, by kernel_rfl⟩, o28_0, o28_1, o28_2, o28_3, o28_4, o28_5, o28_6, o28_7, trivial⟩
theorem o38_0 : mkK (f8_0 0 0 4 3) (fun t s => codeK ckC 400 bodyL t s (kLoop ps k5 p38 kk)) = true := by kernel_rfl
theorem o38_1 : mkK (f8_0 1 1 4 3) (fun t s => codeK ckC 400 bodyL t s (kLoop ps k5 p38 kk)) = true := by kernel_rfl
theorem o38_2 : mkK (f8_0 2 2 4 3) (fun t s => codeK ckC 400 bodyL t s (kLoop ps k5 p38 kk)) = true := by kernel_rfl
theorem o38_3 : mkK (f8_0 3 3 4 3) (fun t s => codeK ckC 400 bodyL t s (kLoop ps k5 p38 kk)) = true := by kernel_rfl
theorem o38_4 : mkK (f8_0 4 4 4 3) (fun t s => codeK ckC 400 bodyL t s (kLoop ps k5 p38 kk)) = true := by kernel_rfl
theorem o38_5 : mkK (f8_0 5 5 4 3) (fun t s => codeK ckC 400 bodyL t s (kLoop ps k5 p38 kk)) = true := by kernel_rfl
theorem o38_6 : mkK (f8_0 6 6 4 3) (fun t s => codeK ckC 400 bodyL t s (kLoop ps k5 p38 kk)) = true := by kernel_rfl
theorem o38_7 : mkK (f8_0 7 7 4 3) (fun t s => codeK ckC 400 bodyL t s (kLoop ps k5 p38 kk)) = true := by kernel_rfl
theorem o38 : Okp p38 := ⟨⟨by kernel_rfl, by kernel_rfl⟩, o38_0, o38_1, o38_2, o38_3, o38_4, o38_5, o38_6, o38_7, trivial⟩
theorem o48_0 : mkK (f8_0 0 0 6 4) (fun t s => codeK ckC 400 bodyL t s (kLoop ps k5 p48 kk)) = true := by kernel_rfl
theorem o48_1 : mkK (f8_0 1 1 6 4) (fun t s => codeK ckC 400 bodyL t s (kLoop ps k5 p48 kk)) = true := by kernel_rfl
theorem o48_2 : mkK (f8_0 2 2 6 4) (fun t s => codeK ckC 400 bodyL t s (kLoop ps k5 p48 kk)) = true := by kernel_rfl
theorem o48_3 : mkK (f8_0 3 3 6 4) (fun t s => codeK ckC 400 bodyL t s (kLoop ps k5 p48 kk)) = true := by kernel_rfl
theorem o48_4 : mkK (f8_0 4 4 6 4) (fun t s => codeK ckC 400 bodyL t s (kLoop ps k5 p48 kk)) = true := by kernel_rfl
theorem o48_5 : mkK (f8_0 5 5 6 4) (fun t s => codeK ckC 400 bodyL t s (kLoop ps k5 p48 kk)) = true := by kernel_rfl
theorem o48_6 : mkK (f8_0 6 6 6 4) (fun t s => codeK ckC 400 bodyL t s (kLoop ps k5 p48 kk)) = true := by kernel_rfl
theorem o48_7 : mkK (f8_0 7 7 6 4) (fun t s => codeK ckC 400 bodyL t s (kLoop ps k5 p48 kk)) = true := by kernel_rfl
theorem o48 : Okp p48 := ⟨⟨by kernel_rfl, by kernel_rfl⟩, o48_0, o48_1, o48_2, o48_3, o48_4, o48_5, o48_6, o48_7, trivial⟩
theorem o58_0 : mkK (f8_0 0 0 0 6) (fun t s => codeK ckC 400 bodyL t s (kLoop ps k5 p58 kk)) = true := by kernel_rfl
theorem o58_1 : mkK (f8_0 1 1 0 6) (fun t s => codeK ckC 400 bodyL t s (kLoop ps k5 p58 kk)) = true := by kernel_rfl
theorem o58_2 : mkK (f8_0 2 2 0 6) (fun t s => codeK ckC 400 bodyL t s (kLoop ps k5 p58 kk)) = true := by kernel_rfl
theorem o58_3 : mkK (f8_0 3 3 0 6) (fun t s => codeK ckC 400 bodyL t s (kLoop ps k5 p58 kk)) = true := by kernel_rfl
theorem o58_4 : mkK (f8_0 4 4 0 6) (fun t s => codeK ckC 400 bodyL t s (kLoop ps k5 p58 kk)) = true := by kernel_rfl
theorem o58_5 : mkK (f8_0 5 5 0 6) (fun t s => codeK ckC 400 bodyL t s (kLoop ps k5 p58 kk)) = true := by kernel_rfl
theorem o58_6 : mkK (f8_0 6 6 0 6) (fun t s => codeK ckC 400 bodyL t s (kLoop ps k5 p58 kk)) = true := by kernel_rfl
theorem o58_7 : mkK (f8_0 7 7 0 6) (fun t s => codeK ckC 400 bodyL t s (kLoop ps k5 p58 kk)) = true := by kernel_rfl
theorem o58 : Okp p58 := ⟨⟨by kernel_rfl, by kernel_rfl⟩, o58_0, o58_1, o58_2, o58_3, o58_4, o58_5, o58_6, o58_7, trivial⟩
theorem o68_0 : mkK (f8_0 0 0 2 7) (fun t s => codeK ckC 400 bodyL t s (kLoop ps k5 p68 kk)) = true := by kernel_rfl
theorem o68_1 : mkK (f8_0 1 1 2 7) (fun t s => codeK ckC 400 bodyL t s (kLoop ps k5 p68 kk)) = true := by kernel_rfl
theorem o68_2 : mkK (f8_0 2 2 2 7) (fun t s => codeK ckC 400 bodyL t s (kLoop ps k5 p68 kk)) = true := by kernel_rfl
theorem o68_3 : mkK (f8_0 3 3 2 7) (fun t s => codeK ckC 400 bodyL t s (kLoop ps k5 p68 kk)) = true := by kernel_rfl
theorem o68_4 : mkK (f8_0 4 4 2 7) (fun t s => codeK ckC 400 bodyL t s (kLoop ps k5 p68 kk)) = true := by kernel_rfl
theorem o68_5 : mkK (f8_0 5 5 2 7) (fun t s => codeK ckC 400 bodyL t s (kLoop ps k5 p68 kk)) = true := by kernel_rfl
theorem o68_6 : mkK (f8_0 6 6 2 7) (fun t s => codeK ckC 400 bodyL t s (kLoop ps k5 p68 kk)) = true := by kernel_rfl
theorem o68_7 : mkK (f8_0 7 7 2 7) (fun t s => codeK ckC 400 bodyL t s (kLoop ps k5 p68 kk)) = true := by kernel_rfl
theorem o68 : Okp p68 := ⟨⟨by kernel_rfl, by kernel_rfl⟩, o68_0, o68_1, o68_2, o68_3, o68_4, o68_5, o68_6, o68_7, trivial⟩
theorem o78_0 : mkK (f12_0 0 0 4 1) (fun t s => codeK ckC 400 bodyL t s (kLoop ps k5 p78 kk)) = true := by kernel_rfl
theorem o78_1 : mkK (f12_0 1 1 4 1) (fun t s => codeK ckC 400 bodyL t s (kLoop ps k5 p78 kk)) = true := by kernel_rfl
theorem o78_2 : mkK (f12_0 2 2 4 1) (fun t s => codeK ckC 400 bodyL t s (kLoop ps k5 p78 kk)) = true := by kernel_rfl
theorem o78_3 : mkK (f12_0 3 3 4 1) (fun t s => codeK ckC 400 bodyL t s (kLoop ps k5 p78 kk)) = true := by kernel_rfl
theorem o78_4 : mkK (f12_0 4 4 4 1) (fun t s => codeK ckC 400 bodyL t s (kLoop ps k5 p78 kk)) = true := by kernel_rfl
theorem o78_5 : mkK (f12_0 5 5 4 1) (fun t s => codeK ckC 400 bodyL t s (kLoop ps k5 p78 kk)) = true := by kernel_rfl
theorem o78_6 : mkK (f12_0 6 6 4 1) (fun t s => codeK ckC 400 bodyL t s (kLoop ps k5 p78 kk)) = true := by kernel_rfl
theorem o78_7 : mkK (f12_0 7 7 4 1) (fun t s => codeK ckC 400 bodyL t s (kLoop ps k5 p78 kk)) = true := by kernel_rfl
theorem o78 : Okp p78 := ⟨⟨by kernel_rfl, by kernel_rfl⟩, o78_0, o78_1, o78_2, o78_3, o78_4, o78_5, o78_6, o78_7, trivial⟩
theorem o88_0 : mkK (f12_0 0 0 6 2) (fun t s => codeK ckC 400 bodyL t s (kLoop ps k5 p88 kk)) = true := by kernel_rfl
theorem o88_1 : mkK (f12_0 1 1 6 2) (fun t s => codeK ckC 400 bodyL t s (kLoop ps k5 p88 kk)) = true := by kernel_rfl
theorem o88_2 : mkK (f12_0 2 2 6 2) (fun t s => codeK ckC 400 bodyL t s (kLoop ps k5 p88 kk)) = true := by kernel_rfl
theorem o88_3 : mkK (f12_0 3 3 6 2) (fun t s => codeK ckC 400 bodyL t s (kLoop ps k5 p88 kk)) = true := by kernel_rfl
theorem o88_4 : mkK (f12_0 4 4 6 2) (fun t s => codeK ckC 400 bodyL t s (kLoop ps k5 p88 kk)) = true := by kernel_rfl
theorem o88_5 : mkK (f12_0 5 5 6 2) (fun t s => codeK ckC 400 bodyL t s (kLoop ps k5 p88 kk)) = true := by kernel_rfl
theorem o88_6 : mkK (f12_0 6 6 6 2) (fun t s => codeK ckC 400 bodyL t s (kLoop ps k5 p88 kk)) = true := by kernel_rfl
theorem o88_7 : mkK (f12_0 7 7 6 2) (fun t s => codeK ckC 400 bodyL t s (kLoop ps k5 p88 kk)) = true := by kernel_rfl
theorem o88 : Okp p88 := ⟨⟨by kernel_rfl, by kernel_rfl⟩, o88_0, o88_1, o88_2, o88_3, o88_4, o88_5, o88_6, o88_7, trivial⟩
theorem o98_0 : mkK (f12_0 0 0 0 4) (fun t s => codeK ckC 400 bodyL t s (kLoop ps k5 p98 kk)) = true := by kernel_rfl
theorem o98_1 : mkK (f12_0 1 1 0 4) (fun t s => codeK ckC 400 bodyL t s (kLoop ps k5 p98 kk)) = true := by kernel_rfl
theorem o98_2 : mkK (f12_0 2 2 0 4) (fun t s => codeK ckC 400 bodyL t s (kLoop ps k5 p98 kk)) = true := by kernel_rfl
theorem o98_3 : mkK (f12_0 3 3 0 4) (fun t s => codeK ckC 400 bodyL t s (kLoop ps k5 p98 kk)) = true := by kernel_rfl
theorem o98_4 : mkK (f12_0 4 4 0 4) (fun t s => codeK ckC 400 bodyL t s (kLoop ps k5 p98 kk)) = true := by kernel_rfl
theorem o98_5 : mkK (f12_0 5 5 0 4) (fun t s => codeK ckC 400 bodyL t s (kLoop ps k5 p98 kk)) = true := by kernel_rfl
theorem o98_6 : mkK (f12_0 6 6 0 4) (fun t s => codeK ckC 400 bodyL t s (kLoop ps k5 p98 kk)) = true := by kernel_rfl
theorem o98_7 : mkK (f12_0 7 7 0 4) (fun t s => codeK ckC 400 bodyL t s (kLoop ps k5 p98 kk)) = true := by kernel_rfl
theorem o98 : Okp p98 := ⟨⟨by kernel_rfl, by kernel_rfl⟩, o98_0, o98_1, o98_2, o98_3, o98_4, o98_5, o98_6, o98_7, trivial⟩
theorem o108_0 : mkK (f12_0 0 0 2 5) (fun t s => codeK ckC 400 bodyL t s (kLoop ps k5 p108 kk)) = true := by kernel_rfl
theorem o108_1 : mkK (f12_0 1 1 2 5) (fun t s => codeK ckC 400 bodyL t s (kLoop ps k5 p108 kk)) = true := by kernel_rfl
theorem o108_2 : mkK (f12_0 2 2 2 5) (fun t s => codeK ckC 400 bodyL t s (kLoop ps k5 p108 kk)) = true := by kernel_rfl
theorem o108_3 : mkK (f12_0 3 3 2 5) (fun t s => codeK ckC 400 bodyL t s (kLoop ps k5 p108 kk)) = true := by kernel_rfl
theorem o108_4 : mkK (f12_0 4 4 2 5) (fun t s => codeK ckC 400 bodyL t s (kLoop ps k5 p108 kk)) = true := by kernel_rfl
theorem o108_5 : mkK (f12_0 5 5 2 5) (fun t s => codeK ckC 400 bodyL t s (kLoop ps k5 p108 kk)) = true := by kernel_rfl
theorem o108_6 : mkK (f12_0 6 6 2 5) (fun t s => codeK ckC 400 bodyL t s (kLoop ps k5 p108 kk)) = true := by kernel_rfl
theorem o108_7 : mkK (f12_0 7 7 2 5) (fun t s => codeK ckC 400 bodyL t s (kLoop ps k5 p108 kk)) = true := by kernel_rfl
theorem o108 : Okp p108 := ⟨⟨by kernel_rfl, by kernel_rfl⟩, o108_0, o108_1, o108_2, o108_3, o108_4, o108_5, o108_6, o108_7, trivial⟩
theorem o118_0 : mkK (f12_0 0 0 4 6) (fun t s => codeK ckC 400 bodyL t s (kLoop ps k5 p118 kk)) = true := by kernel_rfl
theorem o118_1 : mkK (f12_0 1 1 4 6) (fun t s => codeK ckC 400 bodyL t s (kLoop ps k5 p118 kk)) = true := by kernel_rfl
theorem o118_2 : mkK (f12_0 2 2 4 6) (fun t s => codeK ckC 400 bodyL t s (kLoop ps k5 p118 kk)) = true := by kernel_rfl
theorem o118_3 : mkK (f12_0 3 3 4 6) (fun t s => codeK ckC 400 bodyL t s (kLoop ps k5 p118 kk)) = true := by kernel_rfl
theorem o118_4 : mkK (f12_0 4 4 4 6) (fun t s => codeK ckC 400 bodyL t s (kLoop ps k5 p118 kk)) = true := by kernel_rfl
theorem o118_5 : mkK (f12_0 5 5 4 6) (fun t s => codeK ckC 400 bodyL t s (kLoop ps k5 p118 kk)) = true := by kernel_rfl
theorem o118_6 : mkK (f12_0 6 6 4 6) (fun t s => codeK ckC 400 bodyL t s (kLoop ps k5 p118 kk)) = true := by kernel_rfl
theorem o118_7 : mkK (f12_0 7 7 4 6) (fun t s => codeK ckC 400 bodyL t s (kLoop ps k5 p118 kk)) = true := by kernel_rfl
theorem o118 : Okp p118 := ⟨⟨by kernel_rfl, by kernel_rfl⟩, o118_0, o118_1, o118_2, o118_3, o118_4, o118_5, o118_6, o118_7, trivial⟩
theorem o128_0 : mkK (f12_0 0 0 6 7) (fun t s => codeK ckC 400 bodyL t s (kLoop ps k5 p128 kk)) = true := by kernel_rfl
theorem o128_1 : mkK (f12_0 1 1 6 7) (fun t s => codeK ckC 400 bodyL t s (kLoop ps k5 p128 kk)) = true := by kernel_rfl
theorem o128_2 : mkK (f12_0 2 2 6 7) (fun t s => codeK ckC 400 bodyL t s (kLoop ps k5 p128 kk)) = true := by kernel_rfl
theorem o128_3 : mkK (f12_0 3 3 6 7) (fun t s => codeK ckC 400 bodyL t s (kLoop ps k5 p128 kk)) = true := by kernel_rfl
theorem o128_4 : mkK (f12_0 4 4 6 7) (fun t s => codeK ckC 400 bodyL t s (kLoop ps k5 p128 kk)) = true := by kernel_rfl
theorem o128_5 : mkK (f12_0 5 5 6 7) (fun t s => codeK ckC 400 bodyL t s (kLoop ps k5 p128 kk)) = true := by kernel_rfl
theorem o128_6 : mkK (f12_0 6 6 6 7) (fun t s => codeK ckC 400 bodyL t s (kLoop ps k5 p128 kk)) = true := by kernel_rfl
theorem o128_7 : mkK (f12_0 7 7 6 7) (fun t s => codeK ckC 400 bodyL t s (kLoop ps k5 p128 kk)) = true := by kernel_rfl
theorem o128 : Okp p128 := ⟨⟨by kernel_rfl, by kernel_rfl⟩, o128_0, o128_1, o128_2, o128_3, o128_4, o128_5, o128_6, o128_7, trivial⟩
end
end Go.Proofs.Ytgkemmhpfekoaaa.taskPlays
