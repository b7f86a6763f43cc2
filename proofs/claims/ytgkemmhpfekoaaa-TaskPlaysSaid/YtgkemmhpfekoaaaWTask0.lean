/- 'detentlaw10.TaskPlays': runs behind patterns. Conditions: none. -/
import Derived.Test.YtgkemmhpfekoaaaWTaskA
namespace Go.Proofs.Ytgkemmhpfekoaaa.taskPlays
open Go.Rse Go.RowKit
set_option linter.unusedVariables false
set_option maxRecDepth 1000000
noncomputable section
theorem o0_0 : mkK (f16_0 0 0 0 0) (fun t s => codeK ckC 400 bodyL t s (kLoop ps k5 p0 kk)) = true := by kernel_rfl
theorem o0_1 : mkK (f16_0 1 1 0 0) (fun t s => codeK ckC 400 bodyL t s (kLoop ps k5 p0 kk)) = true := by kernel_rfl
theorem o0_2 : mkK (f16_0 2 2 0 0) (fun t s => codeK ckC 400 bodyL t s (kLoop ps k5 p0 kk)) = true := by kernel_rfl
theorem o0_3 : mkK (f16_0 3 3 0 0) (fun t s => codeK ckC 400 bodyL t s (kLoop ps k5 p0 kk)) = true := by kernel_rfl
theorem o0_4 : mkK (f16_0 4 4 0 0) (fun t s => codeK ckC 400 bodyL t s (kLoop ps k5 p0 kk)) = true := by kernel_rfl
theorem o0_5 : mkK (f16_0 5 5 0 0) (fun t s => codeK ckC 400 bodyL t s (kLoop ps k5 p0 kk)) = true := by kernel_rfl
theorem o0_6 : mkK (f16_0 6 6 0 0) (fun t s => codeK ckC 400 bodyL t s (kLoop ps k5 p0 kk)) = true := by kernel_rfl
theorem o0_7 : mkK (f16_0 7 7 0 0) (fun t s => codeK ckC 400 bodyL t s (kLoop ps k5 p0 kk)) = true := by kernel_rfl
theorem o0 : Okp p0 := ⟨⟨by kernel_rfl, by kernel_rfl⟩, o0_0, o0_1, o0_2, o0_3, o0_4, o0_5, o0_6, o0_7, trivial⟩
theorem o10_0 : mkK (f4_0 0 0 1 0) (fun t s => codeK ckC 400 bodyL t s (kLoop ps k5 p10 kk)) = true := by kernel_rfl
theorem o10_1 : mkK (f4_0 1 1 1 0) (fun t s => codeK ckC 400 bodyL t s (kLoop ps k5 p10 kk)) = true := by kernel_rfl
theorem o10_2 : mkK (f4_0 2 2 1 0) (fun t s => codeK ckC 400 bodyL t s (kLoop ps k5 p10 kk)) = true := by kernel_rfl
theorem o10_3 : mkK (f4_0 3 3 1 0) (fun t s => codeK ckC 400 bodyL t s (kLoop ps k5 p10 kk)) = true := by kernel_rfl
theorem o10_4 : mkK (f4_0 4 4 1 0) (fun t s => codeK ckC 400 bodyL t s (kLoop ps k5 p10 kk)) = true := by kernel_rfl
theorem o10_5 : mkK (f4_0 5 5 1 0) (fun t s => codeK ckC 400 bodyL t s (kLoop ps k5 p10 kk)) = true := by kernel_rfl
theorem o10_6 : mkK (f4_0 6 6 1 0) (fun t s => codeK ckC 400 bodyL t s (kLoop ps k5 p10 kk)) = true := by kernel_rfl
theorem o10_7 : mkK (f4_0 7 7 1 0) (fun t s => codeK ckC 400 bodyL t s (kLoop ps k5 p10 kk)) = true := by kernel_rfl
theorem o10 : Okp p10 := ⟨⟨by kernel_rfl, by kernel_rfl⟩, o10_0, o10_1, o10_2, o10_3, o10_4, o10_5, o10_6, o10_7, trivial⟩
theorem o20_0 : mkK (f8_0 0 0 2 1) (fun t s => codeK ckC 400 bodyL t s (kLoop ps k5 p20 kk)) = true := by kernel_rfl
theorem o20_1 : mkK (f8_0 1 1 2 1) (fun t s => codeK ckC 400 bodyL t s (kLoop ps k5 p20 kk)) = true := by kernel_rfl
theorem o20_2 : mkK (f8_0 2 2 2 1) (fun t s => codeK ckC 400 bodyL t s (kLoop ps k5 p20 kk)) = true := by kernel_rfl
theorem o20_3 : mkK (f8_0 3 3 2 1) (fun t s => codeK ckC 400 bodyL t s (kLoop ps k5 p20 kk)) = true := by kernel_rfl
theorem o20_4 : mkK (f8_0 4 4 2 1) (fun t s => codeK ckC 400 bodyL t s (kLoop ps k5 p20 kk)) = true := by kernel_rfl
theorem o20_5 : mkK (f8_0 5 5 2 1) (fun t s => codeK ckC 400 bodyL t s (kLoop ps k5 p20 kk)) = true := by kernel_rfl
theorem o20_6 : mkK (f8_0 6 6 2 1) (fun t s => codeK ckC 400 bodyL t s (kLoop ps k5 p20 kk)) = true := by kernel_rfl
theorem o20_7 : mkK (f8_0 7 7 2 1) (fun t s => codeK ckC 400 bodyL t s (kLoop ps k5 p20 kk)) = true := by kernel_rfl
theorem o20 : Okp p20 := ⟨⟨by kernel_rfl, by kernel_rfl⟩, o20_0, o20_1, o20_2, o20_3, o20_4, o20_5, o20_6, o20_7, trivial⟩
theorem o30_0 : mkK (f8_0 0 0 4 2) (fun t s => codeK ckC 400 bodyL t s (kLoop ps k5 p30 kk)) = true := by kernel_rfl
theorem o30_1 : mkK (f8_0 1 1 4 2) (fun t s => codeK ckC 400 bodyL t s (kLoop ps k5 p30 kk)) = true := by kernel_rfl
theorem o30_2 : mkK (f8_0 2 2 4 2) (fun t s => codeK ckC 400 bodyL t s (kLoop ps k5 p30 kk)) = true := by kernel_rfl
theorem o30_3 : mkK (f8_0 3 3 4 2) (fun t s => codeK ckC 400 bodyL t s (kLoop ps k5 p30 kk)) = true := by kernel_rfl
theorem o30_4 : mkK (f8_0 4 4 4 2) (fun t s => codeK ckC 400 bodyL t s (kLoop ps k5 p30 kk)) = true := by kernel_rfl
theorem o30_5 : mkK (f8_0 5 5 4 2) (fun t s => codeK ckC 400 bodyL t s (kLoop ps k5 p30 kk)) = true := by kernel_rfl
theorem o30_6 : mkK (f8_0 6 6 4 2) (fun t s => codeK ckC 400 bodyL t s (kLoop ps k5 p30 kk)) = true := by kernel_rfl
theorem o30_7 : mkK (f8_0 7 7 4 2) (fun t s => codeK ckC 400 bodyL t s (kLoop ps k5 p30 kk)) = true := by kernel_rfl
theorem o30 : Okp p30 := ⟨⟨by kernel_rfl, by kernel_rfl⟩, o30_0, o30_1, o30_2, o30_3, o30_4, o30_5, o30_6, o30_7, trivial⟩
theorem o40_0 : mkK (f8_0 0 0 6 3) (fun t s => codeK ckC 400 bodyL t s (kLoop ps k5 p40 kk)) = true := by kernel_rfl
theorem o40_1 : mkK (f8_0 1 1 6 3) (fun t s => codeK ckC 400 bodyL t s (kLoop ps k5 p40 kk)) = true := by kernel_rfl
theorem o40_2 : mkK (f8_0 2 2 6 3) (fun t s => codeK ckC 400 bodyL t s (kLoop ps k5 p40 kk)) = true := by kernel_rfl
theorem o40_3 : mkK (f8_0 3 3 6 3) (fun t s => codeK ckC 400 bodyL t s (kLoop ps k5 p40 kk)) = true := by kernel_rfl
theorem o40_4 : mkK (f8_0 4 4 6 3) (fun t s => codeK ckC 400 bodyL t s (kLoop ps k5 p40 kk)) = true := by kernel_rfl
theorem o40_5 : mkK (f8_0 5 5 6 3) (fun t s => codeK ckC 400 bodyL t s (kLoop ps k5 p40 kk)) = true := by kernel_rfl
theorem o40_6 : mkK (f8_0 6 6 6 3) (fun t s => codeK ckC 400 bodyL t s (kLoop ps k5 p40 kk)) = true := by kernel_rfl
theorem o40_7 : mkK (f8_0 7 7 6 3) (fun t s => codeK ckC 400 bodyL t s (kLoop ps k5 p40 kk)) = true := by kernel_rfl
theorem o40 : Okp p40 := ⟨⟨by kernel_rfl, by kernel_rfl⟩, o40_0, o40_1, o40_2, o40_3, o40_4, o40_5, o40_6, o40_7, trivial⟩
theorem o50_0 : mkK (f8_0 0 0 0 5) (fun t s => codeK ckC 400 bodyL t s (kLoop ps k5 p50 kk)) = true := by kernel_rfl
theorem o50_1 : mkK (f8_0 1 1 0 5) (fun t s => codeK ckC 400 bodyL t s (kLoop ps k5 p50 kk)) = true := by kernel_rfl
theorem o50_2 : mkK (f8_0 2 2 0 5) (fun t s => codeK ckC 400 bodyL t s (kLoop ps k5 p50 kk)) = true := by kernel_rfl
theorem o50_3 : mkK (f8_0 3 3 0 5) (fun t s => codeK ckC 400 bodyL t s (kLoop ps k5 p50 kk)) = true := by kernel_rfl
theorem o50_4 : mkK (f8_0 4 4 0 5) (fun t s => codeK ckC 400 bodyL t s (kLoop ps k5 p50 kk)) = true := by kernel_rfl
theorem o50_5 : mkK (f8_0 5 5 0 5) (fun t s => codeK ckC 400 bodyL t s (kLoop ps k5 p50 kk)) = true := by kernel_rfl
theorem o50_6 : mkK (f8_0 6 6 0 5) (fun t s => codeK ckC 400 bodyL t s (kLoop ps k5 p50 kk)) = true := by kernel_rfl
theorem o50_7 : mkK (f8_0 7 7 0 5) (fun t s => codeK ckC 400 bodyL t s (kLoop ps k5 p50 kk)) = true := by kernel_rfl
theorem o50 : Okp p50 := ⟨⟨by kernel_rfl, by kernel_rfl⟩, o50_0, o50_1, o50_2, o50_3, o50_4, o50_5, o50_6, o50_7, trivial⟩
theorem o60_0 : mkK (f8_0 0 0 2 6) (fun t s => codeK ckC 400 bodyL t s (kLoop ps k5 p60 kk)) = true := by kernel_rfl
theorem o60_1 : mkK (f8_0 1 1 2 6) (fun t s => codeK ckC 400 bodyL t s (kLoop ps k5 p60 kk)) = true := by kernel_rfl
theorem o60_2 : mkK (f8_0 2 2 2 6) (fun t s => codeK ckC 400 bodyL t s (kLoop ps k5 p60 kk)) = true := by kernel_rfl
theorem o60_3 : mkK (f8_0 3 3 2 6) (fun t s => codeK ckC 400 bodyL t s (kLoop ps k5 p60 kk)) = true := by kernel_rfl
theorem o60_4 : mkK (f8_0 4 4 2 6) (fun t s => codeK ckC 400 bodyL t s (kLoop ps k5 p60 kk)) = true := by kernel_rfl
theorem o60_5 : mkK (f8_0 5 5 2 6) (fun t s => codeK ckC 400 bodyL t s (kLoop ps k5 p60 kk)) = true := by kernel_rfl
theorem o60_6 : mkK (f8_0 6 6 2 6) (fun t s => codeK ckC 400 bodyL t s (kLoop ps k5 p60 kk)) = true := by kernel_rfl
theorem o60_7 : mkK (f8_0 7 7 2 6) (fun t s => codeK ckC 400 bodyL t s (kLoop ps k5 p60 kk)) = true := by kernel_rfl
theorem o60 : Okp p60 := ⟨⟨by kernel_rfl, by kernel_rfl⟩, o60_0, o60_1, o60_2, o60_3, o60_4, o60_5, o60_6, o60_7, trivial⟩
theorem o70_0 : mkK (f8_0 0 0 4 7) (fun t s => codeK ckC 400 bodyL t s (kLoop ps k5 p70 kk)) = true := by kernel_rfl
theorem o70_1 : mkK (f8_0 1 1 4 7) (fun t s => codeK ckC 400 bodyL t s (kLoop ps k5 p70 kk)) = true := by kernel_rfl
theorem o70_2 : mkK (f8_0 2 2 4 7) (fun t s => codeK ckC 400 bodyL t s (kLoop ps k5 p70 kk)) = true := by kernel_rfl
theorem o70_3 : mkK (f8_0 3 3 4 7) (fun t s => codeK ckC 400 bodyL t s (kLoop ps k5 p70 kk)) = true := by kernel_rfl
theorem o70_4 : mkK (f8_0 4 4 4 7) (fun t s => codeK ckC 400 bodyL t s (kLoop ps k5 p70 kk)) = true := by kernel_rfl
theorem o70_5 : mkK (f8_0 5 5 4 7) (fun t s => codeK ckC 400 bodyL t s (kLoop ps k5 p70 kk)) = true := by kernel_rfl
theorem o70_6 : mkK (f8_0 6 6 4 7) (fun t s => codeK ckC 400 bodyL t s (kLoop ps k5 p70 kk)) = true := by kernel_rfl
theorem o70_7 : mkK (f8_0 7 7 4 7) (fun t s => codeK ckC 400 bodyL t s (kLoop ps k5 p70 kk)) = true := by kernel_rfl
theorem o70 : Okp p70 := ⟨⟨by kernel_rfl, by kernel_rfl⟩, o70_0, o70_1, o70_2, o70_3, o70_4, o70_5, o70_6, o70_7, trivial⟩
theorem o80_0 : mkK (f12_0 0 0 6 1) (fun t s => codeK ckC 400 bodyL t s (kLoop ps k5 p80 kk)) = true := by kernel_rfl
theorem o80_1 : mkK (f12_0 1 1 6 1) (fun t s => codeK ckC 400 bodyL t s (kLoop ps k5 p80 kk)) = true := by kernel_rfl
theorem o80_2 : mkK (f12_0 2 2 6 1) (fun t s => codeK ckC 400 bodyL t s (kLoop ps k5 p80 kk)) = true := by kernel_rfl
theorem o80_3 : mkK (f12_0 3 3 6 1) (fun t s => codeK ckC 400 bodyL t s (kLoop ps k5 p80 kk)) = true := by kernel_rfl
theorem o80_4 : mkK (f12_0 4 4 6 1) (fun t s => codeK ckC 400 bodyL t s (kLoop ps k5 p80 kk)) = true := by kernel_rfl
theorem o80_5 : mkK (f12_0 5 5 6 1) (fun t s => codeK ckC 400 bodyL t s (kLoop ps k5 p80 kk)) = true := by kernel_rfl
theorem o80_6 : mkK (f12_0 6 6 6 1) (fun t s => codeK ckC 400 bodyL t s (kLoop ps k5 p80 kk)) = true := by kernel_rfl
theorem o80_7 : mkK (f12_0 7 7 6 1) (fun t s => codeK ckC 400 bodyL t s (kLoop ps k5 p80 kk)) = true := by kernel_rfl
theorem o80 : Okp p80 := ⟨⟨by kernel_rfl, by kernel_rfl⟩, o80_0, o80_1, o80_2, o80_3, o80_4, o80_5, o80_6, o80_7, trivial⟩
theorem o90_0 : mkK (f12_0 0 0 0 3) (fun t s => codeK ckC 400 bodyL t s (kLoop ps k5 p90 kk)) = true := by kernel_rfl
theorem o90_1 : mkK (f12_0 1 1 0 3) (fun t s => codeK ckC 400 bodyL t s (kLoop ps k5 p90 kk)) = true := by kernel_rfl
theorem o90_2 : mkK (f12_0 2 2 0 3) (fun t s => codeK ckC 400 bodyL t s (kLoop ps k5 p90 kk)) = true := by kernel_rfl
theorem o90_3 : mkK (f12_0 3 3 0 3) (fun t s => codeK ckC 400 bodyL t s (kLoop ps k5 p90 kk)) = true := by kernel_rfl
theorem o90_4 : mkK (f12_0 4 4 0 3) (fun t s => codeK ckC 400 bodyL t s (kLoop ps k5 p90 kk)) = true := by kernel_rfl
theorem o90_5 : mkK (f12_0 5 5 0 3) (fun t s => codeK ckC 400 bodyL t s (kLoop ps k5 p90 kk)) = true := by kernel_rfl
theorem o90_6 : mkK (f12_0 6 6 0 3) (fun t s => codeK ckC 400 bodyL t s (kLoop ps k5 p90 kk)) = true := by kernel_rfl
theorem o90_7 : mkK (f12_0 7 7 0 3) (fun t s => codeK ckC 400 bodyL t s (kLoop ps k5 p90 kk)) = true := by kernel_rfl
theorem o90 : Okp p90 := ⟨⟨by kernel_rfl, by kernel_rfl⟩, o90_0, o90_1, o90_2, o90_3, o90_4, o90_5, o90_6, o90_7, trivial⟩
theorem o100_0 : mkK (f12_0 0 0 2 4) (fun t s => codeK ckC 400 bodyL t s (kLoop ps k5 p100 kk)) = true := by kernel_rfl
theorem o100_1 : mkK (f12_0 1 1 2 4) (fun t s => codeK ckC 400 bodyL t s (kLoop ps k5 p100 kk)) = true := by kernel_rfl
theorem o100_2 : mkK (f12_0 2 2 2 4) (fun t s => codeK ckC 400 bodyL t s (kLoop ps k5 p100 kk)) = true := by kernel_rfl
theorem o100_3 : mkK (f12_0 3 3 2 4) (fun t s => codeK ckC 400 bodyL t s (kLoop ps k5 p100 kk)) = true := by kernel_rfl
theorem o100_4 : mkK (f12_0 4 4 2 4) (fun t s => codeK ckC 400 bodyL t s (kLoop ps k5 p100 kk)) = true := by kernel_rfl
theorem o100_5 : mkK (f12_0 5 5 2 4) (fun t s => codeK ckC 400 bodyL t s (kLoop ps k5 p100 kk)) = true := by kernel_rfl
theorem o100_6 : mkK (f12_0 6 6 2 4) (fun t s => codeK ckC 400 bodyL t s (kLoop ps k5 p100 kk)) = true := by kernel_rfl
theorem o100_7 : mkK (f12_0 7 7 2 4) (fun t s => codeK ckC 400 bodyL t s (kLoop ps k5 p100 kk)) = true := by kernel_rfl
theorem o100 : Okp p100 := ⟨⟨by kernel_rfl, by kernel_rfl⟩, o100_0, o100_1, o100_2, o100_3, o100_4, o100_5, o100_6, o100_7, trivial⟩
theorem o110_0 : mkK (f12_0 0 0 4 5) (fun t s => codeK ckC 400 bodyL t s (kLoop ps k5 p110 kk)) = true := by kernel_rfl
theorem o110_1 : mkK (f12_0 1 1 4 5) (fun t s => codeK ckC 400 bodyL t s (kLoop ps k5 p110 kk)) = true := by kernel_rfl
theorem o110_2 : mkK (f12_0 2 2 4 5) (fun t s => codeK ckC 400 bodyL t s (kLoop ps k5 p110 kk)) = true := by kernel_rfl
theorem o110_3 : mkK (f12_0 3 3 4 5) (fun t s => codeK ckC 400 bodyL t s (kLoop ps k5 p110 kk)) = true := by kernel_rfl
theorem o110_4 : mkK (f12_0 4 4 4 5) (fun t s => codeK ckC 400 bodyL t s (kLoop ps k5 p110 kk)) = true := by kernel_rfl
theorem o110_5 : mkK (f12_0 5 5 4 5) (fun t s => codeK ckC 400 bodyL t s (kLoop ps k5 p110 kk)) = true := by kernel_rfl
theorem o110_6 : mkK (f12_0 6 6 4 5) (fun t s => codeK ckC 400 bodyL t s (kLoop ps k5 p110 kk)) = true := by kernel_rfl
theorem o110_7 : mkK (f12_0 7 7 4 5) (fun t s => codeK ckC 400 bodyL t s (kLoop ps k5 p110 kk)) = true := by kernel_rfl
theorem o110 : Okp p110 := ⟨⟨by kernel_rfl, by kernel_rfl⟩, o110_0, o110_1, o110_2, o110_3, o110_4, o110_5, o110_6, o110_7, trivial⟩
theorem o120_0 : mkK (f12_0 0 0 6 6) (fun t s => codeK ckC 400 bodyL t s (kLoop ps k5 p120 kk)) = true := by kernel_rfl
theorem o120_1 : mkK (f12_0 1 1 6 6) (fun t s => codeK ckC 400 bodyL t s (kLoop ps k5 p120 kk)) = true := by kernel_rfl
theorem o120_2 : mkK (f12_0 2 2 6 6) (fun t s => codeK ckC 400 bodyL t s (kLoop ps k5 p120 kk)) = true := by kernel_rfl
theorem o120_3 : mkK (f12_0 3 3 6 6) (fun t s => codeK ckC 400 bodyL t s (kLoop ps k5 p120 kk)) = true := by kernel_rfl
theorem o120_4 : mkK (f12_0 4 4 6 6) (fun t s => codeK ckC 400 bodyL t s (kLoop ps k5 p120 kk)) = true := by kernel_rfl
theorem o120_5 : mkK (f12_0 5 5 6 6) (fun t s => codeK ckC 400 bodyL t s (kLoop ps k5 p120 kk)) = true := by kernel_rfl
theorem o120_6 : mkK (f12_0 6 6 6 6) (fun t s => codeK ckC 400 bodyL t s (kLoop ps k5 p120 kk)) = true := by kernel_rfl
theorem o120_7 : mkK (f12_0 7 7 6 6) (fun t s => codeK ckC 400 bodyL t s (kLoop ps k5 p120 kk)) = true := by kernel_rfl
theorem o120 : Okp p120 := ⟨⟨by kernel_rfl, by kernel_rfl⟩, o120_0, o120_1, o120_2, o120_3, o120_4, o120_5, o120_6, o120_7, trivial⟩
theorem o130_0 : mkK (f12_1 0 0 0 1) (fun t s => codeK ckC 400 bodyL t s (kLoop ps k5 p130 kk)) = true := by kernel_rfl
theorem o130_1 : mkK (f12_1 1 1 0 1) (fun t s => codeK ckC 400 bodyL t s (kLoop ps k5 p130 kk)) = true := by kernel_rfl
theorem o130_2 : mkK (f12_1 2 2 0 1) (fun t s => codeK ckC 400 bodyL t s (kLoop ps k5 p130 kk)) = true := by kernel_rfl
theorem o130_3 : mkK (f12_1 3 3 0 1) (fun t s => codeK ckC 400 bodyL t s (kLoop ps k5 p130 kk)) = true := by kernel_rfl
theorem o130_4 : mkK (f12_1 4 4 0 1) (fun t s => codeK ckC 400 bodyL t s (kLoop ps k5 p130 kk)) = true := by kernel_rfl
theorem o130_5 : mkK (f12_1 5 5 0 1) (fun t s => codeK ckC 400 bodyL t s (kLoop ps k5 p130 kk)) = true := by kernel_rfl
theorem o130_6 : mkK (f12_1 6 6 0 1) (fun t s => codeK ckC 400 bodyL t s (kLoop ps k5 p130 kk)) = true := by kernel_rfl
theorem o130_7 : mkK (f12_1 7 7 0 1) (fun t s => codeK ckC 400 bodyL t s (kLoop ps k5 p130 kk)) = true := by kernel_rfl
theorem o130 : Okp p130 := ⟨⟨by kernel_rfl, by kernel_rfl⟩, o130_0, o130_1, o130_2, o130_3, o130_4, o130_5, o130_6, o130_7, trivial⟩
end
end Go.Proofs.Ytgkemmhpfekoaaa.taskPlays
