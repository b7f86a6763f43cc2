/- 'detentlaw10.TaskPlays': runs behind patterns. Conditions: none. -/
import Derived.Test.YtgkemmhpfekoaaaWTaskA
namespace Go.Proofs.Ytgkemmhpfekoaaa.taskPlays
open Go.Rse Go.RowKit
set_option linter.unusedVariables false
set_option maxRecDepth 1000000
noncomputable section
theorem o1_0 : mkK (f2_0 0 0 0 0) (fun t s => codeK ckC 400 bodyL t s (kLoop ps k5 p1 kk)) = true := by kernel_rfl
theorem o1_1 : mkK (f2_0 1 1 0 0) (fun t s => codeK ckC 400 bodyL t s (kLoop ps k5 p1 kk)) = true := by kernel_rfl
theorem o1_2 : mkK (f2_0 2 2 0 0) (fun t s => codeK ckC 400 bodyL t s (kLoop ps k5 p1 kk)) = true := by kernel_rfl
theorem o1_3 : mkK (f2_0 3 3 0 0) (fun t s => codeK ckC 400 bodyL t s (kLoop ps k5 p1 kk)) = true := by kernel_rfl
theorem o1_4 : mkK (f2_0 4 4 0 0) (fun t s => codeK ckC 400 bodyL t s (kLoop ps k5 p1 kk)) = true := by kernel_rfl
theorem o1_5 : mkK (f2_0 5 5 0 0) (fun t s => codeK ckC 400 bodyL t s (kLoop ps k5 p1 kk)) = true := by kernel_rfl
theorem o1_6 : mkK (f2_0 6 6 0 0) (fun t s => codeK ckC 400 bodyL t s (kLoop ps k5 p1 kk)) = true := by kernel_rfl
theorem o1_7 : mkK (f2_0 7 7 0 0) (fun t s => codeK ckC 400 bodyL t s (kLoop ps k5 p1 kk)) = true := by kernel_rfl
theorem o1 : Okp p1 := ⟨⟨by kernel_rfl, by kernel_rfl⟩, o1_0, o1_1, o1_2, o1_3, o1_4, o1_5, o1_6, o1_7, trivial⟩
theorem o11_0 : mkK (f4_0 0 0 2 0) (fun t s => codeK ckC 400 bodyL t s (kLoop ps k5 p11 kk)) = true := by kernel_rfl
theorem o11_1 : mkK (f4_0 1 1 2 0) (fun t s => codeK ckC 400 bodyL t s (kLoop ps k5 p11 kk)) = true := by kernel_rfl
theorem o11_2 : mkK (f4_0 2 2 2 0) (fun t s => codeK ckC 400 bodyL t s (kLoop ps k5 p11 kk)) = true := by kernel_rfl
theorem o11_3 : mkK (f4_0 3 3 2 0) (fun t s => codeK ckC 400 bodyL t s (kLoop ps k5 p11 kk)) = true := by kernel_rfl
theorem o11_4 : mkK (f4_0 4 4 2 0) (fun t s => codeK ckC 400 bodyL t s (kLoop ps k5 p11 kk)) = true := by kernel_rfl
theorem o11_5 : mkK (f4_0 5 5 2 0) (fun t s => codeK ckC 400 bodyL t s (kLoop ps k5 p11 kk)) = true := by kernel_rfl
theorem o11_6 : mkK (f4_0 6 6 2 0) (fun t s => codeK ckC 400 bodyL t s (kLoop ps k5 p11 kk)) = true := by kernel_rfl
theorem o11_7 : mkK (f4_0 7 7 2 0) (fun t s => codeK ckC 400 bodyL t s (kLoop ps k5 p11 kk)) = true := by kernel_rfl
theorem o11 : Okp p11 := ⟨⟨by kernel_rfl, by kernel_rfl⟩, o11_0, o11_1, o11_2, o11_3, o11_4, o11_5, o11_6, o11_7, trivial⟩
theorem o21_0 : mkK (f8_0 0 0 3 1) (fun t s => codeK ckC 400 bodyL t s (kLoop ps k5 p21 kk)) = true := by kernel_rfl
theorem o21_1 : mkK (f8_0 1 1 3 1) (fun t s => codeK ckC 400 bodyL t s (kLoop ps k5 p21 kk)) = true := by kernel_rfl
theorem o21_2 : mkK (f8_0 2 2 3 1) (fun t s => codeK ckC 400 bodyL t s (kLoop ps k5 p21 kk)) = true := by kernel_rfl
theorem o21_3 : mkK (f8_0 3 3 3 1) (fun t s => codeK ckC 400 bodyL t s (kLoop ps k5 p21 kk)) = true := by kernel_rfl
theorem o21_4 : mkK (f8_0 4 4 3 1) (fun t s => codeK ckC 400 bodyL t s (kLoop ps k5 p21 kk)) = true := by kernel_rfl
theorem o21_5 : mkK (f8_0 5 5 3 1) (fun t s => codeK ckC 400 bodyL t s (kLoop ps k5 p21 kk)) = true := by kernel_rfl
theorem o21_6 : mkK (f8_0 6 6 3 1) (fun t s => codeK ckC 400 bodyL t s (kLoop ps k5 p21 kk)) = true := by kernel_rfl
theorem o21_7 : mkK (f8_0 7 7 3 1) (fun t s => codeK ckC 400 bodyL t s (kLoop ps k5 p21 kk)) = true := by kernel_rfl
theorem o21 : Okp p21 := ⟨⟨by kernel_rfl, by kernel_rfl⟩, o21_0, o21_1, o21_2, o21_3, o21_4, o21_5, o21_6, o21_7, trivial⟩
theorem o31_0 : mkK (f8_0 0 0 5 2) (fun t s => codeK ckC 400 bodyL t s (kLoop ps k5 p31 kk)) = true := by kernel_rfl
theorem o31_1 : mkK (f8_0 1 1 5 2) (fun t s => codeK ckC 400 bodyL t s (kLoop ps k5 p31 kk)) = true := by kernel_rfl
theorem o31_2 : mkK (f8_0 2 2 5 2) (fun t s => codeK ckC 400 bodyL t s (kLoop ps k5 p31 kk)) = true := by kernel_rfl
theorem o31_3 : mkK (f8_0 3 3 5 2) (fun t s => codeK ckC 400 bodyL t s (kLoop ps k5 p31 kk)) = true := by kernel_rfl
theorem o31_4 : mkK (f8_0 4 4 5 2) (fun t s => codeK ckC 400 bodyL t s (kLoop ps k5 p31 kk)) = true := by kernel_rfl
theorem o31_5 : mkK (f8_0 5 5 5 2) (fun t s => codeK ckC 400 bodyL t s (kLoop ps k5 p31 kk)) = true := by kernel_rfl
theorem o31_6 : mkK (f8_0 6 6 5 2) (fun t s => codeK ckC 400 bodyL t s (kLoop ps k5 p31 kk)) = true := by kernel_rfl
theorem o31_7 : mkK (f8_0 7 7 5 2) (fun t s => codeK ckC 400 bodyL t s (kLoop ps k5 p31 kk)) = true := by kernel_rfl
theorem o31 : Okp p31 := ⟨⟨by kernel_rfl, by kernel_rfl⟩, o31_0, o31_1, o31_2, o31_3, o31_4, o31_5, o31_6, o31_7, trivial⟩
theorem o41_0 : mkK (f8_0 0 0 7 3) (fun t s => codeK ckC 400 bodyL t s (kLoop ps k5 p41 kk)) = true := by kernel_rfl
theorem o41_1 : mkK (f8_0 1 1 7 3) (fun t s => codeK ckC 400 bodyL t s (kLoop ps k5 p41 kk)) = true := by kernel_rfl
theorem o41_2 : mkK (f8_0 2 2 7 3) (fun t s => codeK ckC 400 bodyL t s (kLoop ps k5 p41 kk)) = true := by kernel_rfl
theorem o41_3 : mkK (f8_0 3 3 7 3) (fun t s => codeK ckC 400 bodyL t s (kLoop ps k5 p41 kk)) = true := by kernel_rfl
theorem o41_4 : mkK (f8_0 4 4 7 3) (fun t s => codeK ckC 400 bodyL t s (kLoop ps k5 p41 kk)) = true := by kernel_rfl
theorem o41_5 : mkK (f8_0 5 5 7 3) (fun t s => codeK ckC 400 bodyL t s (kLoop ps k5 p41 kk)) = true := by kernel_rfl
theorem o41_6 : mkK (f8_0 6 6 7 3) (fun t s => codeK ckC 400 bodyL t s (kLoop ps k5 p41 kk)) = true := by kernel_rfl
theorem o41_7 : mkK (f8_0 7 7 7 3) (fun t s => codeK ckC 400 bodyL t s (kLoop ps k5 p41 kk)) = true := by kernel_rfl
theorem o41 : Okp p41 := ⟨⟨by kernel_rfl, by kernel_rfl⟩, o41_0, o41_1, o41_2, o41_3, o41_4, o41_5, o41_6, o41_7, trivial⟩
theorem o51_0 : mkK (f8_0 0 0 1 5) (fun t s => codeK ckC 400 bodyL t s (kLoop ps k5 p51 kk)) = true := by kernel_rfl
theorem o51_1 : mkK (f8_0 1 1 1 5) (fun t s => codeK ckC 400 bodyL t s (kLoop ps k5 p51 kk)) = true := by kernel_rfl
theorem o51_2 : mkK (f8_0 2 2 1 5) (fun t s => codeK ckC 400 bodyL t s (kLoop ps k5 p51 kk)) = true := by kernel_rfl
theorem o51_3 : mkK (f8_0 3 3 1 5) (fun t s => codeK ckC 400 bodyL t s (kLoop ps k5 p51 kk)) = true := by kernel_rfl
theorem o51_4 : mkK (f8_0 4 4 1 5) (fun t s => codeK ckC 400 bodyL t s (kLoop ps k5 p51 kk)) = true := by kernel_rfl
theorem o51_5 : mkK (f8_0 5 5 1 5) (fun t s => codeK ckC 400 bodyL t s (kLoop ps k5 p51 kk)) = true := by kernel_rfl
theorem o51_6 : mkK (f8_0 6 6 1 5) (fun t s => codeK ckC 400 bodyL t s (kLoop ps k5 p51 kk)) = true := by kernel_rfl
theorem o51_7 : mkK (f8_0 7 7 1 5) (fun t s => codeK ckC 400 bodyL t s (kLoop ps k5 p51 kk)) = true := by kernel_rfl
theorem o51 : Okp p51 := ⟨⟨by kernel_rfl, by kernel_rfl⟩, o51_0, o51_1, o51_2, o51_3, o51_4, o51_5, o51_6, o51_7, trivial⟩
theorem o61_0 : mkK (f8_0 0 0 3 6) (fun t s => codeK ckC 400 bodyL t s (kLoop ps k5 p61 kk)) = true := by kernel_rfl
theorem o61_1 : mkK (f8_0 1 1 3 6) (fun t s => codeK ckC 400 bodyL t s (kLoop ps k5 p61 kk)) = true := by kernel_rfl
theorem o61_2 : mkK (f8_0 2 2 3 6) (fun t s => codeK ckC 400 bodyL t s (kLoop ps k5 p61 kk)) = true := by kernel_rfl
theorem o61_3 : mkK (f8_0 3 3 3 6) (fun t s => codeK ckC 400 bodyL t s (kLoop ps k5 p61 kk)) = true := by kernel_rfl
theorem o61_4 : mkK (f8_0 4 4 3 6) (fun t s => codeK ckC 400 bodyL t s (kLoop ps k5 p61 kk)) = true := by kernel_rfl
theorem o61_5 : mkK (f8_0 5 5 3 6) (fun t s => codeK ckC 400 bodyL t s (kLoop ps k5 p61 kk)) = true := by kernel_rfl
theorem o61_6 : mkK (f8_0 6 6 3 6) (fun t s => codeK ckC 400 bodyL t s (kLoop ps k5 p61 kk)) = true := by kernel_rfl
theorem o61_7 : mkK (f8_0 7 7 3 6) (fun t s => codeK ckC 400 bodyL t s (kLoop ps k5 p61 kk)) = true := by kernel_rfl
theorem o61 : Okp p61 := ⟨⟨by kernel_rfl, by kernel_rfl⟩, o61_0, o61_1, o61_2, o61_3, o61_4, o61_5, o61_6, o61_7, trivial⟩
theorem o71_0 : mkK (f8_0 0 0 5 7) (fun t s => codeK ckC 400 bodyL t s (kLoop ps k5 p71 kk)) = true := by kernel_rfl
theorem o71_1 : mkK (f8_0 1 1 5 7) (fun t s => codeK ckC 400 bodyL t s (kLoop ps k5 p71 kk)) = true := by kernel_rfl
theorem o71_2 : mkK (f8_0 2 2 5 7) (fun t s => codeK ckC 400 bodyL t s (kLoop ps k5 p71 kk)) = true := by kernel_rfl
theorem o71_3 : mkK (f8_0 3 3 5 7) (fun t s => codeK ckC 400 bodyL t s (kLoop ps k5 p71 kk)) = true := by kernel_rfl
theorem o71_4 : mkK (f8_0 4 4 5 7) (fun t s => codeK ckC 400 bodyL t s (kLoop ps k5 p71 kk)) = true := by kernel_rfl
theorem o71_5 : mkK (f8_0 5 5 5 7) (fun t s => codeK ckC 400 bodyL t s (kLoop ps k5 p71 kk)) = true := by kernel_rfl
theorem o71_6 : mkK (f8_0 6 6 5 7) (fun t s => codeK ckC 400 bodyL t s (kLoop ps k5 p71 kk)) = true := by kernel_rfl
theorem o71_7 : mkK (f8_0 7 7 5 7) (fun t s => codeK ckC 400 bodyL t s (kLoop ps k5 p71 kk)) = true := by kernel_rfl
theorem o71 : Okp p71 := ⟨⟨by kernel_rfl, by kernel_rfl⟩, o71_0, o71_1, o71_2, o71_3, o71_4, o71_5, o71_6, o71_7, trivial⟩
theorem o81_0 : mkK (f12_0 0 0 7 1) (fun t s => codeK ckC 400 bodyL t s (kLoop ps k5 p81 kk)) = true := by kernel_rfl
theorem o81_1 : mkK (f12_0 1 1 7 1) (fun t s => codeK ckC 400 bodyL t s (kLoop ps k5 p81 kk)) = true := by kernel_rfl
theorem o81_2 : mkK (f12_0 2 2 7 1) (fun t s => codeK ckC 400 bodyL t s (kLoop ps k5 p81 kk)) = true := by kernel_rfl
theorem o81_3 : mkK (f12_0 3 3 7 1) (fun t s => codeK ckC 400 bodyL t s (kLoop ps k5 p81 kk)) = true := by kernel_rfl
theorem o81_4 : mkK (f12_0 4 4 7 1) (fun t s => codeK ckC 400 bodyL t s (kLoop ps k5 p81 kk)) = true := by kernel_rfl
theorem o81_5 : mkK (f12_0 5 5 7 1) (fun t s => codeK ckC 400 bodyL t s (kLoop ps k5 p81 kk)) = true := by kernel_rfl
theorem o81_6 : mkK (f12_0 6 6 7 1) (fun t s => codeK ckC 400 bodyL t s (kLoop ps k5 p81 kk)) = true := by kernel_rfl
theorem o81_7 : mkK (f12_0 7 7 7 1) (fun t s => codeK ckC 400 bodyL t s (kLoop ps k5 p81 kk)) = true := by kernel_rfl
theorem o81 : Okp p81 := ⟨⟨by kernel_rfl, by kernel_rfl⟩, o81_0, o81_1, o81_2, o81_3, o81_4, o81_5, o81_6, o81_7, trivial⟩
theorem o91_0 : mkK (f12_0 0 0 1 3) (fun t s => codeK ckC 400 bodyL t s (kLoop ps k5 p91 kk)) = true := by kernel_rfl
theorem o91_1 : mkK (f12_0 1 1 1 3) (fun t s => codeK ckC 400 bodyL t s (kLoop ps k5 p91 kk)) = true := by kernel_rfl
theorem o91_2 : mkK (f12_0 2 2 1 3) (fun t s => codeK ckC 400 bodyL t s (kLoop ps k5 p91 kk)) = true := by kernel_rfl
theorem o91_3 : mkK (f12_0 3 3 1 3) (fun t s => codeK ckC 400 bodyL t s (kLoop ps k5 p91 kk)) = true := by kernel_rfl
theorem o91_4 : mkK (f12_0 4 4 1 3) (fun t s => codeK ckC 400 bodyL t s (kLoop ps k5 p91 kk)) = true := by kernel_rfl
theorem o91_5 : mkK (f12_0 5 5 1 3) (fun t s => codeK ckC 400 bodyL t s (kLoop ps k5 p91 kk)) = true := by kernel_rfl
theorem o91_6 : mkK (f12_0 6 6 1 3) (fun t s => codeK ckC 400 bodyL t s (kLoop ps k5 p91 kk)) = true := by kernel_rfl
theorem o91_7 : mkK (f12_0 7 7 1 3) (fun t s => codeK ckC 400 bodyL t s (kLoop ps k5 p91 kk)) = true := by kernel_rfl
theorem o91 : Okp p91 := ⟨⟨by kernel_rfl, by kernel_rfl⟩, o91_0, o91_1, o91_2, o91_3, o91_4, o91_5, o91_6, o91_7, trivial⟩
theorem o101_0 : mkK (f12_0 0 0 3 4) (fun t s => codeK ckC 400 bodyL t s (kLoop ps k5 p101 kk)) = true := by kernel_rfl
theorem o101_1 : mkK (f12_0 1 1 3 4) (fun t s => codeK ckC 400 bodyL t s (kLoop ps k5 p101 kk)) = true := by kernel_rfl
theorem o101_2 : mkK (f12_0 2 2 3 4) (fun t s => codeK ckC 400 bodyL t s (kLoop ps k5 p101 kk)) = true := by kernel_rfl
theorem o101_3 : mkK (f12_0 3 3 3 4) (fun t s => codeK ckC 400 bodyL t s (kLoop ps k5 p101 kk)) = true := by kernel_rfl
theorem o101_4 : mkK (f12_0 4 4 3 4) (fun t s => codeK ckC 400 bodyL t s (kLoop ps k5 p101 kk)) = true := by kernel_rfl
theorem o101_5 : mkK (f12_0 5 5 3 4) (fun t s => codeK ckC 400 bodyL t s (kLoop ps k5 p101 kk)) = true := by kernel_rfl
theorem o101_6 : mkK (f12_0 6 6 3 4) (fun t s => codeK ckC 400 bodyL t s (kLoop ps k5 p101 kk)) = true := by kernel_rfl
theorem o101_7 : mkK (f12_0 7 7 3 4) (fun t s => codeK ckC 400 bodyL t s (kLoop ps k5 p101 kk)) = true := by kernel_rfl
theorem o101 : Okp p101 := ⟨⟨by kernel_rfl, by kernel_rfl⟩, o101_0, o101_1, o101_2, o101_3, o101_4, o101_5, o101_6, o101_7, trivial⟩
theorem o111_0 : mkK (f12_0 0 0 5 5) (fun t s => codeK ckC 400 bodyL t s (kLoop ps k5 p111 kk)) = true := by kernel_rfl
theorem o111_1 : mkK (f12_0 1 1 5 5) (fun t s => codeK ckC 400 bodyL t s (kLoop ps k5 p111 kk)) = true := by kernel_rfl
theorem o111_2 : mkK (f12_0 2 2 5 5) (fun t s => codeK ckC 400 bodyL t s (kLoop ps k5 p111 kk)) = true := by kernel_rfl
theorem o111_3 : mkK (f12_0 3 3 5 5) (fun t s => codeK ckC 400 bodyL t s (kLoop ps k5 p111 kk)) = true := by kernel_rfl
theorem o111_4 : mkK (f12_0 4 4 5 5) (fun t s => codeK ckC 400 bodyL t s (kLoop ps k5 p111 kk)) = true := by kernel_rfl
theorem o111_5 : mkK (f12_0 5 5 5 5) (fun t s => codeK ckC 400 bodyL t s (kLoop ps k5 p111 kk)) = true := by kernel_rfl
theorem o111_6 : mkK (f12_0 6 6 5 5) (fun t s => codeK ckC 400 bodyL t s (kLoop ps k5 p111 kk)) = true := by kernel_rfl
theorem o111_7 : mkK (f12_0 7 7 5 5) (fun t s => codeK ckC 400 bodyL t s (kLoop ps k5 p111 kk)) = true := by kernel_rfl
theorem o111 : Okp p111 := ⟨⟨by kernel_rfl, by kernel_rfl⟩, o111_0, o111_1, o111_2, o111_3, o111_4, o111_5, o111_6, o111_7, trivial⟩
theorem o121_0 : mkK (f12_0 0 0 7 6) (fun t s => codeK ckC 400 bodyL t s (kLoop ps k5 p121 kk)) = true := by kernel_rfl
theorem o121_1 : mkK (f12_0 1 1 7 6) (fun t s => codeK ckC 400 bodyL t s (kLoop ps k5 p121 kk)) = true := by kernel_rfl
theorem o121_2 : mkK (f12_0 2 2 7 6) (fun t s => codeK ckC 400 bodyL t s (kLoop ps k5 p121 kk)) = true := by kernel_rfl
theorem o121_3 : mkK (f12_0 3 3 7 6) (fun t s => codeK ckC 400 bodyL t s (kLoop ps k5 p121 kk)) = true := by kernel_rfl
theorem o121_4 : mkK (f12_0 4 4 7 6) (fun t s => codeK ckC 400 bodyL t s (kLoop ps k5 p121 kk)) = true := by kernel_rfl
theorem o121_5 : mkK (f12_0 5 5 7 6) (fun t s => codeK ckC 400 bodyL t s (kLoop ps k5 p121 kk)) = true := by kernel_rfl
theorem o121_6 : mkK (f12_0 6 6 7 6) (fun t s => codeK ckC 400 bodyL t s (kLoop ps k5 p121 kk)) = true := by kernel_rfl
theorem o121_7 : mkK (f12_0 7 7 7 6) (fun t s => codeK ckC 400 bodyL t s (kLoop ps k5 p121 kk)) = true := by kernel_rfl
theorem o121 : Okp p121 := ⟨⟨by kernel_rfl, by kernel_rfl⟩, o121_0, o121_1, o121_2, o121_3, o121_4, o121_5, o121_6, o121_7, trivial⟩
theorem o131_0 : mkK (f12_1 0 0 0 2) (fun t s => codeK ckC 400 bodyL t s (kLoop ps k5 p131 kk)) = true := by kernel_rfl
theorem o131_1 : mkK (f12_1 1 1 0 2) (fun t s => codeK ckC 400 bodyL t s (kLoop ps k5 p131 kk)) = true := by kernel_rfl
theorem o131_2 : mkK (f12_1 2 2 0 2) (fun t s => codeK ckC 400 bodyL t s (kLoop ps k5 p131 kk)) = true := by kernel_rfl
theorem o131_3 : mkK (f12_1 3 3 0 2) (fun t s => codeK ckC 400 bodyL t s (kLoop ps k5 p131 kk)) = true := by kernel_rfl
theorem o131_4 : mkK (f12_1 4 4 0 2) (fun t s => codeK ckC 400 bodyL t s (kLoop ps k5 p131 kk)) = true := by kernel_rfl
theorem o131_5 : mkK (f12_1 5 5 0 2) (fun t s => codeK ckC 400 bodyL t s (kLoop ps k5 p131 kk)) = true := by kernel_rfl
theorem o131_6 : mkK (f12_1 6 6 0 2) (fun t s => codeK ckC 400 bodyL t s (kLoop ps k5 p131 kk)) = true := by kernel_rfl
theorem o131_7 : mkK (f12_1 7 7 0 2) (fun t s => codeK ckC 400 bodyL t s (kLoop ps k5 p131 kk)) = true := by kernel_rfl
theorem o131 : Okp p131 := ⟨⟨by kernel_rfl, by kernel_rfl⟩, o131_0, o131_1, o131_2, o131_3, o131_4, o131_5, o131_6, o131_7, trivial⟩
end
end Go.Proofs.Ytgkemmhpfekoaaa.taskPlays
