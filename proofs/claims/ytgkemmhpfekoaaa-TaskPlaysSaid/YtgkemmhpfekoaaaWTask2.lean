/- 'detentlaw10.TaskPlays': runs behind patterns. Conditions: none. -/
import Derived.Test.YtgkemmhpfekoaaaWTaskA
namespace Go.Proofs.Ytgkemmhpfekoaaa.taskPlays
open Go.Rse Go.RowKit
set_option linter.unusedVariables false
set_option maxRecDepth 1000000
noncomputable section
theorem o2_0 : mkK (f2_0 0 0 1 0) (fun t s => codeK ckC 400 bodyL t s (kLoop ps k5 p2 kk)) = true := by kernel_rfl
theorem o2_1 : mkK (f2_0 1 1 1 0) (fun t s => codeK ckC 400 bodyL t s (kLoop ps k5 p2 kk)) = true := by kernel_rfl
theorem o2_2 : mkK (f2_0 2 2 1 0) (fun t s => codeK ckC 400 bodyL t s (kLoop ps k5 p2 kk)) = true := by kernel_rfl
theorem o2_3 : mkK (f2_0 3 3 1 0) (fun t s => codeK ckC 400 bodyL t s (kLoop ps k5 p2 kk)) = true := by kernel_rfl
theorem o2_4 : mkK (f2_0 4 4 1 0) (fun t s => codeK ckC 400 bodyL t s (kLoop ps k5 p2 kk)) = true := by kernel_rfl
theorem o2_5 : mkK (f2_0 5 5 1 0) (fun t s => codeK ckC 400 bodyL t s (kLoop ps k5 p2 kk)) = true := by kernel_rfl
theorem o2_6 : mkK (f2_0 6 6 1 0) (fun t s => codeK ckC 400 bodyL t s (kLoop ps k5 p2 kk)) = true := by kernel_rfl
theorem o2_7 : mkK (f2_0 7 7 1 0) (fun t s => codeK ckC 400 bodyL t s (kLoop ps k5 p2 kk)) = true := by kernel_rfl
theorem o2 : Okp p2 := ⟨⟨by kernel_rfl, by kernel_rfl⟩, o2_0, o2_1, o2_2, o2_3, o2_4, o2_5, o2_6, o2_7, trivial⟩
theorem o12_0 : mkK (f4_0 0 0 3 0) (fun t s => codeK ckC 400 bodyL t s (kLoop ps k5 p12 kk)) = true := by kernel_rfl
theorem o12_1 : mkK (f4_0 1 1 3 0) (fun t s => codeK ckC 400 bodyL t s (kLoop ps k5 p12 kk)) = true := by kernel_rfl
theorem o12_2 : mkK (f4_0 2 2 3 0) (fun t s => codeK ckC 400 bodyL t s (kLoop ps k5 p12 kk)) = true := by kernel_rfl
theorem o12_3 : mkK (f4_0 3 3 3 0) (fun t s => codeK ckC 400 bodyL t s (kLoop ps k5 p12 kk)) = true := by kernel_rfl
theorem o12_4 : mkK (f4_0 4 4 3 0) (fun t s => codeK ckC 400 bodyL t s (kLoop ps k5 p12 kk)) = true := by kernel_rfl
theorem o12_5 : mkK (f4_0 5 5 3 0) (fun t s => codeK ckC 400 bodyL t s (kLoop ps k5 p12 kk)) = true := by kernel_rfl
theorem o12_6 : mkK (f4_0 6 6 3 0) (fun t s => codeK ckC 400 bodyL t s (kLoop ps k5 p12 kk)) = true := by kernel_rfl
theorem o12_7 : mkK (f4_0 7 7 3 0) (fun t s => codeK ckC 400 bodyL t s (kLoop ps k5 p12 kk)) = true := by kernel_rfl
theorem o12 : Okp p12 := ⟨⟨by kernel_rfl, by kernel_rfl⟩, o12_0, o12_1, o12_2, o12_3, o12_4, o12_5, o12_6, o12_7, trivial⟩
theorem o22_0 : mkK (f8_0 0 0 4 1) (fun t s => codeK ckC 400 bodyL t s (kLoop ps k5 p22 kk)) = true := by kernel_rfl
theorem o22_1 : mkK (f8_0 1 1 4 1) (fun t s => codeK ckC 400 bodyL t s (kLoop ps k5 p22 kk)) = true := by kernel_rfl
theorem o22_2 : mkK (f8_0 2 2 4 1) (fun t s => codeK ckC 400 bodyL t s (kLoop ps k5 p22 kk)) = true := by kernel_rfl
theorem o22_3 : mkK (f8_0 3 3 4 1) (fun t s => codeK ckC 400 bodyL t s (kLoop ps k5 p22 kk)) = true := by kernel_rfl
theorem o22_4 : mkK (f8_0 4 4 4 1) (fun t s => codeK ckC 400 bodyL t s (kLoop ps k5 p22 kk)) = true := by kernel_rfl
theorem o22_5 : mkK (f8_0 5 5 4 1) (fun t s => codeK ckC 400 bodyL t s (kLoop ps k5 p22 kk)) = true := by kernel_rfl
theorem o22_6 : mkK (f8_0 6 6 4 1) (fun t s => codeK ckC 400 bodyL t s (kLoop ps k5 p22 kk)) = true := by kernel_rfl
theorem o22_7 : mkK (f8_0 7 7 4 1) (fun t s => codeK ckC 400 bodyL t s (kLoop ps k5 p22 kk)) = true := by kernel_rfl
theorem o22 : Okp p22 := ⟨⟨by kernel_rfl, by kernel_rfl⟩, o22_0, o22_1, o22_2, o22_3, o22_4, o22_5, o22_6, o22_7, trivial⟩
theorem o32_0 : mkK (f8_0 0 0 6 2) (fun t s => codeK ckC 400 bodyL t s (kLoop ps k5 p32 kk)) = true := by kernel_rfl
theorem o32_1 : mkK (f8_0 1 1 6 2) (fun t s => codeK ckC 400 bodyL t s (kLoop ps k5 p32 kk)) = true := by kernel_rfl
theorem o32_2 : mkK (f8_0 2 2 6 2) (fun t s => codeK ckC 400 bodyL t s (kLoop ps k5 p32 kk)) = true := by kernel_rfl
theorem o32_3 : mkK (f8_0 3 3 6 2) (fun t s => codeK ckC 400 bodyL t s (kLoop ps k5 p32 kk)) = true := by kernel_rfl
theorem o32_4 : mkK (f8_0 4 4 6 2) (fun t s => codeK ckC 400 bodyL t s (kLoop ps k5 p32 kk)) = true := by kernel_rfl
theorem o32_5 : mkK (f8_0 5 5 6 2) (fun t s => codeK ckC 400 bodyL t s (kLoop ps k5 p32 kk)) = true := by kernel_rfl
theorem o32_6 : mkK (f8_0 6 6 6 2) (fun t s => codeK ckC 400 bodyL t s (kLoop ps k5 p32 kk)) = true := by kernel_rfl
theorem o32_7 : mkK (f8_0 7 7 6 2) (fun t s => codeK ckC 400 bodyL t s (kLoop ps k5 p32 kk)) = true := by kernel_rfl
theorem o32 : Okp p32 := ⟨⟨by kernel_rfl, by kernel_rfl⟩, o32_0, o32_1, o32_2, o32_3, o32_4, o32_5, o32_6, o32_7, trivial⟩
theorem o42_0 : mkK (f8_0 0 0 0 4) (fun t s => codeK ckC 400 bodyL t s (kLoop ps k5 p42 kk)) = true := by kernel_rfl
theorem o42_1 : mkK (f8_0 1 1 0 4) (fun t s => codeK ckC 400 bodyL t s (kLoop ps k5 p42 kk)) = true := by kernel_rfl
theorem o42_2 : mkK (f8_0 2 2 0 4) (fun t s => codeK ckC 400 bodyL t s (kLoop ps k5 p42 kk)) = true := by kernel_rfl
theorem o42_3 : mkK (f8_0 3 3 0 4) (fun t s => codeK ckC 400 bodyL t s (kLoop ps k5 p42 kk)) = true := by kernel_rfl
theorem o42_4 : mkK (f8_0 4 4 0 4) (fun t s => codeK ckC 400 bodyL t s (kLoop ps k5 p42 kk)) = true := by kernel_rfl
theorem o42_5 : mkK (f8_0 5 5 0 4) (fun t s => codeK ckC 400 bodyL t s (kLoop ps k5 p42 kk)) = true := by kernel_rfl
theorem o42_6 : mkK (f8_0 6 6 0 4) (fun t s => codeK ckC 400 bodyL t s (kLoop ps k5 p42 kk)) = true := by kernel_rfl
theorem o42_7 : mkK (f8_0 7 7 0 4) (fun t s => codeK ckC 400 bodyL t s (kLoop ps k5 p42 kk)) = true := by kernel_rfl
theorem o42 : Okp p42 := ⟨⟨by kernel_rfl, by kernel_rfl⟩, o42_0, o42_1, o42_2, o42_3, o42_4, o42_5, o42_6, o42_7, trivial⟩
theorem o52_0 : mkK (f8_0 0 0 2 5) (fun t s => codeK ckC 400 bodyL t s (kLoop ps k5 p52 kk)) = true := by kernel_rfl
theorem o52_1 : mkK (f8_0 1 1 2 5) (fun t s => codeK ckC 400 bodyL t s (kLoop ps k5 p52 kk)) = true := by kernel_rfl
theorem o52_2 : mkK (f8_0 2 2 2 5) (fun t s => codeK ckC 400 bodyL t s (kLoop ps k5 p52 kk)) = true := by kernel_rfl
theorem o52_3 : mkK (f8_0 3 3 2 5) (fun t s => codeK ckC 400 bodyL t s (kLoop ps k5 p52 kk)) = true := by kernel_rfl
theorem o52_4 : mkK (f8_0 4 4 2 5) (fun t s => codeK ckC 400 bodyL t s (kLoop ps k5 p52 kk)) = true := by kernel_rfl
theorem o52_5 : mkK (f8_0 5 5 2 5) (fun t s => codeK ckC 400 bodyL t s (kLoop ps k5 p52 kk)) = true := by kernel_rfl
theorem o52_6 : mkK (f8_0 6 6 2 5) (fun t s => codeK ckC 400 bodyL t s (kLoop ps k5 p52 kk)) = true := by kernel_rfl
theorem o52_7 : mkK (f8_0 7 7 2 5) (fun t s => codeK ckC 400 bodyL t s (kLoop ps k5 p52 kk)) = true := by kernel_rfl
theorem o52 : Okp p52 := ⟨⟨by kernel_rfl, by kernel_rfl⟩, o52_0, o52_1, o52_2, o52_3, o52_4, o52_5, o52_6, o52_7, trivial⟩
theorem o62_0 : mkK (f8_0 0 0 4 6) (fun t s => codeK ckC 400 bodyL t s (kLoop ps k5 p62 kk)) = true := by kernel_rfl
theorem o62_1 : mkK (f8_0 1 1 4 6) (fun t s => codeK ckC 400 bodyL t s (kLoop ps k5 p62 kk)) = true := by kernel_rfl
theorem o62_2 : mkK (f8_0 2 2 4 6) (fun t s => codeK ckC 400 bodyL t s (kLoop ps k5 p62 kk)) = true := by kernel_rfl
theorem o62_3 : mkK (f8_0 3 3 4 6) (fun t s => codeK ckC 400 bodyL t s (kLoop ps k5 p62 kk)) = true := by kernel_rfl
theorem o62_4 : mkK (f8_0 4 4 4 6) (fun t s => codeK ckC 400 bodyL t s (kLoop ps k5 p62 kk)) = true := by kernel_rfl
theorem o62_5 : mkK (f8_0 5 5 4 6) (fun t s => codeK ckC 400 bodyL t s (kLoop ps k5 p62 kk)) = true := by kernel_rfl
theorem o62_6 : mkK (f8_0 6 6 4 6) (fun t s => codeK ckC 400 bodyL t s (kLoop ps k5 p62 kk)) = true := by kernel_rfl
theorem o62_7 : mkK (f8_0 7 7 4 6) (fun t s => codeK ckC 400 bodyL t s (kLoop ps k5 p62 kk)) = true := by kernel_rfl
theorem o62 : Okp p62 := ⟨⟨by kernel_rfl, by kernel_rfl⟩, o62_0, o62_1, o62_2, o62_3, o62_4, o62_5, o62_6, o62_7, trivial⟩
theorem o72_0 : mkK (f8_0 0 0 6 7) (fun t s => codeK ckC 400 bodyL t s (kLoop ps k5 p72 kk)) = true := by kernel_rfl
theorem o72_1 : mkK (f8_0 1 1 6 7) (fun t s => codeK ckC 400 bodyL t s (kLoop ps k5 p72 kk)) = true := by kernel_rfl
theorem o72_2 : mkK (f8_0 2 2 6 7) (fun t s => codeK ckC 400 bodyL t s (kLoop ps k5 p72 kk)) = true := by kernel_rfl
theorem o72_3 : mkK (f8_0 3 3 6 7) (fun t s => codeK ckC 400 bodyL t s (kLoop ps k5 p72 kk)) = true := by kernel_rfl
theorem o72_4 : mkK (f8_0 4 4 6 7) (fun t s => codeK ckC 400 bodyL t s (kLoop ps k5 p72 kk)) = true := by kernel_rfl
theorem o72_5 : mkK (f8_0 5 5 6 7) (fun t s => codeK ckC 400 bodyL t s (kLoop ps k5 p72 kk)) = true := by kernel_rfl
theorem o72_6 : mkK (f8_0 6 6 6 7) (fun t s => codeK ckC 400 bodyL t s (kLoop ps k5 p72 kk)) = true := by kernel_rfl
theorem o72_7 : mkK (f8_0 7 7 6 7) (fun t s => codeK ckC 400 bodyL t s (kLoop ps k5 p72 kk)) = true := by kernel_rfl
theorem o72 : Okp p72 := ⟨⟨by kernel_rfl, by kernel_rfl⟩, o72_0, o72_1, o72_2, o72_3, o72_4, o72_5, o72_6, o72_7, trivial⟩
theorem o82_0 : mkK (f12_0 0 0 0 2) (fun t s => codeK ckC 400 bodyL t s (kLoop ps k5 p82 kk)) = true := by kernel_rfl
theorem o82_1 : mkK (f12_0 1 1 0 2) (fun t s => codeK ckC 400 bodyL t s (kLoop ps k5 p82 kk)) = true := by kernel_rfl
theorem o82_2 : mkK (f12_0 2 2 0 2) (fun t s => codeK ckC 400 bodyL t s (kLoop ps k5 p82 kk)) = true := by kernel_rfl
theorem o82_3 : mkK (f12_0 3 3 0 2) (fun t s => codeK ckC 400 bodyL t s (kLoop ps k5 p82 kk)) = true := by kernel_rfl
theorem o82_4 : mkK (f12_0 4 4 0 2) (fun t s => codeK ckC 400 bodyL t s (kLoop ps k5 p82 kk)) = true := by kernel_rfl
theorem o82_5 : mkK (f12_0 5 5 0 2) (fun t s => codeK ckC 400 bodyL t s (kLoop ps k5 p82 kk)) = true := by kernel_rfl
theorem o82_6 : mkK (f12_0 6 6 0 2) (fun t s => codeK ckC 400 bodyL t s (kLoop ps k5 p82 kk)) = true := by kernel_rfl
theorem o82_7 : mkK (f12_0 7 7 0 2) (fun t s => codeK ckC 400 bodyL t s (kLoop ps k5 p82 kk)) = true := by kernel_rfl
theorem o82 : Okp p82 := ⟨⟨by kernel_rfl, by kernel_rfl⟩, o82_0, o82_1, o82_2, o82_3, o82_4, o82_5, o82_6, o82_7, trivial⟩
theorem o92_0 : mkK (f12_0 0 0 2 3) (fun t s => codeK ckC 400 bodyL t s (kLoop ps k5 p92 kk)) = true := by kernel_rfl
theorem o92_1 : mkK (f12_0 1 1 2 3) (fun t s => codeK ckC 400 bodyL t s (kLoop ps k5 p92 kk)) = true := by kernel_rfl
theorem o92_2 : mkK (f12_0 2 2 2 3) (fun t s => codeK ckC 400 bodyL t s (kLoop ps k5 p92 kk)) = true := by kernel_rfl
theorem o92_3 : mkK (f12_0 3 3 2 3) (fun t s => codeK ckC 400 bodyL t s (kLoop ps k5 p92 kk)) = true := by kernel_rfl
theorem o92_4 : mkK (f12_0 4 4 2 3) (fun t s => codeK ckC 400 bodyL t s (kLoop ps k5 p92 kk)) = true := by kernel_rfl
theorem o92_5 : mkK (f12_0 5 5 2 3) (fun t s => codeK ckC 400 bodyL t s (kLoop ps k5 p92 kk)) = true := by kernel_rfl
theorem o92_6 : mkK (f12_0 6 6 2 3) (fun t s => codeK ckC 400 bodyL t s (kLoop ps k5 p92 kk)) = true := by kernel_rfl
theorem o92_7 : mkK (f12_0 7 7 2 3) (fun t s => codeK ckC 400 bodyL t s (kLoop ps k5 p92 kk)) = true := by kernel_rfl
theorem o92 : Okp p92 := ⟨⟨by kernel_rfl, by kernel_rfl⟩, o92_0, o92_1, o92_2, o92_3, o92_4, o92_5, o92_6, o92_7, trivial⟩
theorem o102_0 : mkK (f12_0 0 0 4 4) (fun t s => codeK ckC 400 bodyL t s (kLoop ps k5 p102 kk)) = true := by kernel_rfl
theorem o102_1 : mkK (f12_0 1 1 4 4) (fun t s => codeK ckC 400 bodyL t s (kLoop ps k5 p102 kk)) = true := by kernel_rfl
theorem o102_2 : mkK (f12_0 2 2 4 4) (fun t s => codeK ckC 400 bodyL t s (kLoop ps k5 p102 kk)) = true := by kernel_rfl
theorem o102_3 : mkK (f12_0 3 3 4 4) (fun t s => codeK ckC 400 bodyL t s (kLoop ps k5 p102 kk)) = true := by kernel_rfl
theorem o102_4 : mkK (f12_0 4 4 4 4) (fun t s => codeK ckC 400 bodyL t s (kLoop ps k5 p102 kk)) = true := by kernel_rfl
theorem o102_5 : mkK (f12_0 5 5 4 4) (fun t s => codeK ckC 400 bodyL t s (kLoop ps k5 p102 kk)) = true := by kernel_rfl
theorem o102_6 : mkK (f12_0 6 6 4 4) (fun t s => codeK ckC 400 bodyL t s (kLoop ps k5 p102 kk)) = true := by kernel_rfl
theorem o102_7 : mkK (f12_0 7 7 4 4) (fun t s => codeK ckC 400 bodyL t s (kLoop ps k5 p102 kk)) = true := by kernel_rfl
theorem o102 : Okp p102 := ⟨⟨by kernel_rfl, by kernel_rfl⟩, o102_0, o102_1, o102_2, o102_3, o102_4, o102_5, o102_6, o102_7, trivial⟩
theorem o112_0 : mkK (f12_0 0 0 6 5) (fun t s => codeK ckC 400 bodyL t s (kLoop ps k5 p112 kk)) = true := by kernel_rfl
theorem o112_1 : mkK (f12_0 1 1 6 5) (fun t s => codeK ckC 400 bodyL t s (kLoop ps k5 p112 kk)) = true := by kernel_rfl
theorem o112_2 : mkK (f12_0 2 2 6 5) (fun t s => codeK ckC 400 bodyL t s (kLoop ps k5 p112 kk)) = true := by kernel_rfl
theorem o112_3 : mkK (f12_0 3 3 6 5) (fun t s => codeK ckC 400 bodyL t s (kLoop ps k5 p112 kk)) = true := by kernel_rfl
theorem o112_4 : mkK (f12_0 4 4 6 5) (fun t s => codeK ckC 400 bodyL t s (kLoop ps k5 p112 kk)) = true := by kernel_rfl
theorem o112_5 : mkK (f12_0 5 5 6 5) (fun t s => codeK ckC 400 bodyL t s (kLoop ps k5 p112 kk)) = true := by kernel_rfl
theorem o112_6 : mkK (f12_0 6 6 6 5) (fun t s => codeK ckC 400 bodyL t s (kLoop ps k5 p112 kk)) = true := by kernel_rfl
theorem o112_7 : mkK (f12_0 7 7 6 5) (fun t s => codeK ckC 400 bodyL t s (kLoop ps k5 p112 kk)) = true := by kernel_rfl
theorem o112 : Okp p112 := ⟨⟨by kernel_rfl, by kernel_rfl⟩, o112_0, o112_1, o112_2, o112_3, o112_4, o112_5, o112_6, o112_7, trivial⟩
theorem o122_0 : mkK (f12_0 0 0 0 7) (fun t s => codeK ckC 400 bodyL t s (kLoop ps k5 p122 kk)) = true := by kernel_rfl
theorem o122_1 : mkK (f12_0 1 1 0 7) (fun t s => codeK ckC 400 bodyL t s (kLoop ps k5 p122 kk)) = true := by kernel_rfl
theorem o122_2 : mkK (f12_0 2 2 0 7) (fun t s => codeK ckC 400 bodyL t s (kLoop ps k5 p122 kk)) = true := by kernel_rfl
theorem o122_3 : mkK (f12_0 3 3 0 7) (fun t s => codeK ckC 400 bodyL t s (kLoop ps k5 p122 kk)) = true := by kernel_rfl
theorem o122_4 : mkK (f12_0 4 4 0 7) (fun t s => codeK ckC 400 bodyL t s (kLoop ps k5 p122 kk)) = true := by kernel_rfl
theorem o122_5 : mkK (f12_0 5 5 0 7) (fun t s => codeK ckC 400 bodyL t s (kLoop ps k5 p122 kk)) = true := by kernel_rfl
theorem o122_6 : mkK (f12_0 6 6 0 7) (fun t s => codeK ckC 400 bodyL t s (kLoop ps k5 p122 kk)) = true := by kernel_rfl
theorem o122_7 : mkK (f12_0 7 7 0 7) (fun t s => codeK ckC 400 bodyL t s (kLoop ps k5 p122 kk)) = true := by kernel_rfl
theorem o122 : Okp p122 := ⟨⟨by kernel_rfl, by kernel_rfl⟩, o122_0, o122_1, o122_2, o122_3, o122_4, o122_5, o122_6, o122_7, trivial⟩
theorem o132_0 : mkK (f12_1 0 0 0 3) (fun t s => codeK ckC 400 bodyL t s (kLoop ps k5 p132 kk)) = true := by kernel_rfl
theorem o132_1 : mkK (f12_1 1 1 0 3) (fun t s => codeK ckC 400 bodyL t s (kLoop ps k5 p132 kk)) = true := by kernel_rfl
theorem o132_2 : mkK (f12_1 2 2 0 3) (fun t s => codeK ckC 400 bodyL t s (kLoop ps k5 p132 kk)) = true := by kernel_rfl
theorem o132_3 : mkK (f12_1 3 3 0 3) (fun t s => codeK ckC 400 bodyL t s (kLoop ps k5 p132 kk)) = true := by kernel_rfl
theorem o132_4 : mkK (f12_1 4 4 0 3) (fun t s => codeK ckC 400 bodyL t s (kLoop ps k5 p132 kk)) = true := by kernel_rfl
theorem o132_5 : mkK (f12_1 5 5 0 3) (fun t s => codeK ckC 400 bodyL t s (kLoop ps k5 p132 kk)) = true := by kernel_rfl
theorem o132_6 : mkK (f12_1 6 6 0 3) (fun t s => codeK ckC 400 bodyL t s (kLoop ps k5 p132 kk)) = true := by kernel_rfl
theorem o132_7 : mkK (f12_1 7 7 0 3) (fun t s => codeK ckC 400 bodyL t s (kLoop ps k5 p132 kk)) = true := by kernel_rfl
theorem o132 : Okp p132 := ⟨⟨by kernel_rfl, by kernel_rfl⟩, o132_0, o132_1, o132_2, o132_3, o132_4, o132_5, o132_6, o132_7, trivial⟩
end
end Go.Proofs.Ytgkemmhpfekoaaa.taskPlays
