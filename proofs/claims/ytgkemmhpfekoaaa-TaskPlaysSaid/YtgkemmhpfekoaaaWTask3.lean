/- 'detentlaw10.TaskPlays': runs behind patterns. Conditions: none. -/
import Derived.Test.YtgkemmhpfekoaaaWTaskA
namespace Go.Proofs.Ytgkemmhpfekoaaa.taskPlays
open Go.Rse Go.RowKit
set_option linter.unusedVariables false
set_option maxRecDepth 1000000
noncomputable section
theorem o3_0 : mkK (f2_0 0 0 2 0) (fun t s => codeK ckC 400 bodyL t s (kLoop ps k5 p3 kk)) = true := by kernel_rfl
theorem o3_1 : mkK (f2_0 1 1 2 0) (fun t s => codeK ckC 400 bodyL t s (kLoop ps k5 p3 kk)) = true := by kernel_rfl
theorem o3_2 : mkK (f2_0 2 2 2 0) (fun t s => codeK ckC 400 bodyL t s (kLoop ps k5 p3 kk)) = true := by kernel_rfl
theorem o3_3 : mkK (f2_0 3 3 2 0) (fun t s => codeK ckC 400 bodyL t s (kLoop ps k5 p3 kk)) = true := by kernel_rfl
theorem o3_4 : mkK (f2_0 4 4 2 0) (fun t s => codeK ckC 400 bodyL t s (kLoop ps k5 p3 kk)) = true := by kernel_rfl
theorem o3_5 : mkK (f2_0 5 5 2 0) (fun t s => codeK ckC 400 bodyL t s (kLoop ps k5 p3 kk)) = true := by kernel_rfl
theorem o3_6 : mkK (f2_0 6 6 2 0) (fun t s => codeK ckC 400 bodyL t s (kLoop ps k5 p3 kk)) = true := by kernel_rfl
theorem o3_7 : mkK (f2_0 7 7 2 0) (fun t s => codeK ckC 400 bodyL t s (kLoop ps k5 p3 kk)) = true := by kernel_rfl
theorem o3 : Okp p3 := ⟨⟨by kernel_rfl, by kernel_rfl⟩, o3_0, o3_1, o3_2, o3_3, o3_4, o3_5, o3_6, o3_7, trivial⟩
theorem o13_0 : mkK (f4_0 0 0 4 0) (fun t s => codeK ckC 400 bodyL t s (kLoop ps k5 p13 kk)) = true := by kernel_rfl
theorem o13_1 : mkK (f4_0 1 1 4 0) (fun t s => codeK ckC 400 bodyL t s (kLoop ps k5 p13 kk)) = true := by kernel_rfl
theorem o13_2 : mkK (f4_0 2 2 4 0) (fun t s => codeK ckC 400 bodyL t s (kLoop ps k5 p13 kk)) = true := by kernel_rfl
theorem o13_3 : mkK (f4_0 3 3 4 0) (fun t s => codeK ckC 400 bodyL t s (kLoop ps k5 p13 kk)) = true := by kernel_rfl
theorem o13_4 : mkK (f4_0 4 4 4 0) (fun t s => codeK ckC 400 bodyL t s (kLoop ps k5 p13 kk)) = true := by kernel_rfl
theorem o13_5 : mkK (f4_0 5 5 4 0) (fun t s => codeK ckC 400 bodyL t s (kLoop ps k5 p13 kk)) = true := by kernel_rfl
theorem o13_6 : mkK (f4_0 6 6 4 0) (fun t s => codeK ckC 400 bodyL t s (kLoop ps k5 p13 kk)) = true := by kernel_rfl
theorem o13_7 : mkK (f4_0 7 7 4 0) (fun t s => codeK ckC 400 bodyL t s (kLoop ps k5 p13 kk)) = true := by kernel_rfl
theorem o13 : Okp p13 := ⟨⟨by kernel_rfl, by kernel_rfl⟩, o13_0, o13_1, o13_2, o13_3, o13_4, o13_5, o13_6, o13_7, trivial⟩
theorem o23_0 : mkK (f8_0 0 0 5 1) (fun t s => codeK ckC 400 bodyL t s (kLoop ps k5 p23 kk)) = true := by kernel_rfl
theorem o23_1 : mkK (f8_0 1 1 5 1) (fun t s => codeK ckC 400 bodyL t s (kLoop ps k5 p23 kk)) = true := by kernel_rfl
theorem o23_2 : mkK (f8_0 2 2 5 1) (fun t s => codeK ckC 400 bodyL t s (kLoop ps k5 p23 kk)) = true := by kernel_rfl
theorem o23_3 : mkK (f8_0 3 3 5 1) (fun t s => codeK ckC 400 bodyL t s (kLoop ps k5 p23 kk)) = true := by kernel_rfl
theorem o23_4 : mkK (f8_0 4 4 5 1) (fun t s => codeK ckC 400 bodyL t s (kLoop ps k5 p23 kk)) = true := by kernel_rfl
theorem o23_5 : mkK (f8_0 5 5 5 1) (fun t s => codeK ckC 400 bodyL t s (kLoop ps k5 p23 kk)) = true := by kernel_rfl
theorem o23_6 : mkK (f8_0 6 6 5 1) (fun t s => codeK ckC 400 bodyL t s (kLoop ps k5 p23 kk)) = true := by kernel_rfl
theorem o23_7 : mkK (f8_0 7 7 5 1) (fun t s => codeK ckC 400 bodyL t s (kLoop ps k5 p23 kk)) = true := by kernel_rfl
theorem o23 : Okp p23 := ⟨⟨by kernel_rfl, by kernel_rfl⟩, o23_0, o23_1, o23_2, o23_3, o23_4, o23_5, o23_6, o23_7, trivial⟩
theorem o33_0 : mkK (f8_0 0 0 7 2) (fun t s => codeK ckC 400 bodyL t s (kLoop ps k5 p33 kk)) = true := by kernel_rfl
theorem o33_1 : mkK (f8_0 1 1 7 2) (fun t s => codeK ckC 400 bodyL t s (kLoop ps k5 p33 kk)) = true := by kernel_rfl
theorem o33_2 : mkK (f8_0 2 2 7 2) (fun t s => codeK ckC 400 bodyL t s (kLoop ps k5 p33 kk)) = true := by kernel_rfl
theorem o33_3 : mkK (f8_0 3 3 7 2) (fun t s => codeK ckC 400 bodyL t s (kLoop ps k5 p33 kk)) = true := by kernel_rfl
theorem o33_4 : mkK (f8_0 4 4 7 2) (fun t s => codeK ckC 400 bodyL t s (kLoop ps k5 p33 kk)) = true := by kernel_rfl
theorem o33_5 : mkK (f8_0 5 5 7 2) (fun t s => codeK ckC 400 bodyL t s (kLoop ps k5 p33 kk)) = true := by kernel_rfl
theorem o33_6 : mkK (f8_0 6 6 7 2) (fun t s => codeK ckC 400 bodyL t s (kLoop ps k5 p33 kk)) = true := by kernel_rfl
theorem o33_7 : mkK (f8_0 7 7 7 2) (fun t s => codeK ckC 400 bodyL t s (kLoop ps k5 p33 kk)) = true := by kernel_rfl
theorem o33 : Okp p33 := ⟨⟨by kernel_rfl, by kernel_rfl⟩, o33_0, o33_1, o33_2, o33_3, o33_4, o33_5, o33_6, o33_7, trivial⟩
theorem o43_0 : mkK (f8_0 0 0 1 4) (fun t s => codeK ckC 400 bodyL t s (kLoop ps k5 p43 kk)) = true := by kernel_rfl
theorem o43_1 : mkK (f8_0 1 1 1 4) (fun t s => codeK ckC 400 bodyL t s (kLoop ps k5 p43 kk)) = true := by kernel_rfl
theorem o43_2 : mkK (f8_0 2 2 1 4) (fun t s => codeK ckC 400 bodyL t s (kLoop ps k5 p43 kk)) = true := by kernel_rfl
theorem o43_3 : mkK (f8_0 3 3 1 4) (fun t s => codeK ckC 400 bodyL t s (kLoop ps k5 p43 kk)) = true := by kernel_rfl
theorem o43_4 : mkK (f8_0 4 4 1 4) (fun t s => codeK ckC 400 bodyL t s (kLoop ps k5 p43 kk)) = true := by kernel_rfl
theorem o43_5 : mkK (f8_0 5 5 1 4) (fun t s => codeK ckC 400 bodyL t s (kLoop ps k5 p43 kk)) = true := by kernel_rfl
theorem o43_6 : mkK (f8_0 6 6 1 4) (fun t s => codeK ckC 400 bodyL t s (kLoop ps k5 p43 kk)) = true := by kernel_rfl
theorem o43_7 : mkK (f8_0 7 7 1 4) (fun t s => codeK ckC 400 bodyL t s (kLoop ps k5 p43 kk)) = true := by kernel_rfl
theorem o43 : Okp p43 := ⟨⟨by kernel_rfl, by kernel_rfl⟩, o43_0, o43_1, o43_2, o43_3, o43_4, o43_5, o43_6, o43_7, trivial⟩
theorem o53_0 : mkK (f8_0 0 0 3 5) (fun t s => codeK ckC 400 bodyL t s (kLoop ps k5 p53 kk)) = true := by kernel_rfl
theorem o53_1 : mkK (f8_0 1 1 3 5) (fun t s => codeK ckC 400 bodyL t s (kLoop ps k5 p53 kk)) = true := by kernel_rfl
theorem o53_2 : mkK (f8_0 2 2 3 5) (fun t s => codeK ckC 400 bodyL t s (kLoop ps k5 p53 kk)) = true := by kernel_rfl
theorem o53_3 : mkK (f8_0 3 3 3 5) (fun t s => codeK ckC 400 bodyL t s (kLoop ps k5 p53 kk)) = true := by kernel_rfl
theorem o53_4 : mkK (f8_0 4 4 3 5) (fun t s => codeK ckC 400 bodyL t s (kLoop ps k5 p53 kk)) = true := by kernel_rfl
theorem o53_5 : mkK (f8_0 5 5 3 5) (fun t s => codeK ckC 400 bodyL t s (kLoop ps k5 p53 kk)) = true := by kernel_rfl
theorem o53_6 : mkK (f8_0 6 6 3 5) (fun t s => codeK ckC 400 bodyL t s (kLoop ps k5 p53 kk)) = true := by kernel_rfl
theorem o53_7 : mkK (f8_0 7 7 3 5) (fun t s => codeK ckC 400 bodyL t s (kLoop ps k5 p53 kk)) = true := by kernel_rfl
theorem o53 : Okp p53 := ⟨⟨by kernel_rfl, by kernel_rfl⟩, o53_0, o53_1, o53_2, o53_3, o53_4, o53_5, o53_6, o53_7, trivial⟩
theorem o63_0 : mkK (f8_0 0 0 5 6) (fun t s => codeK ckC 400 bodyL t s (kLoop ps k5 p63 kk)) = true := by kernel_rfl
theorem o63_1 : mkK (f8_0 1 1 5 6) (fun t s => codeK ckC 400 bodyL t s (kLoop ps k5 p63 kk)) = true := by kernel_rfl
theorem o63_2 : mkK (f8_0 2 2 5 6) (fun t s => codeK ckC 400 bodyL t s (kLoop ps k5 p63 kk)) = true := by kernel_rfl
theorem o63_3 : mkK (f8_0 3 3 5 6) (fun t s => codeK ckC 400 bodyL t s (kLoop ps k5 p63 kk)) = true := by kernel_rfl
theorem o63_4 : mkK (f8_0 4 4 5 6) (fun t s => codeK ckC 400 bodyL t s (kLoop ps k5 p63 kk)) = true := by kernel_rfl
theorem o63_5 : mkK (f8_0 5 5 5 6) (fun t s => codeK ckC 400 bodyL t s (kLoop ps k5 p63 kk)) = true := by kernel_rfl
theorem o63_6 : mkK (f8_0 6 6 5 6) (fun t s => codeK ckC 400 bodyL t s (kLoop ps k5 p63 kk)) = true := by kernel_rfl
theorem o63_7 : mkK (f8_0 7 7 5 6) (fun t s => codeK ckC 400 bodyL t s (kLoop ps k5 p63 kk)) = true := by kernel_rfl
theorem o63 : Okp p63 := ⟨⟨by kernel_rfl, by kernel_rfl⟩, o63_0, o63_1, o63_2, o63_3, o63_4, o63_5, o63_6, o63_7, trivial⟩
theorem o73_0 : mkK (f8_0 0 0 7 7) (fun t s => codeK ckC 400 bodyL t s (kLoop ps k5 p73 kk)) = true := by kernel_rfl
theorem o73_1 : mkK (f8_0 1 1 7 7) (fun t s => codeK ckC 400 bodyL t s (kLoop ps k5 p73 kk)) = true := by kernel_rfl
theorem o73_2 : mkK (f8_0 2 2 7 7) (fun t s => codeK ckC 400 bodyL t s (kLoop ps k5 p73 kk)) = true := by kernel_rfl
theorem o73_3 : mkK (f8_0 3 3 7 7) (fun t s => codeK ckC 400 bodyL t s (kLoop ps k5 p73 kk)) = true := by kernel_rfl
theorem o73_4 : mkK (f8_0 4 4 7 7) (fun t s => codeK ckC 400 bodyL t s (kLoop ps k5 p73 kk)) = true := by kernel_rfl
theorem o73_5 : mkK (f8_0 5 5 7 7) (fun t s => codeK ckC 400 bodyL t s (kLoop ps k5 p73 kk)) = true := by kernel_rfl
theorem o73_6 : mkK (f8_0 6 6 7 7) (fun t s => codeK ckC 400 bodyL t s (kLoop ps k5 p73 kk)) = true := by kernel_rfl
theorem o73_7 : mkK (f8_0 7 7 7 7) (fun t s => codeK ckC 400 bodyL t s (kLoop ps k5 p73 kk)) = true := by kernel_rfl
theorem o73 : Okp p73 := ⟨⟨by kernel_rfl, by kernel_rfl⟩, o73_0, o73_1, o73_2, o73_3, o73_4, o73_5, o73_6, o73_7, trivial⟩
theorem o83_0 : mkK (f12_0 0 0 1 2) (fun t s => codeK ckC 400 bodyL t s (kLoop ps k5 p83 kk)) = true := by kernel_rfl
theorem o83_1 : mkK (f12_0 1 1 1 2) (fun t s => codeK ckC 400 bodyL t s (kLoop ps k5 p83 kk)) = true := by kernel_rfl
theorem o83_2 : mkK (f12_0 2 2 1 2) (fun t s => codeK ckC 400 bodyL t s (kLoop ps k5 p83 kk)) = true := by kernel_rfl
theorem o83_3 : mkK (f12_0 3 3 1 2) (fun t s => codeK ckC 400 bodyL t s (kLoop ps k5 p83 kk)) = true := by kernel_rfl
theorem o83_4 : mkK (f12_0 4 4 1 2) (fun t s => codeK ckC 400 bodyL t s (kLoop ps k5 p83 kk)) = true := by kernel_rfl
theorem o83_5 : mkK (f12_0 5 5 1 2) (fun t s => codeK ckC 400 bodyL t s (kLoop ps k5 p83 kk)) = true := by kernel_rfl
theorem o83_6 : mkK (f12_0 6 6 1 2) (fun t s => codeK ckC 400 bodyL t s (kLoop ps k5 p83 kk)) = true := by kernel_rfl
theorem o83_7 : mkK (f12_0 7 7 1 2) (fun t s => codeK ckC 400 bodyL t s (kLoop ps k5 p83 kk)) = true := by kernel_rfl
theorem o83 : Okp p83 := ⟨⟨by kernel_rfl, by kernel_rfl⟩, o83_0, o83_1, o83_2, o83_3, o83_4, o83_5, o83_6, o83_7, trivial⟩
theorem o93_0 : mkK (f12_0 0 0 3 3) (fun t s => codeK ckC 400 bodyL t s (kLoop ps k5 p93 kk)) = true := by kernel_rfl
theorem o93_1 : mkK (f12_0 1 1 3 3) (fun t s => codeK ckC 400 bodyL t s (kLoop ps k5 p93 kk)) = true := by kernel_rfl
theorem o93_2 : mkK (f12_0 2 2 3 3) (fun t s => codeK ckC 400 bodyL t s (kLoop ps k5 p93 kk)) = true := by kernel_rfl
theorem o93_3 : mkK (f12_0 3 3 3 3) (fun t s => codeK ckC 400 bodyL t s (kLoop ps k5 p93 kk)) = true := by kernel_rfl
theorem o93_4 : mkK (f12_0 4 4 3 3) (fun t s => codeK ckC 400 bodyL t s (kLoop ps k5 p93 kk)) = true := by kernel_rfl
theorem o93_5 : mkK (f12_0 5 5 3 3) (fun t s => codeK ckC 400 bodyL t s (kLoop ps k5 p93 kk)) = true := by kernel_rfl
theorem o93_6 : mkK (f12_0 6 6 3 3) (fun t s => codeK ckC 400 bodyL t s (kLoop ps k5 p93 kk)) = true := by kernel_rfl
theorem o93_7 : mkK (f12_0 7 7 3 3) (fun t s => codeK ckC 400 bodyL t s (kLoop ps k5 p93 kk)) = true := by kernel_rfl
theorem o93 : Okp p93 := ⟨⟨by kernel_rfl, by kernel_rfl⟩, o93_0, o93_1, o93_2, o93_3, o93_4, o93_5, o93_6, o93_7, trivial⟩
theorem o103_0 : mkK (f12_0 0 0 5 4) (fun t s => codeK ckC 400 bodyL t s (kLoop ps k5 p103 kk)) = true := by kernel_rfl
theorem o103_1 : mkK (f12_0 1 1 5 4) (fun t s => codeK ckC 400 bodyL t s (kLoop ps k5 p103 kk)) = true := by kernel_rfl
theorem o103_2 : mkK (f12_0 2 2 5 4) (fun t s => codeK ckC 400 bodyL t s (kLoop ps k5 p103 kk)) = true := by kernel_rfl
theorem o103_3 : mkK (f12_0 3 3 5 4) (fun t s => codeK ckC 400 bodyL t s (kLoop ps k5 p103 kk)) = true := by kernel_rfl
theorem o103_4 : mkK (f12_0 4 4 5 4) (fun t s => codeK ckC 400 bodyL t s (kLoop ps k5 p103 kk)) = true := by kernel_rfl
theorem o103_5 : mkK (f12_0 5 5 5 4) (fun t s => codeK ckC 400 bodyL t s (kLoop ps k5 p103 kk)) = true := by kernel_rfl
theorem o103_6 : mkK (f12_0 6 6 5 4) (fun t s => codeK ckC 400 bodyL t s (kLoop ps k5 p103 kk)) = true := by kernel_rfl
theorem o103_7 : mkK (f12_0 7 7 5 4) (fun t s => codeK ckC 400 bodyL t s (kLoop ps k5 p103 kk)) = true := by kernel_rfl
theorem o103 : Okp p103 := ⟨⟨by kernel_rfl, by kernel_rfl⟩, o103_0, o103_1, o103_2, o103_3, o103_4, o103_5, o103_6, o103_7, trivial⟩
theorem o113_0 : mkK (f12_0 0 0 7 5) (fun t s => codeK ckC 400 bodyL t s (kLoop ps k5 p113 kk)) = true := by kernel_rfl
theorem o113_1 : mkK (f12_0 1 1 7 5) (fun t s => codeK ckC 400 bodyL t s (kLoop ps k5 p113 kk)) = true := by kernel_rfl
theorem o113_2 : mkK (f12_0 2 2 7 5) (fun t s => codeK ckC 400 bodyL t s (kLoop ps k5 p113 kk)) = true := by kernel_rfl
theorem o113_3 : mkK (f12_0 3 3 7 5) (fun t s => codeK ckC 400 bodyL t s (kLoop ps k5 p113 kk)) = true := by kernel_rfl
theorem o113_4 : mkK (f12_0 4 4 7 5) (fun t s => codeK ckC 400 bodyL t s (kLoop ps k5 p113 kk)) = true := by kernel_rfl
theorem o113_5 : mkK (f12_0 5 5 7 5) (fun t s => codeK ckC 400 bodyL t s (kLoop ps k5 p113 kk)) = true := by kernel_rfl
theorem o113_6 : mkK (f12_0 6 6 7 5) (fun t s => codeK ckC 400 bodyL t s (kLoop ps k5 p113 kk)) = true := by kernel_rfl
theorem o113_7 : mkK (f12_0 7 7 7 5) (fun t s => codeK ckC 400 bodyL t s (kLoop ps k5 p113 kk)) = true := by kernel_rfl
theorem o113 : Okp p113 := ⟨⟨by kernel_rfl, by kernel_rfl⟩, o113_0, o113_1, o113_2, o113_3, o113_4, o113_5, o113_6, o113_7, trivial⟩
theorem o123_0 : mkK (f12_0 0 0 1 7) (fun t s => codeK ckC 400 bodyL t s (kLoop ps k5 p123 kk)) = true := by kernel_rfl
theorem o123_1 : mkK (f12_0 1 1 1 7) (fun t s => codeK ckC 400 bodyL t s (kLoop ps k5 p123 kk)) = true := by kernel_rfl
theorem o123_2 : mkK (f12_0 2 2 1 7) (fun t s => codeK ckC 400 bodyL t s (kLoop ps k5 p123 kk)) = true := by kernel_rfl
theorem o123_3 : mkK (f12_0 3 3 1 7) (fun t s => codeK ckC 400 bodyL t s (kLoop ps k5 p123 kk)) = true := by kernel_rfl
theorem o123_4 : mkK (f12_0 4 4 1 7) (fun t s => codeK ckC 400 bodyL t s (kLoop ps k5 p123 kk)) = true := by kernel_rfl
theorem o123_5 : mkK (f12_0 5 5 1 7) (fun t s => codeK ckC 400 bodyL t s (kLoop ps k5 p123 kk)) = true := by kernel_rfl
theorem o123_6 : mkK (f12_0 6 6 1 7) (fun t s => codeK ckC 400 bodyL t s (kLoop ps k5 p123 kk)) = true := by kernel_rfl
theorem o123_7 : mkK (f12_0 7 7 1 7) (fun t s => codeK ckC 400 bodyL t s (kLoop ps k5 p123 kk)) = true := by kernel_rfl
theorem o123 : Okp p123 := ⟨⟨by kernel_rfl, by kernel_rfl⟩, o123_0, o123_1, o123_2, o123_3, o123_4, o123_5, o123_6, o123_7, trivial⟩
theorem o133_0 : mkK (f12_1 0 0 0 4) (fun t s => codeK ckC 400 bodyL t s (kLoop ps k5 p133 kk)) = true := by kernel_rfl
theorem o133_1 : mkK (f12_1 1 1 0 4) (fun t s => codeK ckC 400 bodyL t s (kLoop ps k5 p133 kk)) = true := by kernel_rfl
theorem o133_2 : mkK (f12_1 2 2 0 4) (fun t s => codeK ckC 400 bodyL t s (kLoop ps k5 p133 kk)) = true := by kernel_rfl
theorem o133_3 : mkK (f12_1 3 3 0 4) (fun t s => codeK ckC 400 bodyL t s (kLoop ps k5 p133 kk)) = true := by kernel_rfl
theorem o133_4 : mkK (f12_1 4 4 0 4) (fun t s => codeK ckC 400 bodyL t s (kLoop ps k5 p133 kk)) = true := by kernel_rfl
theorem o133_5 : mkK (f12_1 5 5 0 4) (fun t s => codeK ckC 400 bodyL t s (kLoop ps k5 p133 kk)) = true := by kernel_rfl
theorem o133_6 : mkK (f12_1 6 6 0 4) (fun t s => codeK ckC 400 bodyL t s (kLoop ps k5 p133 kk)) = true := by kernel_rfl
theorem o133_7 : mkK (f12_1 7 7 0 4) (fun t s => codeK ckC 400 bodyL t s (kLoop ps k5 p133 kk)) = true := by kernel_rfl
theorem o133 : Okp p133 := ⟨⟨by kernel_rfl, by kernel_rfl⟩, o133_0, o133_1, o133_2, o133_3, o133_4, o133_5, o133_6, o133_7, trivial⟩
end
end Go.Proofs.Ytgkemmhpfekoaaa.taskPlays
