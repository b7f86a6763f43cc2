/- 'detentlaw10.TaskPlays': runs behind patterns. Conditions: none. -/
import Derived.Test.YtgkemmhpfekoaaaWTaskA
namespace Go.Proofs.Ytgkemmhpfekoaaa.taskPlays
open Go.Rse Go.RowKit
set_option linter.unusedVariables false
set_option maxRecDepth 1000000
noncomputable section
theorem o5_0 : mkK (f2_0 0 0 4 0) (fun t s => codeK ckC 400 bodyL t s (kLoop ps k5 p5 kk)) = true := by kernel_rfl
theorem o5_1 : mkK (f2_0 1 1 4 0) (fun t s => codeK ckC 400 bodyL t s (kLoop ps k5 p5 kk)) = true := by kernel_rfl
theorem o5_2 : mkK (f2_0 2 2 4 0) (fun t s => codeK ckC 400 bodyL t s (kLoop ps k5 p5 kk)) = true := by kernel_rfl
theorem o5_3 : mkK (f2_0 3 3 4 0) (fun t s => codeK ckC 400 bodyL t s (kLoop ps k5 p5 kk)) = true := by kernel_rfl
theorem o5_4 : mkK (f2_0 4 4 4 0) (fun t s => codeK ckC 400 bodyL t s (kLoop ps k5 p5 kk)) = true := by kernel_rfl
theorem o5_5 : mkK (f2_0 5 5 4 0) (fun t s => codeK ckC 400 bodyL t s (kLoop ps k5 p5 kk)) = true := by kernel_rfl
theorem o5_6 : mkK (f2_0 6 6 4 0) (fun t s => codeK ckC 400 bodyL t s (kLoop ps k5 p5 kk)) = true := by kernel_rfl
theorem o5_7 : mkK (f2_0 7 7 4 0) (fun t s => codeK ckC 400 bodyL t s (kLoop ps k5 p5 kk)) = true := by kernel_rfl
theorem o5 : Okp p5 := ⟨⟨by kernel_rfl, by kernel_rfl⟩, o5_0, o5_1, o5_2, o5_3, o5_4, o5_5, o5_6, o5_7, trivial⟩
theorem o15_0 : mkK (f4_0 0 0 6 0) (fun t s => codeK ckC 400 bodyL t s (kLoop ps k5 p15 kk)) = true := by kernel_rfl
theorem o15_1 : mkK (f4_0 1 1 6 0) (fun t s => codeK ckC 400 bodyL t s (kLoop ps k5 p15 kk)) = true := by kernel_rfl
theorem o15_2 : mkK (f4_0 2 2 6 0) (fun t s => codeK ckC 400 bodyL t s (kLoop ps k5 p15 kk)) = true := by kernel_rfl
theorem o15_3 : mkK (f4_0 3 3 6 0) (fun t s => codeK ckC 400 bodyL t s (kLoop ps k5 p15 kk)) = true := by kernel_rfl
theorem o15_4 : mkK (f4_0 4 4 6 0) (fun t s => codeK ckC 400 bodyL t s (kLoop ps k5 p15 kk)) = true := by kernel_rfl
theorem o15_5 : mkK (f4_0 5 5 6 0) (fun t s => codeK ckC 400 bodyL t s (kLoop ps k5 p15 kk)) = true := by kernel_rfl
theorem o15_6 : mkK (f4_0 6 6 6 0) (fun t s => codeK ckC 400 bodyL t s (kLoop ps k5 p15 kk)) = true := by kernel_rfl
theorem o15_7 : mkK (f4_0 7 7 6 0) (fun t s => codeK ckC 400 bodyL t s (kLoop ps k5 p15 kk)) = true := by kernel_rfl
theorem o15 : Okp p15 := ⟨⟨by kernel_rfl, by kernel_rfl⟩, o15_0, o15_1, o15_2, o15_3, o15_4, o15_5, o15_6, o15_7, trivial⟩
theorem o25_0 : mkK (f8_0 0 0 7 1) (fun t s => codeK ckC 400 bodyL t s (kLoop ps k5 p25 kk)) = true := by kernel_rfl
theorem o25_1 : mkK (f8_0 1 1 7 1) (fun t s => codeK ckC 400 bodyL t s (kLoop ps k5 p25 kk)) = true := by kernel_rfl
theorem o25_2 : mkK (f8_0 2 2 7 1) (fun t s => codeK ckC 400 bodyL t s (kLoop ps k5 p25 kk)) = true := by kernel_rfl
theorem o25_3 : mkK (f8_0 3 3 7 1) (fun t s => codeK ckC 400 bodyL t s (kLoop ps k5 p25 kk)) = true := by kernel_rfl
theorem o25_4 : mkK (f8_0 4 4 7 1) (fun t s => codeK ckC 400 bodyL t s (kLoop ps k5 p25 kk)) = true := by kernel_rfl
theorem o25_5 : mkK (f8_0 5 5 7 1) (fun t s => codeK ckC 400 bodyL t s (kLoop ps k5 p25 kk)) = true := by kernel_rfl
theorem o25_6 : mkK (f8_0 6 6 7 1) (fun t s => codeK ckC 400 bodyL t s (kLoop ps k5 p25 kk)) = true := by kernel_rfl
theorem o25_7 : mkK (f8_0 7 7 7 1) (fun t s => codeK ckC 400 bodyL t s (kLoop ps k5 p25 kk)) = true := by kernel_rfl
theorem o25 : Okp p25 := ⟨⟨by kernel_rfl, by kernel_rfl⟩, o25_0, o25_1, o25_2, o25_3, o25_4, o25_5, o25_6, o25_7, trivial⟩
theorem o35_0 : mkK (f8_0 0 0 1 3) (fun t s => codeK ckC 400 bodyL t s (kLoop ps k5 p35 kk)) = true := by kernel_rfl
theorem o35_1 : mkK (f8_0 1 1 1 3) (fun t s => codeK ckC 400 bodyL t s (kLoop ps k5 p35 kk)) = true := by kernel_rfl
theorem o35_2 : mkK (f8_0 2 2 1 3) (fun t s => codeK ckC 400 bodyL t s (kLoop ps k5 p35 kk)) = true := by kernel_rfl
theorem o35_3 : mkK (f8_0 3 3 1 3) (fun t s => codeK ckC 400 bodyL t s (kLoop ps k5 p35 kk)) = true := by kernel_rfl
theorem o35_4 : mkK (f8_0 4 4 1 3) (fun t s => codeK ckC 400 bodyL t s (kLoop ps k5 p35 kk)) = true := by kernel_rfl
theorem o35_5 : mkK (f8_0 5 5 1 3) (fun t s => codeK ckC 400 bodyL t s (kLoop ps k5 p35 kk)) = true := by kernel_rfl
theorem o35_6 : mkK (f8_0 6 6 1 3) (fun t s => codeK ckC 400 bodyL t s (kLoop ps k5 p35 kk)) = true := by kernel_rfl
theorem o35_7 : mkK (f8_0 7 7 1 3) (fun t s => codeK ckC 400 bodyL t s (kLoop ps k5 p35 kk)) = true := by kernel_rfl
theorem o35 : Okp p35 := ⟨⟨by kernel_rfl, by kernel_rfl⟩, o35_0, o35_1, o35_2, o35_3, o35_4, o35_5, o35_6, o35_7, trivial⟩
theorem o45_0 : mkK (f8_0 0 0 3 4) (fun t s => codeK ckC 400 bodyL t s (kLoop ps k5 p45 kk)) = true := by kernel_rfl
theorem o45_1 : mkK (f8_0 1 1 3 4) (fun t s => codeK ckC 400 bodyL t s (kLoop ps k5 p45 kk)) = true := by kernel_rfl
theorem o45_2 : mkK (f8_0 2 2 3 4) (fun t s => codeK ckC 400 bodyL t s (kLoop ps k5 p45 kk)) = true := by kernel_rfl
theorem o45_3 : mkK (f8_0 3 3 3 4) (fun t s => codeK ckC 400 bodyL t s (kLoop ps k5 p45 kk)) = true := by kernel_rfl
theorem o45_4 : mkK (f8_0 4 4 3 4) (fun t s => codeK ckC 400 bodyL t s (kLoop ps k5 p45 kk)) = true := by kernel_rfl
theorem o45_5 : mkK (f8_0 5 5 3 4) (fun t s => codeK ckC 400 bodyL t s (kLoop ps k5 p45 kk)) = true := by kernel_rfl
theorem o45_6 : mkK (f8_0 6 6 3 4) (fun t s => codeK ckC 400 bodyL t s (kLoop ps k5 p45 kk)) = true := by kernel_rfl
theorem o45_7 : mkK (f8_0 7 7 3 4) (fun t s => codeK ckC 400 bodyL t s (kLoop ps k5 p45 kk)) = true := by kernel_rfl
theorem o45 : Okp p45 := ⟨⟨by kernel_rfl, by kernel_rfl⟩, o45_0, o45_1, o45_2, o45_3, o45_4, o45_5, o45_6, o45_7, trivial⟩
theorem o55_0 : mkK (f8_0 0 0 5 5) (fun t s => codeK ckC 400 bodyL t s (kLoop ps k5 p55 kk)) = true := by kernel_rfl
theorem o55_1 : mkK (f8_0 1 1 5 5) (fun t s => codeK ckC 400 bodyL t s (kLoop ps k5 p55 kk)) = true := by kernel_rfl
theorem o55_2 : mkK (f8_0 2 2 5 5) (fun t s => codeK ckC 400 bodyL t s (kLoop ps k5 p55 kk)) = true := by kernel_rfl
theorem o55_3 : mkK (f8_0 3 3 5 5) (fun t s => codeK ckC 400 bodyL t s (kLoop ps k5 p55 kk)) = true := by kernel_rfl
theorem o55_4 : mkK (f8_0 4 4 5 5) (fun t s => codeK ckC 400 bodyL t s (kLoop ps k5 p55 kk)) = true := by kernel_rfl
theorem o55_5 : mkK (f8_0 5 5 5 5) (fun t s => codeK ckC 400 bodyL t s (kLoop ps k5 p55 kk)) = true := by kernel_rfl
theorem o55_6 : mkK (f8_0 6 6 5 5) (fun t s => codeK ckC 400 bodyL t s (kLoop ps k5 p55 kk)) = true := by kernel_rfl
theorem o55_7 : mkK (f8_0 7 7 5 5) (fun t s => codeK ckC 400 bodyL t s (kLoop ps k5 p55 kk)) = true := by kernel_rfl
theorem o55 : Okp p55 := ⟨⟨by kernel_rfl, by kernel_rfl⟩, o55_0, o55_1, o55_2, o55_3, o55_4, o55_5, o55_6, o55_7, trivial⟩
theorem o65_0 : mkK (f8_0 0 0 7 6) (fun t s => codeK ckC 400 bodyL t s (kLoop ps k5 p65 kk)) = true := by kernel_rfl
theorem o65_1 : mkK (f8_0 1 1 7 6) (fun t s => codeK ckC 400 bodyL t s (kLoop ps k5 p65 kk)) = true := by kernel_rfl
theorem o65_2 : mkK (f8_0 2 2 7 6) (fun t s => codeK ckC 400 bodyL t s (kLoop ps k5 p65 kk)) = true := by kernel_rfl
theorem o65_3 : mkK (f8_0 3 3 7 6) (fun t s => codeK ckC 400 bodyL t s (kLoop ps k5 p65 kk)) = true := by kernel_rfl
theorem o65_4 : mkK (f8_0 4 4 7 6) (fun t s => codeK ckC 400 bodyL t s (kLoop ps k5 p65 kk)) = true := by kernel_rfl
theorem o65_5 : mkK (f8_0 5 5 7 6) (fun t s => codeK ckC 400 bodyL t s (kLoop ps k5 p65 kk)) = true := by kernel_rfl
theorem o65_6 : mkK (f8_0 6 6 7 6) (fun t s => codeK ckC 400 bodyL t s (kLoop ps k5 p65 kk)) = true := by kernel_rfl
theorem o65_7 : mkK (f8_0 7 7 7 6) (fun t s => codeK ckC 400 bodyL t s (kLoop ps k5 p65 kk)) = true := by kernel_rfl
theorem o65 : Okp p65 := ⟨⟨by kernel_rfl, by kernel_rfl⟩, o65_0, o65_1, o65_2, o65_3, o65_4, o65_5, o65_6, o65_7, trivial⟩
theorem o75_0 : mkK (f12_0 0 0 1 1) (fun t s => codeK ckC 400 bodyL t s (kLoop ps k5 p75 kk)) = true := by kernel_rfl
theorem o75_1 : mkK (f12_0 1 1 1 1) (fun t s => codeK ckC 400 bodyL t s (kLoop ps k5 p75 kk)) = true := by kernel_rfl
theorem o75_2 : mkK (f12_0 2 2 1 1) (fun t s => codeK ckC 400 bodyL t s (kLoop ps k5 p75 kk)) = true := by kernel_rfl
theorem o75_3 : mkK (f12_0 3 3 1 1) (fun t s => codeK ckC 400 bodyL t s (kLoop ps k5 p75 kk)) = true := by kernel_rfl
theorem o75_4 : mkK (f12_0 4 4 1 1) (fun t s => codeK ckC 400 bodyL t s (kLoop ps k5 p75 kk)) = true := by kernel_rfl
theorem o75_5 : mkK (f12_0 5 5 1 1) (fun t s => codeK ckC 400 bodyL t s (kLoop ps k5 p75 kk)) = true := by kernel_rfl
theorem o75_6 : mkK (f12_0 6 6 1 1) (fun t s => codeK ckC 400 bodyL t s (kLoop ps k5 p75 kk)) = true := by kernel_rfl
theorem o75_7 : mkK (f12_0 7 7 1 1) (fun t s => codeK ckC 400 bodyL t s (kLoop ps k5 p75 kk)) = true := by kernel_rfl
theorem o75 : Okp p75 := ⟨⟨by kernel_rfl, by kernel_rfl⟩, o75_0, o75_1, o75_2, o75_3, o75_4, o75_5, o75_6, o75_7, trivial⟩
theorem o85_0 : mkK (f12_0 0 0 3 2) (fun t s => codeK ckC 400 bodyL t s (kLoop ps k5 p85 kk)) = true := by kernel_rfl
theorem o85_1 : mkK (f12_0 1 1 3 2) (fun t s => codeK ckC 400 bodyL t s (kLoop ps k5 p85 kk)) = true := by kernel_rfl
theorem o85_2 : mkK (f12_0 2 2 3 2) (fun t s => codeK ckC 400 bodyL t s (kLoop ps k5 p85 kk)) = true := by kernel_rfl
theorem o85_3 : mkK (f12_0 3 3 3 2) (fun t s => codeK ckC 400 bodyL t s (kLoop ps k5 p85 kk)) = true := by kernel_rfl
theorem o85_4 : mkK (f12_0 4 4 3 2) (fun t s => codeK ckC 400 bodyL t s (kLoop ps k5 p85 kk)) = true := by kernel_rfl
theorem o85_5 : mkK (f12_0 5 5 3 2) (fun t s => codeK ckC 400 bodyL t s (kLoop ps k5 p85 kk)) = true := by kernel_rfl
theorem o85_6 : mkK (f12_0 6 6 3 2) (fun t s => codeK ckC 400 bodyL t s (kLoop ps k5 p85 kk)) = true := by kernel_rfl
theorem o85_7 : mkK (f12_0 7 7 3 2) (fun t s => codeK ckC 400 bodyL t s (kLoop ps k5 p85 kk)) = true := by kernel_rfl
theorem o85 : Okp p85 := ⟨⟨by kernel_rfl, by kernel_rfl⟩, o85_0, o85_1, o85_2, o85_3, o85_4, o85_5, o85_6, o85_7, trivial⟩
theorem o95_0 : mkK (f12_0 0 0 5 3) (fun t s => codeK ckC 400 bodyL t s (kLoop ps k5 p95 kk)) = true := by kernel_rfl
theorem o95_1 : mkK (f12_0 1 1 5 3) (fun t s => codeK ckC 400 bodyL t s (kLoop ps k5 p95 kk)) = true := by kernel_rfl
theorem o95_2 : mkK (f12_0 2 2 5 3) (fun t s => codeK ckC 400 bodyL t s (kLoop ps k5 p95 kk)) = true := by kernel_rfl
theorem o95_3 : mkK (f12_0 3 3 5 3) (fun t s => codeK ckC 400 bodyL t s (kLoop ps k5 p95 kk)) = true := by kernel_rfl
theorem o95_4 : mkK (f12_0 4 4 5 3) (fun t s => codeK ckC 400 bodyL t s (kLoop ps k5 p95 kk)) = true := by kernel_rfl
theorem o95_5 : mkK (f12_0 5 5 5 3) (fun t s => codeK ckC 400 bodyL t s (kLoop ps k5 p95 kk)) = true := by kernel_rfl
theorem o95_6 : mkK (f12_0 6 6 5 3) (fun t s => codeK ckC 400 bodyL t s (kLoop ps k5 p95 kk)) = true := by kernel_rfl
theorem o95_7 : mkK (f12_0 7 7 5 3) (fun t s => codeK ckC 400 bodyL t s (kLoop ps k5 p95 kk)) = true := by kernel_rfl
theorem o95 : Okp p95 := ⟨⟨by kernel_rfl, by kernel_rfl⟩, o95_0, o95_1, o95_2, o95_3, o95_4, o95_5, o95_6, o95_7, trivial⟩
theorem o105_0 : mkK (f12_0 0 0 7 4) (fun t s => codeK ckC 400 bodyL t s (kLoop ps k5 p105 kk)) = true := by kernel_rfl
theorem o105_1 : mkK (f12_0 1 1 7 4) (fun t s => codeK ckC 400 bodyL t s (kLoop ps k5 p105 kk)) = true := by kernel_rfl
theorem o105_2 : mkK (f12_0 2 2 7 4) (fun t s => codeK ckC 400 bodyL t s (kLoop ps k5 p105 kk)) = true := by kernel_rfl
theorem o105_3 : mkK (f12_0 3 3 7 4) (fun t s => codeK ckC 400 bodyL t s (kLoop ps k5 p105 kk)) = true := by kernel_rfl
theorem o105_4 : mkK (f12_0 4 4 7 4) (fun t s => codeK ckC 400 bodyL t s (kLoop ps k5 p105 kk)) = true := by kernel_rfl
theorem o105_5 : mkK (f12_0 5 5 7 4) (fun t s => codeK ckC 400 bodyL t s (kLoop ps k5 p105 kk)) = true := by kernel_rfl
theorem o105_6 : mkK (f12_0 6 6 7 4) (fun t s => codeK ckC 400 bodyL t s (kLoop ps k5 p105 kk)) = true := by kernel_rfl
theorem o105_7 : mkK (f12_0 7 7 7 4) (fun t s => codeK ckC 400 bodyL t s (kLoop ps k5 p105 kk)) = true := by kernel_rfl
theorem o105 : Okp p105 := ⟨⟨by kernel_rfl, by kernel_rfl⟩, o105_0, o105_1, o105_2, o105_3, o105_4, o105_5, o105_6, o105_7, trivial⟩
theorem o115_0 : mkK (f12_0 0 0 1 6) (fun t s => codeK ckC 400 bodyL t s (kLoop ps k5 p115 kk)) = true := by kernel_rfl
theorem o115_1 : mkK (f12_0 1 1 1 6) (fun t s => codeK ckC 400 bodyL t s (kLoop ps k5 p115 kk)) = true := by kernel_rfl
theorem o115_2 : mkK (f12_0 2 2 1 6) (fun t s => codeK ckC 400 bodyL t s (kLoop ps k5 p115 kk)) = true := by kernel_rfl
theorem o115_3 : mkK (f12_0 3 3 1 6) (fun t s => codeK ckC 400 bodyL t s (kLoop ps k5 p115 kk)) = true := by kernel_rfl
theorem o115_4 : mkK (f12_0 4 4 1 6) (fun t s => codeK ckC 400 bodyL t s (kLoop ps k5 p115 kk)) = true := by kernel_rfl
theorem o115_5 : mkK (f12_0 5 5 1 6) (fun t s => codeK ckC 400 bodyL t s (kLoop ps k5 p115 kk)) = true := by kernel_rfl
theorem o115_6 : mkK (f12_0 6 6 1 6) (fun t s => codeK ckC 400 bodyL t s (kLoop ps k5 p115 kk)) = true := by kernel_rfl
theorem o115_7 : mkK (f12_0 7 7 1 6) (fun t s => codeK ckC 400 bodyL t s (kLoop ps k5 p115 kk)) = true := by kernel_rfl
theorem o115 : Okp p115 := ⟨⟨by kernel_rfl, by kernel_rfl⟩, o115_0, o115_1, o115_2, o115_3, o115_4, o115_5, o115_6, o115_7, trivial⟩
theorem o125_0 : mkK (f12_0 0 0 3 7) (fun t s => codeK ckC 400 bodyL t s (kLoop ps k5 p125 kk)) = true := by kernel_rfl
theorem o125_1 : mkK (f12_0 1 1 3 7) (fun t s => codeK ckC 400 bodyL t s (kLoop ps k5 p125 kk)) = true := by kernel_rfl
theorem o125_2 : mkK (f12_0 2 2 3 7) (fun t s => codeK ckC 400 bodyL t s (kLoop ps k5 p125 kk)) = true := by kernel_rfl
theorem o125_3 : mkK (f12_0 3 3 3 7) (fun t s => codeK ckC 400 bodyL t s (kLoop ps k5 p125 kk)) = true := by kernel_rfl
theorem o125_4 : mkK (f12_0 4 4 3 7) (fun t s => codeK ckC 400 bodyL t s (kLoop ps k5 p125 kk)) = true := by kernel_rfl
theorem o125_5 : mkK (f12_0 5 5 3 7) (fun t s => codeK ckC 400 bodyL t s (kLoop ps k5 p125 kk)) = true := by kernel_rfl
theorem o125_6 : mkK (f12_0 6 6 3 7) (fun t s => codeK ckC 400 bodyL t s (kLoop ps k5 p125 kk)) = true := by kernel_rfl
theorem o125_7 : mkK (f12_0 7 7 3 7) (fun t s => codeK ckC 400 bodyL t s (kLoop ps k5 p125 kk)) = true := by kernel_rfl
theorem o125 : Okp p125 := ⟨⟨by kernel_rfl, by kernel_rfl⟩, o125_0, o125_1, o125_2, o125_3, o125_4, o125_5, o125_6, o125_7, trivial⟩
theorem o135_0 : mkK (f12_1 0 0 0 6) (fun t s => codeK ckC 400 bodyL t s (kLoop ps k5 p135 kk)) = true := by kernel_rfl
theorem o135_1 : mkK (f12_1 1 1 0 6) (fun t s => codeK ckC 400 bodyL t s (kLoop ps k5 p135 kk)) = true := by kernel_rfl
theorem o135_2 : mkK (f12_1 2 2 0 6) (fun t s => codeK ckC 400 bodyL t s (kLoop ps k5 p135 kk)) = true := by kernel_rfl
theorem o135_3 : mkK (f12_1 3 3 0 6) (fun t s => codeK ckC 400 bodyL t s (kLoop ps k5 p135 kk)) = true := by kernel_rfl
theorem o135_4 : mkK (f12_1 4 4 0 6) (fun t s => codeK ckC 400 bodyL t s (kLoop ps k5 p135 kk)) = true := by kernel_rfl
theorem o135_5 : mkK (f12_1 5 5 0 6) (fun t s => codeK ckC 400 bodyL t s (kLoop ps k5 p135 kk)) = true := by kernel_rfl
theorem o135_6 : mkK (f12_1 6 6 0 6) (fun t s => codeK ckC 400 bodyL t s (kLoop ps k5 p135 kk)) = true := by kernel_rfl
theorem o135_7 : mkK (f12_1 7 7 0 6) (fun t s => codeK ckC 400 bodyL t s (kLoop ps k5 p135 kk)) = true := by kernel_rfl
theorem o135 : Okp p135 := ⟨⟨by kernel_rfl, by kernel_rfl⟩, o135_0, o135_1, o135_2, o135_3, o135_4, o135_5, o135_6, o135_7, trivial⟩
end
end Go.Proofs.Ytgkemmhpfekoaaa.taskPlays
