/- 'detentlaw10.TaskPlays': runs behind patterns. Conditions: none. -/
import Derived.Test.YtgkemmhpfekoaaaWTaskA
namespace Go.Proofs.Ytgkemmhpfekoaaa.taskPlays
open Go.Rse Go.RowKit
set_option linter.unusedVariables false
set_option maxRecDepth 1000000
noncomputable section
theorem o9_0 : mkK (f4_0 0 0 0 0) (fun t s => codeK ckC 400 bodyL t s (kLoop ps k5 p9 kk)) = true := by kernel_rfl
theorem o9_1 : mkK (f4_0 1 1 0 0) (fun t s => codeK ckC 400 bodyL t s (kLoop ps k5 p9 kk)) = true := by kernel_rfl
theorem o9_2 : mkK (f4_0 2 2 0 0) (fun t s => codeK ckC 400 bodyL t s (kLoop ps k5 p9 kk)) = true := by kernel_rfl
theorem o9_3 : mkK (f4_0 3 3 0 0) (fun t s => codeK ckC 400 bodyL t s (kLoop ps k5 p9 kk)) = true := by kernel_rfl
theorem o9_4 : mkK (f4_0 4 4 0 0) (fun t s => codeK ckC 400 bodyL t s (kLoop ps k5 p9 kk)) = true := by kernel_rfl
theorem o9_5 : mkK (f4_0 5 5 0 0) (fun t s => codeK ckC 400 bodyL t s (kLoop ps k5 p9 kk)) = true := by kernel_rfl
theorem o9_6 : mkK (f4_0 6 6 0 0) (fun t s => codeK ckC 400 bodyL t s (kLoop ps k5 p9 kk)) = true := by kernel_rfl
theorem o9_7 : mkK (f4_0 7 7 0 0) (fun t s => codeK ckC 400 bodyL t s (kLoop ps k5 p9 kk)) = true := by kernel_rfl
theorem o9 : Okp p9 := ⟨⟨by kernel_rfl, by kernel_rfl⟩, o9_0, o9_1, o9_2, o9_3, o9_4, o9_5, o9_6, o9_7, trivial⟩
theorem o19_0 : mkK (f8_0 0 0 1 1) (fun t s => codeK ckC 400 bodyL t s (kLoop ps k5 p19 kk)) = true := by kernel_rfl
theorem o19_1 : mkK (f8_0 1 1 1 1) (fun t s => codeK ckC 400 bodyL t s (kLoop ps k5 p19 kk)) = true := by kernel_rfl
theorem o19_2 : mkK (f8_0 2 2 1 1) (fun t s => codeK ckC 400 bodyL t s (kLoop ps k5 p19 kk)) = true := by kernel_rfl
theorem o19_3 : mkK (f8_0 3 3 1 1) (fun t s => codeK ckC 400 bodyL t s (kLoop ps k5 p19 kk)) = true := by kernel_rfl
theorem o19_4 : mkK (f8_0 4 4 1 1) (fun t s => codeK ckC 400 bodyL t s (kLoop ps k5 p19 kk)) = true := by kernel_rfl
theorem o19_5 : mkK (f8_0 5 5 1 1) (fun t s => codeK ckC 400 bodyL t s (kLoop ps k5 p19 kk)) = true := by kernel_rfl
theorem o19_6 : mkK (f8_0 6 6 1 1) (fun t s => codeK ckC 400 bodyL t s (kLoop ps k5 p19 kk)) = true := by kernel_rfl
theorem o19_7 : mkK (f8_0 7 7 1 1) (fun t s => codeK ckC 400 bodyL t s (kLoop ps k5 p19 kk)) = true := by kernel_rfl
theorem o19 : Okp p19 := ⟨⟨by kernel_rfl, by kernel_rfl⟩, o19_0, o19_1, o19_2, o19_3, o19_4, o19_5, o19_6, o19_7, trivial⟩
theorem o29_0 : mkK (f8_0 0 0 3 2) (fun t s => codeK ckC 400 bodyL t s (kLoop ps k5 p29 kk)) = true := by kernel_rfl
theorem o29_1 : mkK (f8_0 1 1 3 2) (fun t s => codeK ckC 400 bodyL t s (kLoop ps k5 p29 kk)) = true := by kernel_rfl
theorem o29_2 : mkK (f8_0 2 2 3 2) (fun t s => codeK ckC 400 bodyL t s (kLoop ps k5 p29 kk)) = true := by kernel_rfl
theorem o29_3 : mkK (f8_0 3 3 3 2) (fun t s => codeK ckC 400 bodyL t s (kLoop ps k5 p29 kk)) = true := by kernel_rfl
theorem o29_4 : mkK (f8_0 4 4 3 2) (fun t s => codeK ckC 400 bodyL t s (kLoop ps k5 p29 kk)) = true := by kernel_rfl
theorem o29_5 : mkK (f8_0 5 5 3 2) (fun t s => codeK ckC 400 bodyL t s (kLoop ps k5 p29 kk)) = true := by kernel_rfl
theorem o29_6 : mkK (f8_0 6 6 3 2) (fun t s => codeK ckC 400 bodyL t s (kLoop ps k5 p29 kk)) = true := by kernel_rfl
theorem o29_7 : mkK (f8_0 7 7 3 2) (fun t s => codeK ckC 400 bodyL t s (kLoop ps k5 p29 kk)) = true := by kernel_rfl
theorem o29 : Okp p29 := ⟨⟨by kernel_rfl, by kernel_rfl⟩, o29_0, o29_1, o29_2, o29_3, o29_4, o29_5, o29_6, o29_7, trivial⟩
theorem o39_0 : mkK (f8_0 0 0 5 3) (fun t s => codeK ckC 400 bodyL t s (kLoop ps k5 p39 kk)) = true := by kernel_rfl
theorem o39_1 : mkK (f8_0 1 1 5 3) (fun t s => codeK ckC 400 bodyL t s (kLoop ps k5 p39 kk)) = true := by kernel_rfl
theorem o39_2 : mkK (f8_0 2 2 5 3) (fun t s => codeK ckC 400 bodyL t s (kLoop ps k5 p39 kk)) = true := by kernel_rfl
theorem o39_3 : mkK (f8_0 3 3 5 3) (fun t s => codeK ckC 400 bodyL t s (kLoop ps k5 p39 kk)) = true := by kernel_rfl
theorem o39_4 : mkK (f8_0 4 4 5 3) (fun t s => codeK ckC 400 bodyL t s (kLoop ps k5 p39 kk)) = true := by kernel_rfl
theorem o39_5 : mkK (f8_0 5 5 5 3) (fun t s => codeK ckC 400 bodyL t s (kLoop ps k5 p39 kk)) = true := by kernel_rfl
theorem o39_6 : mkK (f8_0 6 6 5 3) (fun t s => codeK ckC 400 bodyL t s (kLoop ps k5 p39 kk)) = true := by kernel_rfl
theorem o39_7 : mkK (f8_0 7 7 5 3) (fun t s => codeK ckC 400 bodyL t s (kLoop ps k5 p39 kk)) = true := by kernel_rfl
theorem o39 : Okp p39 := ⟨⟨by kernel_rfl, by kernel_rfl⟩, o39_0, o39_1, o39_2, o39_3, o39_4, o39_5, o39_6, o39_7, trivial⟩
theorem o49_0 : mkK (f8_0 0 0 7 4) (fun t s => codeK ckC 400 bodyL t s (kLoop ps k5 p49 kk)) = true := by kernel_rfl
theorem o49_1 : mkK (f8_0 1 1 7 4) (fun t s => codeK ckC 400 bodyL t s (kLoop ps k5 p49 kk)) = true := by kernel_rfl
theorem o49_2 : mkK (f8_0 2 2 7 4) (fun t s => codeK ckC 400 bodyL t s (kLoop ps k5 p49 kk)) = true := by kernel_rfl
theorem o49_3 : mkK (f8_0 3 3 7 4) (fun t s => codeK ckC 400 bodyL t s (kLoop ps k5 p49 kk)) = true := by kernel_rfl
theorem o49_4 : mkK (f8_0 4 4 7 4) (fun t s => codeK ckC 400 bodyL t s (kLoop ps k5 p49 kk)) = true := by kernel_rfl
theorem o49_5 : mkK (f8_0 5 5 7 4) (fun t s => codeK ckC 400 bodyL t s (kLoop ps k5 p49 kk)) = true := by kernel_rfl
theorem o49_6 : mkK (f8_0 6 6 7 4) (fun t s => codeK ckC 400 bodyL t s (kLoop ps k5 p49 kk)) = true := by kernel_rfl
theorem o49_7 : mkK (f8_0 7 7 7 4) (fun t s => codeK ckC 400 bodyL t s (kLoop ps k5 p49 kk)) = true := by kernel_rfl
theorem o49 : Okp p49 := ⟨⟨by kernel_rfl, by kernel_rfl⟩, o49_0, o49_1, o49_2, o49_3, o49_4, o49_5, o49_6, o49_7, trivial⟩
theorem o59_0 : mkK (f8_0 0 0 1 6) (fun t s => codeK ckC 400 bodyL t s (kLoop ps k5 p59 kk)) = true := by kernel_rfl
theorem o59_1 : mkK (f8_0 1 1 1 6) (fun t s => codeK ckC 400 bodyL t s (kLoop ps k5 p59 kk)) = true := by kernel_rfl
theorem o59_2 : mkK (f8_0 2 2 1 6) (fun t s => codeK ckC 400 bodyL t s (kLoop ps k5 p59 kk)) = true := by kernel_rfl
theorem o59_3 : mkK (f8_0 3 3 1 6) (fun t s => codeK ckC 400 bodyL t s (kLoop ps k5 p59 kk)) = true := by kernel_rfl
theorem o59_4 : mkK (f8_0 4 4 1 6) (fun t s => codeK ckC 400 bodyL t s (kLoop ps k5 p59 kk)) = true := by kernel_rfl
theorem o59_5 : mkK (f8_0 5 5 1 6) (fun t s => codeK ckC 400 bodyL t s (kLoop ps k5 p59 kk)) = true := by kernel_rfl
theorem o59_6 : mkK (f8_0 6 6 1 6) (fun t s => codeK ckC 400 bodyL t s (kLoop ps k5 p59 kk)) = true := by kernel_rfl
theorem o59_7 : mkK (f8_0 7 7 1 6) (fun t s => codeK ckC 400 bodyL t s (kLoop ps k5 p59 kk)) = true := by kernel_rfl
theorem o59 : Okp p59 := ⟨⟨by kernel_rfl, by kernel_rfl⟩, o59_0, o59_1, o59_2, o59_3, o59_4, o59_5, o59_6, o59_7, trivial⟩
theorem o69_0 : mkK (f8_0 0 0 3 7) (fun t s => codeK ckC 400 bodyL t s (kLoop ps k5 p69 kk)) = true := by kernel_rfl
theorem o69_1 : mkK (f8_0 1 1 3 7) (fun t s => codeK ckC 400 bodyL t s (kLoop ps k5 p69 kk)) = true := by kernel_rfl
theorem o69_2 : mkK (f8_0 2 2 3 7) (fun t s => codeK ckC 400 bodyL t s (kLoop ps k5 p69 kk)) = true := by kernel_rfl
theorem o69_3 : mkK (f8_0 3 3 3 7) (fun t s => codeK ckC 400 bodyL t s (kLoop ps k5 p69 kk)) = true := by kernel_rfl
theorem o69_4 : mkK (f8_0 4 4 3 7) (fun t s => codeK ckC 400 bodyL t s (kLoop ps k5 p69 kk)) = true := by kernel_rfl
theorem o69_5 : mkK (f8_0 5 5 3 7) (fun t s => codeK ckC 400 bodyL t s (kLoop ps k5 p69 kk)) = true := by kernel_rfl
theorem o69_6 : mkK (f8_0 6 6 3 7) (fun t s => codeK ckC 400 bodyL t s (kLoop ps k5 p69 kk)) = true := by kernel_rfl
theorem o69_7 : mkK (f8_0 7 7 3 7) (fun t s => codeK ckC 400 bodyL t s (kLoop ps k5 p69 kk)) = true := by kernel_rfl
theorem o69 : Okp p69 := ⟨⟨by kernel_rfl, by kernel_rfl⟩, o69_0, o69_1, o69_2, o69_3, o69_4, o69_5, o69_6, o69_7, trivial⟩
theorem o79_0 : mkK (f12_0 0 0 5 1) (fun t s => codeK ckC 400 bodyL t s (kLoop ps k5 p79 kk)) = true := by kernel_rfl
theorem o79_1 : mkK (f12_0 1 1 5 1) (fun t s => codeK ckC 400 bodyL t s (kLoop ps k5 p79 kk)) = true := by kernel_rfl
theorem o79_2 : mkK (f12_0 2 2 5 1) (fun t s => codeK ckC 400 bodyL t s (kLoop ps k5 p79 kk)) = true := by kernel_rfl
theorem o79_3 : mkK (f12_0 3 3 5 1) (fun t s => codeK ckC 400 bodyL t s (kLoop ps k5 p79 kk)) = true := by kernel_rfl
theorem o79_4 : mkK (f12_0 4 4 5 1) (fun t s => codeK ckC 400 bodyL t s (kLoop ps k5 p79 kk)) = true := by kernel_rfl
theorem o79_5 : mkK (f12_0 5 5 5 1) (fun t s => codeK ckC 400 bodyL t s (kLoop ps k5 p79 kk)) = true := by kernel_rfl
theorem o79_6 : mkK (f12_0 6 6 5 1) (fun t s => codeK ckC 400 bodyL t s (kLoop ps k5 p79 kk)) = true := by kernel_rfl
theorem o79_7 : mkK (f12_0 7 7 5 1) (fun t s => codeK ckC 400 bodyL t s (kLoop ps k5 p79 kk)) = true := by kernel_rfl
theorem o79 : Okp p79 := ⟨⟨by kernel_rfl, by kernel_rfl⟩, o79_0, o79_1, o79_2, o79_3, o79_4, o79_5, o79_6, o79_7, trivial⟩
theorem o89_0 : mkK (f12_0 0 0 7 2) (fun t s => codeK ckC 400 bodyL t s (kLoop ps k5 p89 kk)) = true := by kernel_rfl
theorem o89_1 : mkK (f12_0 1 1 7 2) (fun t s => codeK ckC 400 bodyL t s (kLoop ps k5 p89 kk)) = true := by kernel_rfl
theorem o89_2 : mkK (f12_0 2 2 7 2) (fun t s => codeK ckC 400 bodyL t s (kLoop ps k5 p89 kk)) = true := by kernel_rfl
theorem o89_3 : mkK (f12_0 3 3 7 2) (fun t s => codeK ckC 400 bodyL t s (kLoop ps k5 p89 kk)) = true := by kernel_rfl
theorem o89_4 : mkK (f12_0 4 4 7 2) (fun t s => codeK ckC 400 bodyL t s (kLoop ps k5 p89 kk)) = true := by kernel_rfl
theorem o89_5 : mkK (f12_0 5 5 7 2) (fun t s => codeK ckC 400 bodyL t s (kLoop ps k5 p89 kk)) = true := by kernel_rfl
theorem o89_6 : mkK (f12_0 6 6 7 2) (fun t s => codeK ckC 400 bodyL t s (kLoop ps k5 p89 kk)) = true := by kernel_rfl
theorem o89_7 : mkK (f12_0 7 7 7 2) (fun t s => codeK ckC 400 bodyL t s (kLoop ps k5 p89 kk)) = true := by kernel_rfl
theorem o89 : Okp p89 := ⟨⟨by kernel_rfl, by kernel_rfl⟩, o89_0, o89_1, o89_2, o89_3, o89_4, o89_5, o89_6, o89_7, trivial⟩
theorem o99_0 : mkK (f12_0 0 0 1 4) (fun t s => codeK ckC 400 bodyL t s (kLoop ps k5 p99 kk)) = true := by kernel_rfl
theorem o99_1 : mkK (f12_0 1 1 1 4) (fun t s => codeK ckC 400 bodyL t s (kLoop ps k5 p99 kk)) = true := by kernel_rfl
theorem o99_2 : mkK (f12_0 2 2 1 4) (fun t s => codeK ckC 400 bodyL t s (kLoop ps k5 p99 kk)) = true := by kernel_rfl
theorem o99_3 : mkK (f12_0 3 3 1 4) (fun t s => codeK ckC 400 bodyL t s (kLoop ps k5 p99 kk)) = true := by kernel_rfl
theorem o99_4 : mkK (f12_0 4 4 1 4) (fun t s => codeK ckC 400 bodyL t s (kLoop ps k5 p99 kk)) = true := by kernel_rfl
theorem o99_5 : mkK (f12_0 5 5 1 4) (fun t s => codeK ckC 400 bodyL t s (kLoop ps k5 p99 kk)) = true := by kernel_rfl
theorem o99_6 : mkK (f12_0 6 6 1 4) (fun t s => codeK ckC 400 bodyL t s (kLoop ps k5 p99 kk)) = true := by kernel_rfl
theorem o99_7 : mkK (f12_0 7 7 1 4) (fun t s => codeK ckC 400 bodyL t s (kLoop ps k5 p99 kk)) = true := by kernel_rfl
theorem o99 : Okp p99 := ⟨⟨by kernel_rfl, by kernel_rfl⟩, o99_0, o99_1, o99_2, o99_3, o99_4, o99_5, o99_6, o99_7, trivial⟩
theorem o109_0 : mkK (f12_0 0 0 3 5) (fun t s => codeK ckC 400 bodyL t s (kLoop ps k5 p109 kk)) = true := by kernel_rfl
theorem o109_1 : mkK (f12_0 1 1 3 5) (fun t s => codeK ckC 400 bodyL t s (kLoop ps k5 p109 kk)) = true := by kernel_rfl
theorem o109_2 : mkK (f12_0 2 2 3 5) (fun t s => codeK ckC 400 bodyL t s (kLoop ps k5 p109 kk)) = true := by kernel_rfl
theorem o109_3 : mkK (f12_0 3 3 3 5) (fun t s => codeK ckC 400 bodyL t s (kLoop ps k5 p109 kk)) = true := by kernel_rfl
theorem o109_4 : mkK (f12_0 4 4 3 5) (fun t s => codeK ckC 400 bodyL t s (kLoop ps k5 p109 kk)) = true := by kernel_rfl
theorem o109_5 : mkK (f12_0 5 5 3 5) (fun t s => codeK ckC 400 bodyL t s (kLoop ps k5 p109 kk)) = true := by kernel_rfl
theorem o109_6 : mkK (f12_0 6 6 3 5) (fun t s => codeK ckC 400 bodyL t s (kLoop ps k5 p109 kk)) = true := by kernel_rfl
theorem o109_7 : mkK (f12_0 7 7 3 5) (fun t s => codeK ckC 400 bodyL t s (kLoop ps k5 p109 kk)) = true := by kernel_rfl
theorem o109 : Okp p109 := ⟨⟨by kernel_rfl, by kernel_rfl⟩, o109_0, o109_1, o109_2, o109_3, o109_4, o109_5, o109_6, o109_7, trivial⟩
theorem o119_0 : mkK (f12_0 0 0 5 6) (fun t s => codeK ckC 400 bodyL t s (kLoop ps k5 p119 kk)) = true := by kernel_rfl
theorem o119_1 : mkK (f12_0 1 1 5 6) (fun t s => codeK ckC 400 bodyL t s (kLoop ps k5 p119 kk)) = true := by kernel_rfl
theorem o119_2 : mkK (f12_0 2 2 5 6) (fun t s => codeK ckC 400 bodyL t s (kLoop ps k5 p119 kk)) = true := by kernel_rfl
theorem o119_3 : mkK (f12_0 3 3 5 6) (fun t s => codeK ckC 400 bodyL t s (kLoop ps k5 p119 kk)) = true := by kernel_rfl
theorem o119_4 : mkK (f12_0 4 4 5 6) (fun t s => codeK ckC 400 bodyL t s (kLoop ps k5 p119 kk)) = true := by kernel_rfl
theorem o119_5 : mkK (f12_0 5 5 5 6) (fun t s => codeK ckC 400 bodyL t s (kLoop ps k5 p119 kk)) = true := by kernel_rfl
theorem o119_6 : mkK (f12_0 6 6 5 6) (fun t s => codeK ckC 400 bodyL t s (kLoop ps k5 p119 kk)) = true := by kernel_rfl
theorem o119_7 : mkK (f12_0 7 7 5 6) (fun t s => codeK ckC 400 bodyL t s (kLoop ps k5 p119 kk)) = true := by kernel_rfl
theorem o119 : Okp p119 := ⟨⟨by kernel_rfl, by kernel_rfl⟩, o119_0, o119_1, o119_2, o119_3, o119_4, o119_5, o119_6, o119_7, trivial⟩
theorem o129_0 : mkK (f12_0 0 0 7 7) (fun t s => codeK ckC 400 bodyL t s (kLoop ps k5 p129 kk)) = true := by kernel_rfl
theorem o129_1 : mkK (f12_0 1 1 7 7) (fun t s => codeK ckC 400 bodyL t s (kLoop ps k5 p129 kk)) = true := by kernel_rfl
theorem o129_2 : mkK (f12_0 2 2 7 7) (fun t s => codeK ckC 400 bodyL t s (kLoop ps k5 p129 kk)) = true := by kernel_rfl
theorem o129_3 : mkK (f12_0 3 3 7 7) (fun t s => codeK ckC 400 bodyL t s (kLoop ps k5 p129 kk)) = true := by kernel_rfl
theorem o129_4 : mkK (f12_0 4 4 7 7) (fun t s => codeK ckC 400 bodyL t s (kLoop ps k5 p129 kk)) = true := by kernel_rfl
theorem o129_5 : mkK (f12_0 5 5 7 7) (fun t s => codeK ckC 400 bodyL t s (kLoop ps k5 p129 kk)) = true := by kernel_rfl
theorem o129_6 : mkK (f12_0 6 6 7 7) (fun t s => codeK ckC 400 bodyL t s (kLoop ps k5 p129 kk)) = true := by kernel_rfl
theorem o129_7 : mkK (f12_0 7 7 7 7) (fun t s => codeK ckC 400 bodyL t s (kLoop ps k5 p129 kk)) = true := by kernel_rfl
theorem o129 : Okp p129 := ⟨⟨by kernel_rfl, by kernel_rfl⟩, o129_0, o129_1, o129_2, o129_3, o129_4, o129_5, o129_6, o129_7, trivial⟩
end
end Go.Proofs.Ytgkemmhpfekoaaa.taskPlays
