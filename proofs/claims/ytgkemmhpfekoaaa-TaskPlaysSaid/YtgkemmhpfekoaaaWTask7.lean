/- 'detentlaw10.TaskPlays': runs behind patterns. Conditions: none. -/
import Derived.Test.YtgkemmhpfekoaaaWTaskA
namespace Go.Proofs.Ytgkemmhpfekoaaa.taskPlays
open Go.Rse Go.RowKit
set_option linter.unusedVariables false
set_option maxRecDepth 1000000
noncomputable section
theorem o7_0 : mkK (f2_0 0 0 6 0) (fun t s => codeK ckC 400 bodyL t s (kLoop ps k5 p7 kk)) = true := by kernel_rfl
theorem o7_1 : mkK (f2_0 1 1 6 0) (fun t s => codeK ckC 400 bodyL t s (kLoop ps k5 p7 kk)) = true := by kernel_rfl
theorem o7_2 : mkK (f2_0 2 2 6 0) (fun t s => codeK ckC 400 bodyL t s (kLoop ps k5 p7 kk)) = true := by kernel_rfl
theorem o7_3 : mkK (f2_0 3 3 6 0) (fun t s => codeK ckC 400 bodyL t s (kLoop ps k5 p7 kk)) = true := by kernel_rfl
theorem o7_4 : mkK (f2_0 4 4 6 0) (fun t s => codeK ckC 400 bodyL t s (kLoop ps k5 p7 kk)) = true := by kernel_rfl
theorem o7_5 : mkK (f2_0 5 5 6 0) (fun t s => codeK ckC 400 bodyL t s (kLoop ps k5 p7 kk)) = true := by kernel_rfl
theorem o7_6 : mkK (f2_0 6 6 6 0) (fun t s => codeK ckC 400 bodyL t s (kLoop ps k5 p7 kk)) = true := by kernel_rfl
theorem o7_7 : mkK (f2_0 7 7 6 0) (fun t s => codeK ckC 400 bodyL t s (kLoop ps k5 p7 kk)) = true := by kernel_rfl
theorem o7 : Okp p7 := ⟨⟨by kernel_rfl, by kernel_rfl⟩, o7_0, o7_1, o7_2, o7_3, o7_4, o7_5, o7_6, o7_7, trivial⟩
theorem o17_0 : mkK (f4_1 0 0 0 0) (fun t s => codeK ckC 400 bodyL t s (kLoop ps k5 p17 kk)) = true := by kernel_rfl
theorem o17_1 : mkK (f4_1 1 1 0 0) (fun t s => codeK ckC 400 bodyL t s (kLoop ps k5 p17 kk)) = true := by kernel_rfl
theorem o17_2 : mkK (f4_1 2 2 0 0) (fun t s => codeK ckC 400 bodyL t s (kLoop ps k5 p17 kk)) = true := by kernel_rfl
theorem o17_3 : mkK (f4_1 3 3 0 0) (fun t s => codeK ckC 400 bodyL t s (kLoop ps k5 p17 kk)) = true := by kernel_rfl
theorem o17_4 : mkK (f4_1 4 4 0 0) (fun t s => codeK ckC 400 bodyL t s (kLoop ps k5 p17 kk)) = true := by kernel_rfl
theorem o17_5 : mkK (f4_1 5 5 0 0) (fun t s => codeK ckC 400 bodyL t s (kLoop ps k5 p17 kk)) = true := by kernel_rfl
theorem o17_6 : mkK (f4_1 6 6 0 0) (fun t s => codeK ckC 400 bodyL t s (kLoop ps k5 p17 kk)) = true := by kernel_rfl
theorem o17_7 : mkK (f4_1 7 7 0 0) (fun t s => codeK ckC 400 bodyL t s (kLoop ps k5 p17 kk)) = true := by kernel_rfl
theorem o17 : Okp p17 := ⟨⟨by kernel_rfl, by kernel_rfl⟩, o17_0, o17_1, o17_2, o17_3, o17_4, o17_5, o17_6, o17_7, trivial⟩
theorem o27_0 : mkK (f8_0 0 0 1 2) (fun t s => codeK ckC 400 bodyL t s (kLoop ps k5 p27 kk)) = true := by kernel_rfl
theorem o27_1 : mkK (f8_0 1 1 1 2) (fun t s => codeK ckC 400 bodyL t s (kLoop ps k5 p27 kk)) = true := by kernel_rfl
theorem o27_2 : mkK (f8_0 2 2 1 2) (fun t s => codeK ckC 400 bodyL t s (kLoop ps k5 p27 kk)) = true := by kernel_rfl
theorem o27_3 : mkK (f8_0 3 3 1 2) (fun t s => codeK ckC 400 bodyL t s (kLoop ps k5 p27 kk)) = true := by kernel_rfl
theorem o27_4 : mkK (f8_0 4 4 1 2) (fun t s => codeK ckC 400 bodyL t s (kLoop ps k5 p27 kk)) = true := by kernel_rfl
theorem o27_5 : mkK (f8_0 5 5 1 2) (fun t s => codeK ckC 400 bodyL t s (kLoop ps k5 p27 kk)) = true := by kernel_rfl
theorem o27_6 : mkK (f8_0 6 6 1 2) (fun t s => codeK ckC 400 bodyL t s (kLoop ps k5 p27 kk)) = true := by kernel_rfl
theorem o27_7 : mkK (f8_0 7 7 1 2) (fun t s => codeK ckC 400 bodyL t s (kLoop ps k5 p27 kk)) = true := by kernel_rfl
theorem o27 : Okp p27 := ⟨⟨by kernel_rfl, by kernel_rfl⟩, o27_0, o27_1, o27_2, o27_3, o27_4, o27_5, o27_6, o27_7, trivial⟩
theorem o37_0 : mkK (f8_0 0 0 3 3) (fun t s => codeK ckC 400 bodyL t s (kLoop ps k5 p37 kk)) = true := by kernel_rfl
theorem o37_1 : mkK (f8_0 1 1 3 3) (fun t s => codeK ckC 400 bodyL t s (kLoop ps k5 p37 kk)) = true := by kernel_rfl
theorem o37_2 : mkK (f8_0 2 2 3 3) (fun t s => codeK ckC 400 bodyL t s (kLoop ps k5 p37 kk)) = true := by kernel_rfl
theorem o37_3 : mkK (f8_0 3 3 3 3) (fun t s => codeK ckC 400 bodyL t s (kLoop ps k5 p37 kk)) = true := by kernel_rfl
theorem o37_4 : mkK (f8_0 4 4 3 3) (fun t s => codeK ckC 400 bodyL t s (kLoop ps k5 p37 kk)) = true := by kernel_rfl
theorem o37_5 : mkK (f8_0 5 5 3 3) (fun t s => codeK ckC 400 bodyL t s (kLoop ps k5 p37 kk)) = true := by kernel_rfl
theorem o37_6 : mkK (f8_0 6 6 3 3) (fun t s => codeK ckC 400 bodyL t s (kLoop ps k5 p37 kk)) = true := by kernel_rfl
theorem o37_7 : mkK (f8_0 7 7 3 3) (fun t s => codeK ckC 400 bodyL t s (kLoop ps k5 p37 kk)) = true := by kernel_rfl
theorem o37 : Okp p37 := ⟨⟨by kernel_rfl, by kernel_rfl⟩, o37_0, o37_1, o37_2, o37_3, o37_4, o37_5, o37_6, o37_7, trivial⟩
theorem o47_0 : mkK (f8_0 0 0 5 4) (fun t s => codeK ckC 400 bodyL t s (kLoop ps k5 p47 kk)) = true := by kernel_rfl
theorem o47_1 : mkK (f8_0 1 1 5 4) (fun t s => codeK ckC 400 bodyL t s (kLoop ps k5 p47 kk)) = true := by kernel_rfl
theorem o47_2 : mkK (f8_0 2 2 5 4) (fun t s => codeK ckC 400 bodyL t s (kLoop ps k5 p47 kk)) = true := by kernel_rfl
theorem o47_3 : mkK (f8_0 3 3 5 4) (fun t s => codeK ckC 400 bodyL t s (kLoop ps k5 p47 kk)) = true := by kernel_rfl
theorem o47_4 : mkK (f8_0 4 4 5 4) (fun t s => codeK ckC 400 bodyL t s (kLoop ps k5 p47 kk)) = true := by kernel_rfl
theorem o47_5 : mkK (f8_0 5 5 5 4) (fun t s => codeK ckC 400 bodyL t s (kLoop ps k5 p47 kk)) = true := by kernel_rfl
theorem o47_6 : mkK (f8_0 6 6 5 4) (fun t s => codeK ckC 400 bodyL t s (kLoop ps k5 p47 kk)) = true := by kernel_rfl
theorem o47_7 : mkK (f8_0 7 7 5 4) (fun t s => codeK ckC 400 bodyL t s (kLoop ps k5 p47 kk)) = true := by kernel_rfl
theorem o47 : Okp p47 := ⟨⟨by kernel_rfl, by kernel_rfl⟩, o47_0, o47_1, o47_2, o47_3, o47_4, o47_5, o47_6, o47_7, trivial⟩
theorem o57_0 : mkK (f8_0 0 0 7 5) (fun t s => codeK ckC 400 bodyL t s (kLoop ps k5 p57 kk)) = true := by kernel_rfl
theorem o57_1 : mkK (f8_0 1 1 7 5) (fun t s => codeK ckC 400 bodyL t s (kLoop ps k5 p57 kk)) = true := by kernel_rfl
theorem o57_2 : mkK (f8_0 2 2 7 5) (fun t s => codeK ckC 400 bodyL t s (kLoop ps k5 p57 kk)) = true := by kernel_rfl
theorem o57_3 : mkK (f8_0 3 3 7 5) (fun t s => codeK ckC 400 bodyL t s (kLoop ps k5 p57 kk)) = true := by kernel_rfl
theorem o57_4 : mkK (f8_0 4 4 7 5) (fun t s => codeK ckC 400 bodyL t s (kLoop ps k5 p57 kk)) = true := by kernel_rfl
theorem o57_5 : mkK (f8_0 5 5 7 5) (fun t s => codeK ckC 400 bodyL t s (kLoop ps k5 p57 kk)) = true := by kernel_rfl
theorem o57_6 : mkK (f8_0 6 6 7 5) (fun t s => codeK ckC 400 bodyL t s (kLoop ps k5 p57 kk)) = true := by kernel_rfl
theorem o57_7 : mkK (f8_0 7 7 7 5) (fun t s => codeK ckC 400 bodyL t s (kLoop ps k5 p57 kk)) = true := by kernel_rfl
theorem o57 : Okp p57 := ⟨⟨by kernel_rfl, by kernel_rfl⟩, o57_0, o57_1, o57_2, o57_3, o57_4, o57_5, o57_6, o57_7, trivial⟩
theorem o67_0 : mkK (f8_0 0 0 1 7) (fun t s => codeK ckC 400 bodyL t s (kLoop ps k5 p67 kk)) = true := by kernel_rfl
theorem o67_1 : mkK (f8_0 1 1 1 7) (fun t s => codeK ckC 400 bodyL t s (kLoop ps k5 p67 kk)) = true := by kernel_rfl
theorem o67_2 : mkK (f8_0 2 2 1 7) (fun t s => codeK ckC 400 bodyL t s (kLoop ps k5 p67 kk)) = true := by kernel_rfl
theorem o67_3 : mkK (f8_0 3 3 1 7) (fun t s => codeK ckC 400 bodyL t s (kLoop ps k5 p67 kk)) = true := by kernel_rfl
theorem o67_4 : mkK (f8_0 4 4 1 7) (fun t s => codeK ckC 400 bodyL t s (kLoop ps k5 p67 kk)) = true := by kernel_rfl
theorem o67_5 : mkK (f8_0 5 5 1 7) (fun t s => codeK ckC 400 bodyL t s (kLoop ps k5 p67 kk)) = true := by kernel_rfl
theorem o67_6 : mkK (f8_0 6 6 1 7) (fun t s => codeK ckC 400 bodyL t s (kLoop ps k5 p67 kk)) = true := by kernel_rfl
theorem o67_7 : mkK (f8_0 7 7 1 7) (fun t s => codeK ckC 400 bodyL t s (kLoop ps k5 p67 kk)) = true := by kernel_rfl
theorem o67 : Okp p67 := ⟨⟨by kernel_rfl, by kernel_rfl⟩, o67_0, o67_1, o67_2, o67_3, o67_4, o67_5, o67_6, o67_7, trivial⟩
theorem o77_0 : mkK (f12_0 0 0 3 1) (fun t s => codeK ckC 400 bodyL t s (kLoop ps k5 p77 kk)) = true := by kernel_rfl
theorem o77_1 : mkK (f12_0 1 1 3 1) (fun t s => codeK ckC 400 bodyL t s (kLoop ps k5 p77 kk)) = true := by kernel_rfl
theorem o77_2 : mkK (f12_0 2 2 3 1) (fun t s => codeK ckC 400 bodyL t s (kLoop ps k5 p77 kk)) = true := by kernel_rfl
theorem o77_3 : mkK (f12_0 3 3 3 1) (fun t s => codeK ckC 400 bodyL t s (kLoop ps k5 p77 kk)) = true := by kernel_rfl
theorem o77_4 : mkK (f12_0 4 4 3 1) (fun t s => codeK ckC 400 bodyL t s (kLoop ps k5 p77 kk)) = true := by kernel_rfl
theorem o77_5 : mkK (f12_0 5 5 3 1) (fun t s => codeK ckC 400 bodyL t s (kLoop ps k5 p77 kk)) = true := by kernel_rfl
theorem o77_6 : mkK (f12_0 6 6 3 1) (fun t s => codeK ckC 400 bodyL t s (kLoop ps k5 p77 kk)) = true := by kernel_rfl
theorem o77_7 : mkK (f12_0 7 7 3 1) (fun t s => codeK ckC 400 bodyL t s (kLoop ps k5 p77 kk)) = true := by kernel_rfl
theorem o77 : Okp p77 := ⟨⟨by kernel_rfl, by kernel_rfl⟩, o77_0, o77_1, o77_2, o77_3, o77_4, o77_5, o77_6, o77_7, trivial⟩
theorem o87_0 : mkK (f12_0 0 0 5 2) (fun t s => codeK ckC 400 bodyL t s (kLoop ps k5 p87 kk)) = true := by kernel_rfl
theorem o87_1 : mkK (f12_0 1 1 5 2) (fun t s => codeK ckC 400 bodyL t s (kLoop ps k5 p87 kk)) = true := by kernel_rfl
theorem o87_2 : mkK (f12_0 2 2 5 2) (fun t s => codeK ckC 400 bodyL t s (kLoop ps k5 p87 kk)) = true := by kernel_rfl
theorem o87_3 : mkK (f12_0 3 3 5 2) (fun t s => codeK ckC 400 bodyL t s (kLoop ps k5 p87 kk)) = true := by kernel_rfl
theorem o87_4 : mkK (f12_0 4 4 5 2) (fun t s => codeK ckC 400 bodyL t s (kLoop ps k5 p87 kk)) = true := by kernel_rfl
theorem o87_5 : mkK (f12_0 5 5 5 2) (fun t s => codeK ckC 400 bodyL t s (kLoop ps k5 p87 kk)) = true := by kernel_rfl
theorem o87_6 : mkK (f12_0 6 6 5 2) (fun t s => codeK ckC 400 bodyL t s (kLoop ps k5 p87 kk)) = true := by kernel_rfl
theorem o87_7 : mkK (f12_0 7 7 5 2) (fun t s => codeK ckC 400 bodyL t s (kLoop ps k5 p87 kk)) = true := by kernel_rfl
theorem o87 : Okp p87 := ⟨⟨by kernel_rfl, by kernel_rfl⟩, o87_0, o87_1, o87_2, o87_3, o87_4, o87_5, o87_6, o87_7, trivial⟩
theorem o97_0 : mkK (f12_0 0 0 7 3) (fun t s => codeK ckC 400 bodyL t s (kLoop ps k5 p97 kk)) = true := by kernel_rfl
theorem o97_1 : mkK (f12_0 1 1 7 3) (fun t s => codeK ckC 400 bodyL t s (kLoop ps k5 p97 kk)) = true := by kernel_rfl
theorem o97_2 : mkK (f12_0 2 2 7 3) (fun t s => codeK ckC 400 bodyL t s (kLoop ps k5 p97 kk)) = true := by kernel_rfl
theorem o97_3 : mkK (f12_0 3 3 7 3) (fun t s => codeK ckC 400 bodyL t s (kLoop ps k5 p97 kk)) = true := by kernel_rfl
theorem o97_4 : mkK (f12_0 4 4 7 3) (fun t s => codeK ckC 400 bodyL t s (kLoop ps k5 p97 kk)) = true := by kernel_rfl
theorem o97_5 : mkK (f12_0 5 5 7 3) (fun t s => codeK ckC 400 bodyL t s (kLoop ps k5 p97 kk)) = true := by kernel_rfl
theorem o97_6 : mkK (f12_0 6 6 7 3) (fun t s => codeK ckC 400 bodyL t s (kLoop ps k5 p97 kk)) = true := by kernel_rfl
theorem o97_7 : mkK (f12_0 7 7 7 3) (fun t s => codeK ckC 400 bodyL t s (kLoop ps k5 p97 kk)) = true := by kernel_rfl
theorem o97 : Okp p97 := ⟨⟨by kernel_rfl, by kernel_rfl⟩, o97_0, o97_1, o97_2, o97_3, o97_4, o97_5, o97_6, o97_7, trivial⟩
theorem o107_0 : mkK (f12_0 0 0 1 5) (fun t s => codeK ckC 400 bodyL t s (kLoop ps k5 p107 kk)) = true := by kernel_rfl
theorem o107_1 : mkK (f12_0 1 1 1 5) (fun t s => codeK ckC 400 bodyL t s (kLoop ps k5 p107 kk)) = true := by kernel_rfl
theorem o107_2 : mkK (f12_0 2 2 1 5) (fun t s => codeK ckC 400 bodyL t s (kLoop ps k5 p107 kk)) = true := by kernel_rfl
theorem o107_3 : mkK (f12_0 3 3 1 5) (fun t s => codeK ckC 400 bodyL t s (kLoop ps k5 p107 kk)) = true := by kernel_rfl
theorem o107_4 : mkK (f12_0 4 4 1 5) (fun t s => codeK ckC 400 bodyL t s (kLoop ps k5 p107 kk)) = true := by kernel_rfl
theorem o107_5 : mkK (f12_0 5 5 1 5) (fun t s => codeK ckC 400 bodyL t s (kLoop ps k5 p107 kk)) = true := by kernel_rfl
theorem o107_6 : mkK (f12_0 6 6 1 5) (fun t s => codeK ckC 400 bodyL t s (kLoop ps k5 p107 kk)) = true := by kernel_rfl
theorem o107_7 : mkK (f12_0 7 7 1 5) (fun t s => codeK ckC 400 bodyL t s (kLoop ps k5 p107 kk)) = true := by kernel_rfl
theorem o107 : Okp p107 := ⟨⟨by kernel_rfl, by kernel_rfl⟩, o107_0, o107_1, o107_2, o107_3, o107_4, o107_5, o107_6, o107_7, trivial⟩
theorem o117_0 : mkK (f12_0 0 0 3 6) (fun t s => codeK ckC 400 bodyL t s (kLoop ps k5 p117 kk)) = true := by kernel_rfl
theorem o117_1 : mkK (f12_0 1 1 3 6) (fun t s => codeK ckC 400 bodyL t s (kLoop ps k5 p117 kk)) = true := by kernel_rfl
theorem o117_2 : mkK (f12_0 2 2 3 6) (fun t s => codeK ckC 400 bodyL t s (kLoop ps k5 p117 kk)) = true := by kernel_rfl
theorem o117_3 : mkK (f12_0 3 3 3 6) (fun t s => codeK ckC 400 bodyL t s (kLoop ps k5 p117 kk)) = true := by kernel_rfl
theorem o117_4 : mkK (f12_0 4 4 3 6) (fun t s => codeK ckC 400 bodyL t s (kLoop ps k5 p117 kk)) = true := by kernel_rfl
theorem o117_5 : mkK (f12_0 5 5 3 6) (fun t s => codeK ckC 400 bodyL t s (kLoop ps k5 p117 kk)) = true := by kernel_rfl
theorem o117_6 : mkK (f12_0 6 6 3 6) (fun t s => codeK ckC 400 bodyL t s (kLoop ps k5 p117 kk)) = true := by kernel_rfl
theorem o117_7 : mkK (f12_0 7 7 3 6) (fun t s => codeK ckC 400 bodyL t s (kLoop ps k5 p117 kk)) = true := by kernel_rfl
theorem o117 : Okp p117 := ⟨⟨by kernel_rfl, by kernel_rfl⟩, o117_0, o117_1, o117_2, o117_3, o117_4, o117_5, o117_6, o117_7, trivial⟩
theorem o127_0 : mkK (f12_0 0 0 5 7) (fun t s => codeK ckC 400 bodyL t s (kLoop ps k5 p127 kk)) = true := by kernel_rfl
theorem o127_1 : mkK (f12_0 1 1 5 7) (fun t s => codeK ckC 400 bodyL t s (kLoop ps k5 p127 kk)) = true := by kernel_rfl
theorem o127_2 : mkK (f12_0 2 2 5 7) (fun t s => codeK ckC 400 bodyL t s (kLoop ps k5 p127 kk)) = true := by kernel_rfl
theorem o127_3 : mkK (f12_0 3 3 5 7) (fun t s => codeK ckC 400 bodyL t s (kLoop ps k5 p127 kk)) = true := by kernel_rfl
theorem o127_4 : mkK (f12_0 4 4 5 7) (fun t s => codeK ckC 400 bodyL t s (kLoop ps k5 p127 kk)) = true := by kernel_rfl
theorem o127_5 : mkK (f12_0 5 5 5 7) (fun t s => codeK ckC 400 bodyL t s (kLoop ps k5 p127 kk)) = true := by kernel_rfl
theorem o127_6 : mkK (f12_0 6 6 5 7) (fun t s => codeK ckC 400 bodyL t s (kLoop ps k5 p127 kk)) = true := by kernel_rfl
theorem o127_7 : mkK (f12_0 7 7 5 7) (fun t s => codeK ckC 400 bodyL t s (kLoop ps k5 p127 kk)) = true := by kernel_rfl
theorem o127 : Okp p127 := ⟨⟨by kernel_rfl, by kernel_rfl⟩, o127_0, o127_1, o127_2, o127_3, o127_4, o127_5, o127_6, o127_7, trivial⟩
end
end Go.Proofs.Ytgkemmhpfekoaaa.taskPlays
