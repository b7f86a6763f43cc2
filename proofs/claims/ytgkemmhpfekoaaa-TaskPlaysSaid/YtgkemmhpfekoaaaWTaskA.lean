/- 'detentlaw10.TaskPlays': its code with patterns. Conditions: none. -/
import Derived.Test.YtgkemmhpfekoaaaYJ
import Derived.Test.YtgkemmhpfekoaaaYR
import Derived.Test.YtgkemmhpfekoaaaZHT
namespace Go.Proofs.Ytgkemmhpfekoaaa.taskPlays
open Go.Rse Go.RowKit
set_option linter.unusedVariables false
set_option maxRecDepth 1000000
noncomputable section
def c0 : Cell := .ptr k1 0
def c1 : Cell := .ptr k2 0
def c2 : Cell := .lin .i64 (.ofNat 1) 0 (.ofNat 0)
def c3 : Cell := .int .i64 (.ofNat 0)
def c4 : Cell := .int .i64 (.ofNat 2)
def c5 : Cell := .bool false
def c6 : Cell := .lin .i64 (.ofNat 1) 3 (.ofNat 0)
def c7 : Cell := .int .i64 (.ofNat 16)
def c8 : Cell := .int .i64 (.ofNat 7001)
def c9 : Cell := .int .i64 (.ofNat 7002)
def c10 : Cell := .int .i64 (.ofNat 4)
def c11 : Cell := .bool true
def c12 : Cell := .int .i64 (.ofNat 8)
def c13 : Cell := .int .i64 (.ofNat 12)
def f16_0 (a b w s : Int) : Pat := ⟨[(k3, .v (.one c0)), (k4, .v (.one c1)), (k5, .v (.one c2))], [.row false [c3, c3, c3, c4, c5], .row false [c6, c3, c3, c7, c5], .row false [c6, c3, c3, c7, c5]], [⟨0, 200, 0⟩, ⟨0, 200, 0⟩, ⟨-9223372036854775808, 9223372036854775807, 0⟩, ⟨a, b, 0⟩], [.sl k5 (.ofNat 1) (.ofNat 0), .ln k0, .free, .hp k3 [0] (.ofNat 1) (.ofNat 0)], some ⟨k0, .i64, 0, 2, 0⟩⟩
def f2_0 (a b w s : Int) : Pat := ⟨[(k3, .v (.one c0)), (k4, .v (.one c1)), (k5, .v (.one c2))], [.row false [c3, c3, c3, c4, c5], .row false [c6, (.int .i64 w), (.int .i64 s), c4, c5], .row false [c6, (.int .i64 w), (.int .i64 s), c4, c5]], [⟨0, 200, 0⟩, ⟨0, 200, 0⟩, ⟨-9223372036854775808, 9223372036854775807, 0⟩, ⟨a, b, 0⟩], [.sl k5 (.ofNat 1) (.ofNat 0), .ln k0, .free, .hp k3 [0] (.ofNat 1) (.ofNat 0)], some ⟨k0, .i64, 0, 2, 0⟩⟩
def f4_0 (a b w s : Int) : Pat := ⟨[(k3, .v (.one c0)), (k4, .v (.one c1)), (k5, .v (.one c2))], [.row false [c3, c3, c3, c4, c5], .row false [c6, (.int .i64 w), (.int .i64 s), c10, c5], .row false [c6, (.int .i64 w), (.int .i64 s), c10, c5]], [⟨0, 200, 0⟩, ⟨0, 200, 0⟩, ⟨-9223372036854775808, 9223372036854775807, 0⟩, ⟨a, b, 0⟩], [.sl k5 (.ofNat 1) (.ofNat 0), .ln k0, .free, .hp k3 [0] (.ofNat 1) (.ofNat 0)], some ⟨k0, .i64, 0, 2, 0⟩⟩
def f4_1 (a b w s : Int) : Pat := ⟨[(k3, .v (.one c0)), (k4, .v (.one c1)), (k5, .v (.one c2))], [.row false [c3, c3, c3, c4, c5], .row false [c6, (.int .i64 w), (.int .i64 s), c10, c11], .row false [c6, (.int .i64 w), (.int .i64 s), c10, c11]], [⟨0, 200, 0⟩, ⟨0, 200, 0⟩, ⟨-9223372036854775808, 9223372036854775807, 0⟩, ⟨a, b, 0⟩], [.sl k5 (.ofNat 1) (.ofNat 0), .ln k0, .free, .hp k3 [0] (.ofNat 1) (.ofNat 0)], some ⟨k0, .i64, 0, 2, 0⟩⟩
def f8_0 (a b w s : Int) : Pat := ⟨[(k3, .v (.one c0)), (k4, .v (.one c1)), (k5, .v (.one c2))], [.row false [c3, c3, c3, c4, c5], .row false [c6, (.int .i64 w), (.int .i64 s), c12, c5], .row false [c6, (.int .i64 w), (.int .i64 s), c12, c5]], [⟨0, 200, 0⟩, ⟨0, 200, 0⟩, ⟨-9223372036854775808, 9223372036854775807, 0⟩, ⟨a, b, 0⟩], [.sl k5 (.ofNat 1) (.ofNat 0), .ln k0, .free, .hp k3 [0] (.ofNat 1) (.ofNat 0)], some ⟨k0, .i64, 0, 2, 0⟩⟩
def f12_0 (a b w s : Int) : Pat := ⟨[(k3, .v (.one c0)), (k4, .v (.one c1)), (k5, .v (.one c2))], [.row false [c3, c3, c3, c4, c5], .row false [c6, (.int .i64 w), (.int .i64 s), c13, c5], .row false [c6, (.int .i64 w), (.int .i64 s), c13, c5]], [⟨0, 200, 0⟩, ⟨0, 200, 0⟩, ⟨-9223372036854775808, 9223372036854775807, 0⟩, ⟨a, b, 0⟩], [.sl k5 (.ofNat 1) (.ofNat 0), .ln k0, .free, .hp k3 [0] (.ofNat 1) (.ofNat 0)], some ⟨k0, .i64, 0, 2, 0⟩⟩
def f12_1 (a b w s : Int) : Pat := ⟨[(k3, .v (.one c0)), (k4, .v (.one c1)), (k5, .v (.one c2))], [.row false [c3, c3, c3, c4, c5], .row false [c6, (.int .i64 w), (.int .i64 s), c13, c11], .row false [c6, (.int .i64 w), (.int .i64 s), c13, c11]], [⟨0, 200, 0⟩, ⟨0, 200, 0⟩, ⟨-9223372036854775808, 9223372036854775807, 0⟩, ⟨a, b, 0⟩], [.sl k5 (.ofNat 1) (.ofNat 0), .ln k0, .free, .hp k3 [0] (.ofNat 1) (.ofNat 0)], some ⟨k0, .i64, 0, 2, 0⟩⟩
def sp : Nat × List (Int × Int) := (3, [(0, 0), (1, 1), (2, 2), (3, 3), (4, 4), (5, 5), (6, 6), (7, 7)])
def r1 : XCode := (.region [⟨none, (some k2), .mov (.c (.v (.one (.bool false))))⟩])
def r2 : XCode := (.seq (.region [⟨none, (some k10), .call 21 k21 [] false⟩, ⟨none, (some k11), .not (.t k10)⟩]) (.cond (.t k11) (.seq (.region [⟨none, (some k2), .mov (.c (.v (.one (.bool false))))⟩]) .ret) .skip))
def r3 : XCode := (.seq (.region [⟨none, (some k12), .mov (.t k0)⟩, ⟨none, (some k13), .len (.t k12)⟩, ⟨none, (some k14), .cmp .gtr (.t k13) (.c (.v (.one (.int .i64 (.ofNat 200)))))⟩]) (.cond (.t k14) (.seq (.region [⟨none, (some k2), .mov (.c (.v (.one (.bool true))))⟩]) .ret) .skip))
def r4 : XCode := (.region [⟨none, (some k15), .call 22 k22 [] false⟩, ⟨none, (some k3), .mov (.t k15)⟩])
def r5 : XCode := (.region [⟨none, (some k16), .call 34 k34 [] false⟩, ⟨none, (some k4), .mov (.t k16)⟩])
def r6 : XCode := (.region [⟨none, (some k5), .mov (.c (.v (.one (.int .i64 (.ofNat 0)))))⟩])
def r7 : XCode := (.seq (.region [⟨none, (some k2), .mov (.c (.v (.one (.bool true))))⟩]) .ret)
def bodyL : XCode := (.seq (.seq (.region [⟨none, (some k17), .mov (.t k5)⟩, ⟨none, (some k18), .mov (.t k0)⟩, ⟨none, (some k19), .len (.t k18)⟩, ⟨none, (some k20), .cmp .lss (.t k17) (.t k19)⟩]) (.cond (.t k20) .skip (.exit 0))) (.seq (.block 1 (.seq (.region [⟨none, (some k24), .mov (.t k3)⟩, ⟨none, (some k25), .mov (.t k0)⟩, ⟨none, (some k26), .mov (.t k5)⟩, ⟨none, (some k27), .ixs (.t k25) (.t k26) 1⟩, ⟨none, (some k28), .ld1 (.t k27)⟩, ⟨none, (some k29), .call 35 k35 [(.t k24), (.t k28)] false⟩, ⟨none, (some k23), .mov (.t k29)⟩, ⟨none, (some k30), .ext (.t k23) 0⟩, ⟨none, (some k31), .ext (.t k23) 1⟩, ⟨none, (some k6), .mov (.t k30)⟩, ⟨none, (some k7), .mov (.t k31)⟩]) (.seq (.region [⟨none, (some k33), .mov (.t k4)⟩, ⟨none, (some k34), .mov (.t k0)⟩, ⟨none, (some k35), .mov (.t k5)⟩, ⟨none, (some k36), .ixs (.t k34) (.t k35) 1⟩, ⟨none, (some k37), .ld1 (.t k36)⟩, ⟨none, (some k38), .call 36 k36 [(.t k33), (.t k37)] false⟩, ⟨none, (some k32), .mov (.t k38)⟩, ⟨none, (some k39), .ext (.t k32) 0⟩, ⟨none, (some k40), .ext (.t k32) 1⟩, ⟨none, (some k8), .mov (.t k39)⟩, ⟨none, (some k9), .mov (.t k40)⟩]) (.seq (.region [⟨none, (some k41), .mov (.t k6)⟩, ⟨none, (some k42), .mov (.t k8)⟩, ⟨none, (some k43), .cmp .neq (.t k41) (.t k42)⟩, ⟨none, (some k44), .mov (.t k43)⟩, ⟨(some (k44, false)), (some k45), .mov (.t k7)⟩, ⟨(some (k44, false)), (some k46), .mov (.t k9)⟩, ⟨(some (k44, false)), (some k47), .cmp .neq (.t k45) (.t k46)⟩, ⟨none, (some k48), .pick (.t k44) (.c (.v (.one (.bool true)))) (.t k47)⟩, ⟨none, (some k49), .mov (.t k48)⟩, ⟨(some (k49, false)), (some k50), .mov (.t k3)⟩, ⟨(some (k49, false)), (some k51), .mov (.t k4)⟩, ⟨(some (k49, false)), (some k52), .call 37 k37 [(.t k50), (.t k51)] false⟩, ⟨(some (k49, false)), (some k53), .not (.t k52)⟩, ⟨none, (some k54), .pick (.t k49) (.c (.v (.one (.bool true)))) (.t k53)⟩]) (.cond (.t k54) (.seq (.region [⟨none, (some k2), .mov (.c (.v (.one (.bool false))))⟩]) .ret) .skip))))) (.region [⟨none, (some k21), .mov (.t k5)⟩, ⟨none, (some k22), .ar .add (.t k21) (.c (.v (.one (.int .i64 (.ofNat 1)))))⟩, ⟨none, (some k5), .mov (.t k22)⟩])))
def tcL (ps : List Pat) : TC := (.seq (.base r1) (.seq (.base r2) (.seq (.base r3) (.seq (.base r4) (.seq (.base r5) (.seq (.seq (.base r6) (.block 0 (.loop ps (some sp) k5 (.ofNat 200) bodyL))) (.base r7)))))))
def ckC : CK := callN xs 400 100
def kC : KX := kFin [.t k2]
def kk : KX := (kBlk 0 (kSeq ckC 400 (.base r7) kC))
def p0 : Pat := f16_0 0 7 0 0
def p1 : Pat := f2_0 0 7 0 0
def p2 : Pat := f2_0 0 7 1 0
def p3 : Pat := f2_0 0 7 2 0
def p4 : Pat := f2_0 0 7 3 0
def p5 : Pat := f2_0 0 7 4 0
def p6 : Pat := f2_0 0 7 5 0
def p7 : Pat := f2_0 0 7 6 0
def p8 : Pat := f2_0 0 7 7 0
def p9 : Pat := f4_0 0 7 0 0
def p10 : Pat := f4_0 0 7 1 0
def p11 : Pat := f4_0 0 7 2 0
def p12 : Pat := f4_0 0 7 3 0
def p13 : Pat := f4_0 0 7 4 0
def p14 : Pat := f4_0 0 7 5 0
def p15 : Pat := f4_0 0 7 6 0
def p16 : Pat := f4_0 0 7 7 0
def p17 : Pat := f4_1 0 7 0 0
def p18 : Pat := f8_0 0 7 0 1
def p19 : Pat := f8_0 0 7 1 1
def p20 : Pat := f8_0 0 7 2 1
def p21 : Pat := f8_0 0 7 3 1
def p22 : Pat := f8_0 0 7 4 1
def p23 : Pat := f8_0 0 7 5 1
def p24 : Pat := f8_0 0 7 6 1
def p25 : Pat := f8_0 0 7 7 1
def p26 : Pat := f8_0 0 7 0 2
def p27 : Pat := f8_0 0 7 1 2
def p28 : Pat := f8_0 0 7 2 2
def p29 : Pat := f8_0 0 7 3 2
def p30 : Pat := f8_0 0 7 4 2
def p31 : Pat := f8_0 0 7 5 2
def p32 : Pat := f8_0 0 7 6 2
def p33 : Pat := f8_0 0 7 7 2
def p34 : Pat := f8_0 0 7 0 3
def p35 : Pat := f8_0 0 7 1 3
def p36 : Pat := f8_0 0 7 2 3
def p37 : Pat := f8_0 0 7 3 3
def p38 : Pat := f8_0 0 7 4 3
def p39 : Pat := f8_0 0 7 5 3
def p40 : Pat := f8_0 0 7 6 3
def p41 : Pat := f8_0 0 7 7 3
def p42 : Pat := f8_0 0 7 0 4
def p43 : Pat := f8_0 0 7 1 4
def p44 : Pat := f8_0 0 7 2 4
def p45 : Pat := f8_0 0 7 3 4
def p46 : Pat := f8_0 0 7 4 4
def p47 : Pat := f8_0 0 7 5 4
def p48 : Pat := f8_0 0 7 6 4
def p49 : Pat := f8_0 0 7 7 4
def p50 : Pat := f8_0 0 7 0 5
def p51 : Pat := f8_0 0 7 1 5
def p52 : Pat := f8_0 0 7 2 5
def p53 : Pat := f8_0 0 7 3 5
def p54 : Pat := f8_0 0 7 4 5
def p55 : Pat := f8_0 0 7 5 5
def p56 : Pat := f8_0 0 7 6 5
def p57 : Pat := f8_0 0 7 7 5
def p58 : Pat := f8_0 0 7 0 6
def p59 : Pat := f8_0 0 7 1 6
def p60 : Pat := f8_0 0 7 2 6
def p61 : Pat := f8_0 0 7 3 6
def p62 : Pat := f8_0 0 7 4 6
def p63 : Pat := f8_0 0 7 5 6
def p64 : Pat := f8_0 0 7 6 6
def p65 : Pat := f8_0 0 7 7 6
def p66 : Pat := f8_0 0 7 0 7
def p67 : Pat := f8_0 0 7 1 7
def p68 : Pat := f8_0 0 7 2 7
def p69 : Pat := f8_0 0 7 3 7
def p70 : Pat := f8_0 0 7 4 7
def p71 : Pat := f8_0 0 7 5 7
def p72 : Pat := f8_0 0 7 6 7
def p73 : Pat := f8_0 0 7 7 7
def p74 : Pat := f12_0 0 7 0 1
def p75 : Pat := f12_0 0 7 1 1
def p76 : Pat := f12_0 0 7 2 1
def p77 : Pat := f12_0 0 7 3 1
def p78 : Pat := f12_0 0 7 4 1
def p79 : Pat := f12_0 0 7 5 1
def p80 : Pat := f12_0 0 7 6 1
def p81 : Pat := f12_0 0 7 7 1
def p82 : Pat := f12_0 0 7 0 2
def p83 : Pat := f12_0 0 7 1 2
def p84 : Pat := f12_0 0 7 2 2
def p85 : Pat := f12_0 0 7 3 2
def p86 : Pat := f12_0 0 7 4 2
def p87 : Pat := f12_0 0 7 5 2
def p88 : Pat := f12_0 0 7 6 2
def p89 : Pat := f12_0 0 7 7 2
def p90 : Pat := f12_0 0 7 0 3
def p91 : Pat := f12_0 0 7 1 3
def p92 : Pat := f12_0 0 7 2 3
def p93 : Pat := f12_0 0 7 3 3
def p94 : Pat := f12_0 0 7 4 3
def p95 : Pat := f12_0 0 7 5 3
def p96 : Pat := f12_0 0 7 6 3
def p97 : Pat := f12_0 0 7 7 3
def p98 : Pat := f12_0 0 7 0 4
def p99 : Pat := f12_0 0 7 1 4
def p100 : Pat := f12_0 0 7 2 4
def p101 : Pat := f12_0 0 7 3 4
def p102 : Pat := f12_0 0 7 4 4
def p103 : Pat := f12_0 0 7 5 4
def p104 : Pat := f12_0 0 7 6 4
def p105 : Pat := f12_0 0 7 7 4
def p106 : Pat := f12_0 0 7 0 5
def p107 : Pat := f12_0 0 7 1 5
def p108 : Pat := f12_0 0 7 2 5
def p109 : Pat := f12_0 0 7 3 5
def p110 : Pat := f12_0 0 7 4 5
def p111 : Pat := f12_0 0 7 5 5
def p112 : Pat := f12_0 0 7 6 5
def p113 : Pat := f12_0 0 7 7 5
def p114 : Pat := f12_0 0 7 0 6
def p115 : Pat := f12_0 0 7 1 6
def p116 : Pat := f12_0 0 7 2 6
def p117 : Pat := f12_0 0 7 3 6
def p118 : Pat := f12_0 0 7 4 6
def p119 : Pat := f12_0 0 7 5 6
def p120 : Pat := f12_0 0 7 6 6
def p121 : Pat := f12_0 0 7 7 6
def p122 : Pat := f12_0 0 7 0 7
def p123 : Pat := f12_0 0 7 1 7
def p124 : Pat := f12_0 0 7 2 7
def p125 : Pat := f12_0 0 7 3 7
def p126 : Pat := f12_0 0 7 4 7
def p127 : Pat := f12_0 0 7 5 7
def p128 : Pat := f12_0 0 7 6 7
def p129 : Pat := f12_0 0 7 7 7
def p130 : Pat := f12_1 0 7 0 1
def p131 : Pat := f12_1 0 7 0 2
def p132 : Pat := f12_1 0 7 0 3
def p133 : Pat := f12_1 0 7 0 4
def p134 : Pat := f12_1 0 7 0 5
def p135 : Pat := f12_1 0 7 0 6
def p136 : Pat := f12_1 0 7 0 7
def ps : List Pat := [p0, p1, p2, p3, p4, p5, p6, p7, p8, p9, p10, p11, p12, p13, p14, p15, p16, p17, p18, p19, p20, p21, p22, p23, p24, p25, p26, p27, p28, p29, p30, p31, p32, p33, p34, p35, p36, p37, p38, p39, p40, p41, p42, p43, p44, p45, p46, p47, p48, p49, p50, p51, p52, p53, p54, p55, p56, p57, p58, p59, p60, p61, p62, p63, p64, p65, p66, p67, p68, p69, p70, p71, p72, p73, p74, p75, p76, p77, p78, p79, p80, p81, p82, p83, p84, p85, p86, p87, p88, p89, p90, p91, p92, p93, p94, p95, p96, p97, p98, p99, p100, p101, p102, p103, p104, p105, p106, p107, p108, p109, p110, p111, p112, p113, p114, p115, p116, p117, p118, p119, p120, p121, p122, p123, p124, p125, p126, p127, p128, p129, p130, p131, p132, p133, p134, p135, p136]
theorem ob {ps : List Pat} (h : alls (fun p => (ctrB (.ofNat 200) k5 p = true ∧ covB p (some sp) = true) ∧ alls (fun q => mkK q (fun t s => codeK ckC 400 bodyL t s (kLoop ps k5 p kk)) = true) (splits p (some sp))) ps) : obl ckC 400 (tcL ps) kC := by
  unfold tcL
  simp only [obl]
  exact ⟨trivial, ⟨trivial, ⟨trivial, ⟨trivial, ⟨trivial, ⟨⟨trivial, h⟩, trivial⟩⟩⟩⟩⟩⟩
theorem chk (ps : List Pat) : chkLaw Try.prog false Try.f11 (tcL ps) [.t k2] = true := by kernel_rfl
theorem run : lawK ckC 400 (tcL ps) [.t k2] [.inS (.lin .i64 (.ofNat 1) 0 (.ofNat 0)) .i64 (.all 1)] ⟨.nil, .e, 0, 0, [⟨0, 9223372036854775807, 0⟩]⟩ = true := by kernel_rfl
/-- What is left to show of a pattern. -/
def Okp (p : Pat) : Prop := (ctrB (.ofNat 200) k5 p = true ∧ covB p (some sp) = true) ∧ alls (fun q => mkK q (fun t s => codeK ckC 400 bodyL t s (kLoop ps k5 p kk)) = true) (splits p (some sp))
end
end Go.Proofs.Ytgkemmhpfekoaaa.taskPlays
